/- The law FnCriticalPath for every input, part 5 of its proof: what the program's functions answer, and the plain law. No condition. -/
import Derived.Test.YtkmpcmhkfnoeiaaMFnCriticalPath1
import Derived.Test.YtkmpcmhkfnoeiaaMFnCriticalPath2
import Derived.Test.YtkmpcmhkfnoeiaaMFnCriticalPath3
import Derived.Test.YtkmpcmhkfnoeiaaMFnCriticalPath4
import Derived.Laws.BitsLemmas
import Derived.SizedLaws
import Derived.ChangeSlices
import Derived.ChangeArms
import Derived.WideShapes
import Derived.Deep.Slices
import Derived.OpenShut
import Derived.Test.YtkmpcmhkfnoeiaaRows
import Derived.JoinedOf
import Derived.KernelRfl
import Derived.WalkKit
import Derived.ProofKit
import Derived.ShutString
import Derived.ChangeOld
import Derived.Below
-- Laid by a program of this work.
namespace Go.Proofs.Ytkmpcmhkfnoeiaa.P
open Go.RowKit Go.Proofs.YtkmpcmhkfnoeiaaW.PrintWords Go.Proofs.YtkmpcmhkfnoeiaaW.PrintLast Go.Proofs.YtkmpcmhkfnoeiaaW.PrintMore
attribute [local go_sem] max2_int min2_int max_two min_two max_three min_three max_four min_four   -- for this text's walks alone
set_option linter.unusedVariables false
set_option linter.unusedSimpArgs false

/-! ### laws_FnCriticalPath: function 15 -/
mutual
def laws_FnCriticalPath.j0 : Nat → List Int → List (List Int) → Int → Int → Bool → Option (Bool)
  | 0, _, _, _, _, _ => none
  | k + 1, x3, x4, x5, x6, x36 => if x36 = true then (some false) else ((spec_GraphValid.f k x3 x4).bind fun t868 => (if t868 = true then (laws_FnCriticalPath.l0 k x3 x4 x5 x6 0 0 0) else (if x5 = (-1) then (if x6 = (-1) then ((laws_alive.f).bind fun t869 => (some t869)) else (some false)) else (some false))))
def laws_FnCriticalPath.l0 : Nat → List Int → List (List Int) → Int → Int → Int → Int → Int → Option (Bool)
  | 0, _, _, _, _, _, _, _ => none
  | k + 1, x3, x4, x5, x6, x7, x8, x9 => if x9 < (x3.length : Int) then (if 0 ≤ x9 then (laws_FnCriticalPath.l0 k x3 x4 x5 x6 (mx x7 (rd x3 x9)) (wrap64 (x8 + (rd x3 x9))) (wrap64 (x9 + 1))) else (none)) else (laws_FnCriticalPath.l1 k x3 x4 x5 x6 x7 x8 0)
def laws_FnCriticalPath.l1 : Nat → List Int → List (List Int) → Int → Int → Int → Int → Int → Option (Bool)
  | 0, _, _, _, _, _, _, _ => none
  | k + 1, x3, x4, x5, x6, x7, x8, x10 => if x10 < (x4.length : Int) then (if 0 ≤ x10 then (if 0 < ((rd_L5 x4 x10).length : Int) then (if 0 ≤ (rd (rd_L5 x4 x10) 0) then (if (rd (rd_L5 x4 x10) 0) < (x3.length : Int) then (if 1 < ((rd_L5 x4 x10).length : Int) then (if 0 ≤ (rd (rd_L5 x4 x10) 1) then (if (rd (rd_L5 x4 x10) 1) < (x3.length : Int) then (if (wrap64 ((rd x3 (rd (rd_L5 x4 x10) 0)) + (rd x3 (rd (rd_L5 x4 x10) 1)))) > x5 then (some false) else (if x10 ≤ (x4.length : Int) then ((impl_CriticalPath.f k x3 (x4.take (x10 : Int).toNat)).bind fun t882 => (if t882 > x5 then (some false) else (laws_FnCriticalPath.l1 k x3 x4 x5 x6 x7 x8 (wrap64 (x10 + 1))))) else (none))) else (none)) else (none)) else (none)) else (none)) else (none)) else (none)) else (none)) else (if x5 ≥ x7 then (if x5 ≤ x6 then (if x6 = x8 then ((impl_CriticalPath.f k x3 (([] : List (List Int)))).bind fun t886 => (some (t886 == x7))) else (some false)) else (some false)) else (some false))
end
def laws_FnCriticalPath.f (k : Nat) (l0 : List Int) : Option (Bool) := if (l0.length : Int) > 1048576 then (some true) else ((spec_DrawCriticalPath.f k l0).bind fun bt858 => ((impl_CriticalPath.f k bt858.1 bt858.2).bind fun t864 => ((impl_Volume.f k bt858.1 bt858.2).bind fun t865 => ((spec_CriticalPath.f k bt858.1 bt858.2).bind fun t866 => (if t864 = t866 then ((spec_Volume.f k bt858.1 bt858.2).bind fun t867 => (laws_FnCriticalPath.j0 k bt858.1 bt858.2 t864 t865 (t865 != t867))) else (laws_FnCriticalPath.j0 k bt858.1 bt858.2 t864 t865 true))))))
theorem laws_FnCriticalPath.mono_l : ∀ k, (∀ y0 y1 y2 y3 y4, LeO (laws_FnCriticalPath.j0 k y0 y1 y2 y3 y4) (laws_FnCriticalPath.j0 (k + 1) y0 y1 y2 y3 y4)) ∧ (∀ y0 y1 y2 y3 y4 y5 y6, LeO (laws_FnCriticalPath.l0 k y0 y1 y2 y3 y4 y5 y6) (laws_FnCriticalPath.l0 (k + 1) y0 y1 y2 y3 y4 y5 y6)) ∧ (∀ y0 y1 y2 y3 y4 y5 y6, LeO (laws_FnCriticalPath.l1 k y0 y1 y2 y3 y4 y5 y6) (laws_FnCriticalPath.l1 (k + 1) y0 y1 y2 y3 y4 y5 y6))
  | 0 => ⟨fun _ _ _ _ _ r h => by simp [laws_FnCriticalPath.j0] at h, fun _ _ _ _ _ _ _ r h => by simp [laws_FnCriticalPath.l0] at h, fun _ _ _ _ _ _ _ r h => by simp [laws_FnCriticalPath.l1] at h⟩
  | k + 1 => by
    obtain ⟨ih0, ih1, ih2⟩ := laws_FnCriticalPath.mono_l k
    refine ⟨?_, ?_, ?_⟩
    · intro y0 y1 y2 y3 y4
      unfold laws_FnCriticalPath.j0
      repeat' first
      | (with_reducible exact ih0 _ _ _ _ _)
      | (with_reducible exact ih1 _ _ _ _ _ _ _)
      | (with_reducible exact ih2 _ _ _ _ _ _ _)
      | (with_reducible exact impl_CriticalPath.mono _ _ _)
      | (with_reducible exact impl_Volume.mono _ _ _)
      | (with_reducible exact spec_CriticalPath.mono _ _ _)
      | (with_reducible exact spec_DrawCriticalPath.mono _ _)
      | (with_reducible exact spec_GraphValid.mono _ _ _)
      | (with_reducible exact spec_Volume.mono _ _ _)
      | (with_reducible exact LeO.refl _)
      | (with_reducible exact LeO.none _)
      | (with_reducible refine LeO.ite ?_ ?_)
      | (with_reducible refine LeO.bind ?_ (fun _ => ?_))
      | exact ih0 _ _ _ _ _
      | exact ih1 _ _ _ _ _ _ _
      | exact ih2 _ _ _ _ _ _ _
      | exact impl_CriticalPath.mono _ _ _
      | exact impl_Volume.mono _ _ _
      | exact spec_CriticalPath.mono _ _ _
      | exact spec_DrawCriticalPath.mono _ _
      | exact spec_GraphValid.mono _ _ _
      | exact spec_Volume.mono _ _ _
      | exact LeO.none _
      | refine LeO.ite ?_ ?_
      | refine LeO.bind ?_ (fun _ => ?_)
    · intro y0 y1 y2 y3 y4 y5 y6
      unfold laws_FnCriticalPath.l0
      repeat' first
      | (with_reducible exact ih0 _ _ _ _ _)
      | (with_reducible exact ih1 _ _ _ _ _ _ _)
      | (with_reducible exact ih2 _ _ _ _ _ _ _)
      | (with_reducible exact impl_CriticalPath.mono _ _ _)
      | (with_reducible exact impl_Volume.mono _ _ _)
      | (with_reducible exact spec_CriticalPath.mono _ _ _)
      | (with_reducible exact spec_DrawCriticalPath.mono _ _)
      | (with_reducible exact spec_GraphValid.mono _ _ _)
      | (with_reducible exact spec_Volume.mono _ _ _)
      | (with_reducible exact LeO.refl _)
      | (with_reducible exact LeO.none _)
      | (with_reducible refine LeO.ite ?_ ?_)
      | (with_reducible refine LeO.bind ?_ (fun _ => ?_))
      | exact ih0 _ _ _ _ _
      | exact ih1 _ _ _ _ _ _ _
      | exact ih2 _ _ _ _ _ _ _
      | exact impl_CriticalPath.mono _ _ _
      | exact impl_Volume.mono _ _ _
      | exact spec_CriticalPath.mono _ _ _
      | exact spec_DrawCriticalPath.mono _ _
      | exact spec_GraphValid.mono _ _ _
      | exact spec_Volume.mono _ _ _
      | exact LeO.none _
      | refine LeO.ite ?_ ?_
      | refine LeO.bind ?_ (fun _ => ?_)
    · intro y0 y1 y2 y3 y4 y5 y6
      unfold laws_FnCriticalPath.l1
      repeat' first
      | (with_reducible exact ih0 _ _ _ _ _)
      | (with_reducible exact ih1 _ _ _ _ _ _ _)
      | (with_reducible exact ih2 _ _ _ _ _ _ _)
      | (with_reducible exact impl_CriticalPath.mono _ _ _)
      | (with_reducible exact impl_Volume.mono _ _ _)
      | (with_reducible exact spec_CriticalPath.mono _ _ _)
      | (with_reducible exact spec_DrawCriticalPath.mono _ _)
      | (with_reducible exact spec_GraphValid.mono _ _ _)
      | (with_reducible exact spec_Volume.mono _ _ _)
      | (with_reducible exact LeO.refl _)
      | (with_reducible exact LeO.none _)
      | (with_reducible refine LeO.ite ?_ ?_)
      | (with_reducible refine LeO.bind ?_ (fun _ => ?_))
      | exact ih0 _ _ _ _ _
      | exact ih1 _ _ _ _ _ _ _
      | exact ih2 _ _ _ _ _ _ _
      | exact impl_CriticalPath.mono _ _ _
      | exact impl_Volume.mono _ _ _
      | exact spec_CriticalPath.mono _ _ _
      | exact spec_DrawCriticalPath.mono _ _
      | exact spec_GraphValid.mono _ _ _
      | exact spec_Volume.mono _ _ _
      | exact LeO.none _
      | refine LeO.ite ?_ ?_
      | refine LeO.bind ?_ (fun _ => ?_)
theorem laws_FnCriticalPath.mono : ∀ a0 k, LeO (laws_FnCriticalPath.f k a0) (laws_FnCriticalPath.f (k + 1) a0) := by
  intro a0 k
  obtain ⟨ih0, ih1, ih2⟩ := laws_FnCriticalPath.mono_l k
  unfold laws_FnCriticalPath.f
  repeat' first
      | (with_reducible exact ih0 _ _ _ _ _)
      | (with_reducible exact ih1 _ _ _ _ _ _ _)
      | (with_reducible exact ih2 _ _ _ _ _ _ _)
      | (with_reducible exact impl_CriticalPath.mono _ _ _)
      | (with_reducible exact impl_Volume.mono _ _ _)
      | (with_reducible exact spec_CriticalPath.mono _ _ _)
      | (with_reducible exact spec_DrawCriticalPath.mono _ _)
      | (with_reducible exact spec_GraphValid.mono _ _ _)
      | (with_reducible exact spec_Volume.mono _ _ _)
      | (with_reducible exact LeO.refl _)
      | (with_reducible exact LeO.none _)
      | (with_reducible refine LeO.ite ?_ ?_)
      | (with_reducible refine LeO.bind ?_ (fun _ => ?_))
      | exact ih0 _ _ _ _ _
      | exact ih1 _ _ _ _ _ _ _
      | exact ih2 _ _ _ _ _ _ _
      | exact impl_CriticalPath.mono _ _ _
      | exact impl_Volume.mono _ _ _
      | exact spec_CriticalPath.mono _ _ _
      | exact spec_DrawCriticalPath.mono _ _
      | exact spec_GraphValid.mono _ _ _
      | exact spec_Volume.mono _ _ _
      | exact LeO.none _
      | refine LeO.ite ?_ ?_
      | refine LeO.bind ?_ (fun _ => ?_)
def laws_FnCriticalPath.T20 : Bool × List (List Nat × List Nat) := (true, [([], []), ([], []), ([], []), ([1, 2], [1, 2]), ([3], [3]), ([4], [4]), ([5], [5]), ([0, 6], [0, 6]), ([7], [7]), ([], []), ([], []), ([], []), ([10, 11], [10, 11]), ([12], [12]), ([13], [13]), ([14], [14]), ([9, 15], [9, 15]), ([16], [16]), ([8, 17], [8, 17]), ([], []), ([18, 19], [18, 19]), ([20], [20]), ([21], [21]), ([21], [21]), ([21], [21]), ([23, 24, 21], [21, 23, 24]), ([22, 25, 21, 21], [21, 22, 25]), ([21], [21]), ([26, 27, 21], [21, 26, 27]), ([21, 28], [21, 28])])
def laws_FnCriticalPath.B20 : List Nat := [0, 0, 0, 6, 14, 30, 62, 127, 255, 0, 0, 0, 3072, 7168, 15360, 31744, 65024, 130560, 262143, 0, 1048575, 2097151, 4194303, 4194303, 4194303, 29360127, 67108863, 4194303, 268435455, 536870911]
theorem laws_FnCriticalPath.tab20 : rtab .any (opsOf Try.f15 20) = laws_FnCriticalPath.T20 := by kernel_rfl
theorem laws_FnCriticalPath.bits20 : waitsOk laws_FnCriticalPath.T20.2 laws_FnCriticalPath.B20 = true := by kernel_rfl
set_option maxHeartbeats 8000000 in
set_option maxRecDepth 100000 in
theorem laws_FnCriticalPath.calls (k : Nat) (A0 : Option Addr) (c0 : Nat) (l0 : List Int) (r : Bool) (w : World) (hr0 : Kd.C (Kd.int .u8) w A0 l0.length l0) (hc0 : l0.length ≤ c0) (h : laws_FnCriticalPath.f k l0 = some r) :
    Calls Try.prog 15 #[.slice A0 l0.length c0] w fun e w' => e = .returned (.bool r) ∧ Below w.heap.size w w' := by
  have HR0 := Aside0.mk hr0
  have HC0 := Aside0.mk hc0
  clear hr0 hc0
  have HB := Aside0.mk (Below.refl w.heap.size w)
  have H : (if (l0.length : Int) > 1048576 then (some true) else ((spec_DrawCriticalPath.f k l0).bind fun bt858 => ((impl_CriticalPath.f k bt858.1 bt858.2).bind fun t864 => ((impl_Volume.f k bt858.1 bt858.2).bind fun t865 => ((spec_CriticalPath.f k bt858.1 bt858.2).bind fun t866 => (if t864 = t866 then ((spec_Volume.f k bt858.1 bt858.2).bind fun t867 => (laws_FnCriticalPath.j0 k bt858.1 bt858.2 t864 t865 (t865 != t867))) else (laws_FnCriticalPath.j0 k bt858.1 bt858.2 t864 t865 true))))))) = some r := h
  clear h
  by_cases c2 : (l0.length : Int) > 1048576
  · rw [if_pos c2] at H
    have c2b0 : decide (1048576 < (l0.length : Int)) = true := decide_eq_true c2
    have c2b1 : decide (1048576 < l0.length) = true := decide_eq_true (by omega)
    clear c2
    obtain rfl := Option.some.inj H
    go_enter Try.func15, Try.ntmps15
    go_wp2
    go_ret
    exact ⟨by first | rfl | (simp [errW_none, errW_some] <;> rfl) | (simp [*, errW_none, errW_some] <;> rfl), by repeat (first | (with_reducible first | exact HB.out | apply below_alloc | apply pw_below_drewN | apply below_drew1) | exact HB.out)⟩
  · rw [if_neg c2] at H
    have c2b0 : decide (1048576 < (l0.length : Int)) = false := decide_eq_false c2
    have c2b1 : decide (1048576 < l0.length) = false := decide_eq_false (by omega)
    clear c2
    replace H := Option.bind_eq_some_iff.mp H
    obtain ⟨⟨t858, t859⟩, A30, H⟩ := H
    replace H : ((impl_CriticalPath.f k t858 t859).bind fun t864 => ((impl_Volume.f k t858 t859).bind fun t865 => ((spec_CriticalPath.f k t858 t859).bind fun t866 => (if t864 = t866 then ((spec_Volume.f k t858 t859).bind fun t867 => (laws_FnCriticalPath.j0 k t858 t859 t864 t865 (t865 != t867))) else (laws_FnCriticalPath.j0 k t858 t859 t864 t865 true))))) = some r := H
    have A3 := Aside0.mk A30
    clear A30
    replace H := Option.bind_eq_some_iff.mp H
    obtain ⟨t864, A40, H⟩ := H
    replace H : ((impl_Volume.f k t858 t859).bind fun t865 => ((spec_CriticalPath.f k t858 t859).bind fun t866 => (if t864 = t866 then ((spec_Volume.f k t858 t859).bind fun t867 => (laws_FnCriticalPath.j0 k t858 t859 t864 t865 (t865 != t867))) else (laws_FnCriticalPath.j0 k t858 t859 t864 t865 true)))) = some r := H
    have A4 := Aside0.mk A40
    clear A40
    replace H := Option.bind_eq_some_iff.mp H
    obtain ⟨t865, A50, H⟩ := H
    replace H : ((spec_CriticalPath.f k t858 t859).bind fun t866 => (if t864 = t866 then ((spec_Volume.f k t858 t859).bind fun t867 => (laws_FnCriticalPath.j0 k t858 t859 t864 t865 (t865 != t867))) else (laws_FnCriticalPath.j0 k t858 t859 t864 t865 true))) = some r := H
    have A5 := Aside0.mk A50
    clear A50
    have HC6 := Aside0.mk H
    clear H
    go_enter Try.func15, Try.ntmps15
    go_upto_region 6 with (first | ((with_reducible refine gate_callee (f := 50) rfl ?_); refine goesL_ (some 16) rfl rfl Try.func50 (by kernel_rfl) rfl #[.slice A0 l0.length c0] rfl (by (try simp only [List.map_toArray, List.map_cons, List.map_nil]); first | done | rfl | (simp only [List.length_drop, List.length_take]; rfl)) ?_; (with_reducible refine (spec_DrawCriticalPath.calls k _ _ l0 t858 t859 _ ?side1 ?side2 A3.out).mono ?_); (case side1 => repeat (first | exact HR0.out | (with_reducible refine Kd.C_alloc ?_ _) | (with_reducible refine Kd.C_drewN ?_ _) | (with_reducible refine Kd.C_drew ?_))); (case side2 => exact HC0.out); rintro e w7 ⟨v860, v862, rfl, ho0, ho1, hb⟩; refine ⟨_, rfl, ?_⟩; have n0_ := Aside0.mk (Kd.R_lower ho0 (below_size (by repeat (first | (with_reducible first | exact HB.out | apply below_alloc | apply pw_below_drewN | apply below_drew1) | exact HB.out)))); have n1_ := Aside0.mk (Kd.S_lower ho1 (below_size (by repeat (first | (with_reducible first | exact HB.out | apply below_alloc | apply pw_below_drewN | apply below_drew1) | exact HB.out)))); have n2_ := Aside0.mk (below_step (by repeat (first | (with_reducible first | exact HB.out | apply below_alloc | apply pw_below_drewN | apply below_drew1) | exact HB.out)) hb); clear HB; have HO861 := n0_; have HO863 := n1_; have HB := n2_; clear n0_ n1_ n2_; (try clear hb); (try clear hb2); (try clear hk); (try clear hi); (try clear ho0); (try clear ho1); obtain ⟨Ao8, co8, eo8⟩ := Kd.R_slice HO861.out; subst eo8; obtain ⟨Ao9, co9, eo9⟩ := Kd.S_slice HO863.out; subst eo9) | ((with_reducible refine gate_callee (f := 49) rfl ?_); refine goesL_ (some 21) rfl rfl Try.func49 (by kernel_rfl) rfl #[.slice Ao8 t858.length co8, .slice Ao9 t859.length co9] rfl (by (try simp only [List.map_toArray, List.map_cons, List.map_nil]); first | done | rfl | (simp only [List.length_drop, List.length_take]; rfl)) ?_; (with_reducible refine (impl_CriticalPath.calls k _ _ t858 _ _ t859 t864 _ ?side1 ?side2 ?side3 ?side4 A4.out).mono ?_); (case side1 => repeat (first | exact (Kd.R_reads' HO861.out).2.2 | (with_reducible refine Kd.C_alloc ?_ _) | (with_reducible refine Kd.C_drewN ?_ _) | (with_reducible refine Kd.C_drew ?_))); (case side2 => exact (Kd.R_reads' HO861.out).2.1); (case side3 => repeat (first | exact (Kd.S_reads' HO863.out).2.2 | (with_reducible refine Kd.C_alloc ?_ _) | (with_reducible refine Kd.C_drewN ?_ _) | (with_reducible refine Kd.C_drew ?_))); (case side4 => exact (Kd.S_reads' HO863.out).2.1); rintro e w10 ⟨rfl, hb⟩; refine ⟨_, rfl, ?_⟩; have n0_ := Aside0.mk (Kd.R_below (by (with_reducible repeat (first | apply Kd.R_alloc | apply Kd.R_drewN | apply Kd.R_drew)); exact HO861.out) hb); have n1_ := Aside0.mk (Kd.S_below (by (with_reducible repeat (first | apply Kd.S_alloc | apply Kd.S_drewN | apply Kd.S_drew)); exact HO863.out) hb); have n2_ := Aside0.mk (below_step (by repeat (first | (with_reducible first | exact HB.out | apply below_alloc | apply pw_below_drewN | apply below_drew1) | exact HB.out)) hb); clear HO861; clear HO863; clear HB; have HO861 := n0_; have HO863 := n1_; have HB := n2_; clear n0_ n1_ n2_; (try clear hb); (try clear hb2); (try clear hk); (try clear hi)) | ((with_reducible refine gate_callee (f := 47) rfl ?_); refine goesL_ (some 24) rfl rfl Try.func47 (by kernel_rfl) rfl #[.slice Ao8 t858.length co8, .slice Ao9 t859.length co9] rfl (by (try simp only [List.map_toArray, List.map_cons, List.map_nil]); first | done | rfl | (simp only [List.length_drop, List.length_take]; rfl)) ?_; (with_reducible refine (impl_Volume.calls k _ _ t858 _ _ t859 t865 _ ?side1 ?side2 ?side3 ?side4 A5.out).mono ?_); (case side1 => repeat (first | exact (Kd.R_reads' HO861.out).2.2 | (with_reducible refine Kd.C_alloc ?_ _) | (with_reducible refine Kd.C_drewN ?_ _) | (with_reducible refine Kd.C_drew ?_))); (case side2 => exact (Kd.R_reads' HO861.out).2.1); (case side3 => repeat (first | exact (Kd.S_reads' HO863.out).2.2 | (with_reducible refine Kd.C_alloc ?_ _) | (with_reducible refine Kd.C_drewN ?_ _) | (with_reducible refine Kd.C_drew ?_))); (case side4 => exact (Kd.S_reads' HO863.out).2.1); rintro e w11 ⟨rfl, hb⟩; refine ⟨_, rfl, ?_⟩; have n0_ := Aside0.mk (Kd.R_below (by (with_reducible repeat (first | apply Kd.R_alloc | apply Kd.R_drewN | apply Kd.R_drew)); exact HO861.out) hb); have n1_ := Aside0.mk (Kd.S_below (by (with_reducible repeat (first | apply Kd.S_alloc | apply Kd.S_drewN | apply Kd.S_drew)); exact HO863.out) hb); have n2_ := Aside0.mk (below_step (by repeat (first | (with_reducible first | exact HB.out | apply below_alloc | apply pw_below_drewN | apply below_drew1) | exact HB.out)) hb); clear HO861; clear HO863; clear HB; have HO861 := n0_; have HO863 := n1_; have HB := n2_; clear n0_ n1_ n2_; (try clear hb); (try clear hb2); (try clear hk); (try clear hi)))
    (try simp only [Act.put, List.setIfInBounds_toArray, List.set_cons_zero, List.set_cons_succ])
    go_cut [36] (fun v36 wc => ∃ (kq : Nat) (x36_5 : Bool), v36 = .bool x36_5 ∧ Aside0 (laws_FnCriticalPath.j0 kq t858 t859 t864 t865 x36_5 = some r) ∧ Aside0 (kq ≤ k) ∧ Aside0 (Kd.R (Kd.int .i64) 3 wc w.heap.size (fun _ => True) (.slice Ao8 t858.length co8) t858) ∧ Aside0 (Kd.S (Kd.slice 3 (Kd.int .i64)) 39 wc w.heap.size (fun k_ => some k_ ≠ ((.slice Ao8 t858.length co8) : Value).ownBlock) (.slice Ao9 t859.length co9) t859) ∧ Aside0 (Below w.heap.size w wc))
    case first =>
      have H := HC6.out
      clear HC6
      replace H := Option.bind_eq_some_iff.mp H
      obtain ⟨t866, A120, H⟩ := H
      replace H : (if t864 = t866 then ((spec_Volume.f k t858 t859).bind fun t867 => (laws_FnCriticalPath.j0 k t858 t859 t864 t865 (t865 != t867))) else (laws_FnCriticalPath.j0 k t858 t859 t864 t865 true)) = some r := H
      have A12 := Aside0.mk A120
      clear A120
      by_cases c13 : t864 = t866
      · rw [if_pos c13] at H
        have c13b0 : (t864 == t866) = true := beq_iff_eq.mpr c13
        have c13b1 : (t864 != t866) = false := bne_eq_false_iff_eq.mpr c13
        clear c13
        (first | rw [c13b0] | (simp only [i64_w, i32_w]; rw [c13b0]) | skip)
        replace H := Option.bind_eq_some_iff.mp H
        obtain ⟨t867, A140, H⟩ := H
        replace H : (laws_FnCriticalPath.j0 k t858 t859 t864 t865 (t865 != t867)) = some r := H
        have A14 := Aside0.mk A140
        clear A140
        have H' := Aside0.mk H
        clear H
        go_wp2_with (first | ((with_reducible refine gate_callee (f := 48) rfl ?_); refine goesL_ (some 28) rfl rfl Try.func48 (by kernel_rfl) rfl #[.slice Ao8 t858.length co8, .slice Ao9 t859.length co9] rfl (by (try simp only [List.map_toArray, List.map_cons, List.map_nil]); first | done | rfl | (simp only [List.length_drop, List.length_take]; rfl)) ?_; (with_reducible refine (spec_CriticalPath.calls k _ _ t858 _ _ t859 t866 _ ?side1 ?side2 ?side3 ?side4 A12.out).mono ?_); (case side1 => repeat (first | exact (Kd.R_reads' HO861.out).2.2 | (with_reducible refine Kd.C_alloc ?_ _) | (with_reducible refine Kd.C_drewN ?_ _) | (with_reducible refine Kd.C_drew ?_))); (case side2 => exact (Kd.R_reads' HO861.out).2.1); (case side3 => repeat (first | exact (Kd.S_reads' HO863.out).2.2 | (with_reducible refine Kd.C_alloc ?_ _) | (with_reducible refine Kd.C_drewN ?_ _) | (with_reducible refine Kd.C_drew ?_))); (case side4 => exact (Kd.S_reads' HO863.out).2.1); rintro e w15 ⟨rfl, hb⟩; refine ⟨_, rfl, ?_⟩; have n0_ := Aside0.mk (Kd.R_below (by (with_reducible repeat (first | apply Kd.R_alloc | apply Kd.R_drewN | apply Kd.R_drew)); exact HO861.out) hb); have n1_ := Aside0.mk (Kd.S_below (by (with_reducible repeat (first | apply Kd.S_alloc | apply Kd.S_drewN | apply Kd.S_drew)); exact HO863.out) hb); have n2_ := Aside0.mk (below_step (by repeat (first | (with_reducible first | exact HB.out | apply below_alloc | apply pw_below_drewN | apply below_drew1) | exact HB.out)) hb); clear HO861; clear HO863; clear HB; have HO861 := n0_; have HO863 := n1_; have HB := n2_; clear n0_ n1_ n2_; (try clear hb); (try clear hb2); (try clear hk); (try clear hi)) | (go_at_call 46; (with_reducible refine (spec_Volume.calls k _ _ t858 _ _ t859 t867 _ ?side1 ?side2 ?side3 ?side4 A14.out).mono ?_); (case side1 => repeat (first | exact (Kd.R_reads' HO861.out).2.2 | (with_reducible refine Kd.C_alloc ?_ _) | (with_reducible refine Kd.C_drewN ?_ _) | (with_reducible refine Kd.C_drew ?_))); (case side2 => exact (Kd.R_reads' HO861.out).2.1); (case side3 => repeat (first | exact (Kd.S_reads' HO863.out).2.2 | (with_reducible refine Kd.C_alloc ?_ _) | (with_reducible refine Kd.C_drewN ?_ _) | (with_reducible refine Kd.C_drew ?_))); (case side4 => exact (Kd.S_reads' HO863.out).2.1); rintro e w16 ⟨rfl, hb⟩; have n0_ := Aside0.mk (Kd.R_below (by (with_reducible repeat (first | apply Kd.R_alloc | apply Kd.R_drewN | apply Kd.R_drew)); exact HO861.out) hb); have n1_ := Aside0.mk (Kd.S_below (by (with_reducible repeat (first | apply Kd.S_alloc | apply Kd.S_drewN | apply Kd.S_drew)); exact HO863.out) hb); have n2_ := Aside0.mk (below_step (by repeat (first | (with_reducible first | exact HB.out | apply below_alloc | apply pw_below_drewN | apply below_drew1) | exact HB.out)) hb); clear HO861; clear HO863; clear HB; have HO861 := n0_; have HO863 := n1_; have HB := n2_; clear n0_ n1_ n2_; (try clear hb); (try clear hb2); (try clear hk); (try clear hi)))
        go_meet
        case rel => exact ⟨_, ((t865 != t867)), (by first | rfl | (simp; done) | (simp [*]; done)), H', ⟨by first | omega | exact Nat.le_refl _⟩, ⟨by (with_reducible repeat (first | apply Kd.R_alloc | apply Kd.R_drewN | apply Kd.R_drew)); exact HO861.out⟩, ⟨by (with_reducible repeat (first | apply Kd.S_alloc | apply Kd.S_drewN | apply Kd.S_drew)); exact HO863.out⟩, ⟨by repeat (first | (with_reducible first | exact HB.out | apply below_alloc | apply pw_below_drewN | apply below_drew1) | exact HB.out)⟩⟩
      · rw [if_neg c13] at H
        have c13b0 : (t864 == t866) = false := beq_eq_false_iff_ne.mpr c13
        have c13b1 : (t864 != t866) = true := bne_iff_ne.mpr c13
        (first | rw [c13b0] | (simp only [i64_w, i32_w]; rw [c13b0]) | skip)
        have H' := Aside0.mk H
        clear H
        go_wp2_with (first | ((with_reducible refine gate_callee (f := 48) rfl ?_); refine goesL_ (some 28) rfl rfl Try.func48 (by kernel_rfl) rfl #[.slice Ao8 t858.length co8, .slice Ao9 t859.length co9] rfl (by (try simp only [List.map_toArray, List.map_cons, List.map_nil]); first | done | rfl | (simp only [List.length_drop, List.length_take]; rfl)) ?_; (with_reducible refine (spec_CriticalPath.calls k _ _ t858 _ _ t859 t866 _ ?side1 ?side2 ?side3 ?side4 A12.out).mono ?_); (case side1 => repeat (first | exact (Kd.R_reads' HO861.out).2.2 | (with_reducible refine Kd.C_alloc ?_ _) | (with_reducible refine Kd.C_drewN ?_ _) | (with_reducible refine Kd.C_drew ?_))); (case side2 => exact (Kd.R_reads' HO861.out).2.1); (case side3 => repeat (first | exact (Kd.S_reads' HO863.out).2.2 | (with_reducible refine Kd.C_alloc ?_ _) | (with_reducible refine Kd.C_drewN ?_ _) | (with_reducible refine Kd.C_drew ?_))); (case side4 => exact (Kd.S_reads' HO863.out).2.1); rintro e w17 ⟨rfl, hb⟩; refine ⟨_, rfl, ?_⟩; have n0_ := Aside0.mk (Kd.R_below (by (with_reducible repeat (first | apply Kd.R_alloc | apply Kd.R_drewN | apply Kd.R_drew)); exact HO861.out) hb); have n1_ := Aside0.mk (Kd.S_below (by (with_reducible repeat (first | apply Kd.S_alloc | apply Kd.S_drewN | apply Kd.S_drew)); exact HO863.out) hb); have n2_ := Aside0.mk (below_step (by repeat (first | (with_reducible first | exact HB.out | apply below_alloc | apply pw_below_drewN | apply below_drew1) | exact HB.out)) hb); clear HO861; clear HO863; clear HB; have HO861 := n0_; have HO863 := n1_; have HB := n2_; clear n0_ n1_ n2_; (try clear hb); (try clear hb2); (try clear hk); (try clear hi)))
        go_meet
        case rel => exact ⟨_, (true), (by first | rfl | (simp; done) | (simp [*]; done)), H', ⟨by first | omega | exact Nat.le_refl _⟩, ⟨by (with_reducible repeat (first | apply Kd.R_alloc | apply Kd.R_drewN | apply Kd.R_drew)); exact HO861.out⟩, ⟨by (with_reducible repeat (first | apply Kd.S_alloc | apply Kd.S_drewN | apply Kd.S_drew)); exact HO863.out⟩, ⟨by repeat (first | (with_reducible first | exact HB.out | apply below_alloc | apply pw_below_drewN | apply below_drew1) | exact HB.out)⟩⟩
    case rest =>
      clear HC6
      try clear c1
      try clear c2
      try clear c2b0
      try clear c2b1
      try clear p2
      try clear c4
      try clear c5
      try clear c13
      try clear c13b0
      try clear c13b1
      try clear c15
      obtain ⟨kq, x36_5, rfl, HA, HJ5, HO_3, HO_4, HB⟩ := hcut
      cases kq with
      | zero => exact absurd HA.out (by simp [laws_FnCriticalPath.j0])
      | succ kj5 =>
        have H := HA.out
        clear HA
        simp only [laws_FnCriticalPath.j0] at H
        by_cases c18 : x36_5 = true
        · subst c18
          have H1 : (some false) = some r := by rw [if_pos rfl] at H; exact H
          clear H
          have H := H1
          clear H1
          obtain rfl := Option.some.inj H
          go_wp2
          go_ret
          exact ⟨by first | rfl | (simp [errW_none, errW_some] <;> rfl) | (simp [*, errW_none, errW_some] <;> rfl), by repeat (first | (with_reducible first | exact HB.out | apply below_alloc | apply pw_below_drewN | apply below_drew1) | exact HB.out)⟩
        · replace c18 := Bool.eq_false_iff.mpr c18
          subst c18
          have H1 : ((spec_GraphValid.f kj5 t858 t859).bind fun t868 => (if t868 = true then (laws_FnCriticalPath.l0 kj5 t858 t859 t864 t865 0 0 0) else (if t864 = (-1) then (if t865 = (-1) then ((laws_alive.f).bind fun t869 => (some t869)) else (some false)) else (some false)))) = some r := by rw [if_neg (show ¬ (false = true) by decide)] at H; exact H
          clear H
          have H := H1
          clear H1
          replace H := Option.bind_eq_some_iff.mp H
          obtain ⟨t868, A190, H⟩ := H
          replace H : (if t868 = true then (laws_FnCriticalPath.l0 kj5 t858 t859 t864 t865 0 0 0) else (if t864 = (-1) then (if t865 = (-1) then ((laws_alive.f).bind fun t869 => (some t869)) else (some false)) else (some false))) = some r := H
          have A19 := Aside0.mk A190
          clear A190
          by_cases c20 : t868 = true
          · subst c20
            have H1 : (laws_FnCriticalPath.l0 kj5 t858 t859 t864 t865 0 0 0) = some r := by rw [if_pos rfl] at H; exact H
            clear H
            have H := H1
            clear H1
            have H' := Aside0.mk H
            clear H
            go_wp2_with (first | ((with_reducible refine gate_callee (f := 41) rfl ?_); refine goesL_ (some 39) rfl rfl Try.func41 (by kernel_rfl) rfl #[.slice Ao8 t858.length co8, .slice Ao9 t859.length co9] rfl (by (try simp only [List.map_toArray, List.map_cons, List.map_nil]); first | done | rfl | (simp only [List.length_drop, List.length_take]; rfl)) ?_; (with_reducible refine (spec_GraphValid.calls kj5 _ _ t858 _ _ t859 true _ ?side1 ?side2 ?side3 ?side4 A19.out).mono ?_); (case side1 => repeat (first | exact (Kd.R_reads' HO_3.out).2.2 | (with_reducible refine Kd.C_alloc ?_ _) | (with_reducible refine Kd.C_drewN ?_ _) | (with_reducible refine Kd.C_drew ?_))); (case side2 => exact (Kd.R_reads' HO_3.out).2.1); (case side3 => repeat (first | exact (Kd.S_reads' HO_4.out).2.2 | (with_reducible refine Kd.C_alloc ?_ _) | (with_reducible refine Kd.C_drewN ?_ _) | (with_reducible refine Kd.C_drew ?_))); (case side4 => exact (Kd.S_reads' HO_4.out).2.1); rintro e w21 ⟨rfl, hb⟩; refine ⟨_, rfl, ?_⟩; have n0_ := Aside0.mk (Kd.R_below (by (with_reducible repeat (first | apply Kd.R_alloc | apply Kd.R_drewN | apply Kd.R_drew)); exact HO_3.out) hb); have n1_ := Aside0.mk (Kd.S_below (by (with_reducible repeat (first | apply Kd.S_alloc | apply Kd.S_drewN | apply Kd.S_drew)); exact HO_4.out) hb); have n2_ := Aside0.mk (below_step (by repeat (first | (with_reducible first | exact HB.out | apply below_alloc | apply pw_below_drewN | apply below_drew1) | exact HB.out)) hb); clear HO_3; clear HO_4; clear HB; have HO_3 := n0_; have HO_4 := n1_; have HB := n2_; clear n0_ n1_ n2_; (try clear hb); (try clear hb2); (try clear hk); (try clear hi)))
            go_loopg [7, 8, 9] kj5 (fun kq v7 v8 v9 w' => ∃ (x7_2 : Int) (x8_2 : Int) (x9_2 : Int), v7 = .int .i64 x7_2 ∧ v8 = .int .i64 x8_2 ∧ v9 = .int .i64 x9_2 ∧ Aside0 (laws_FnCriticalPath.l0 kq t858 t859 t864 t865 x7_2 x8_2 x9_2 = some r) ∧ Aside0 (kq ≤ kj5) ∧ Aside0 (Kd.R (Kd.int .i64) 3 w' w.heap.size (fun _ => True) (.slice Ao8 t858.length co8) t858) ∧ Aside0 (Kd.S (Kd.slice 3 (Kd.int .i64)) 39 w' w.heap.size (fun k_ => some k_ ≠ ((.slice Ao8 t858.length co8) : Value).ownBlock) (.slice Ao9 t859.length co9) t859) ∧ Aside0 (Below w.heap.size w w'))
            case atStart => exact ⟨(0), (0), (0), (by first | rfl | (simp; done) | (simp [*]; done)), (by first | rfl | (simp; done) | (simp [*]; done)), (by first | rfl | (simp; done) | (simp [*]; done)), H', ⟨Nat.le_refl _⟩, ⟨by (with_reducible repeat (first | apply Kd.R_alloc | apply Kd.R_drewN | apply Kd.R_drew)); exact HO_3.out⟩, ⟨by (with_reducible repeat (first | apply Kd.S_alloc | apply Kd.S_drewN | apply Kd.S_drew)); exact HO_4.out⟩, ⟨by repeat (first | (with_reducible first | exact HB.out | apply below_alloc | apply pw_below_drewN | apply below_drew1) | exact HB.out)⟩⟩
            case round =>
              clear H'
              try clear c1
              try clear c2
              try clear c2b0
              try clear c2b1
              try clear p2
              try clear c4
              try clear c5
              try clear c13
              try clear c13b0
              try clear c13b1
              try clear c15
              try clear c18
              try clear c20
              try clear p2
              obtain ⟨x7_2, x8_2, x9_2, rfl, rfl, rfl, HA, HK2, HO_3, HO_4, HB⟩ := hrel
              cases gk with
              | zero => exact absurd HA.out (by simp [laws_FnCriticalPath.l0])
              | succ k2 =>
                have H := HA.out
                clear HA
                simp only [laws_FnCriticalPath.l0] at H
                by_cases c22 : x9_2 < (t858.length : Int)
                · rw [if_pos c22] at H
                  have c22b0 : decide (x9_2 < (t858.length : Int)) = true := decide_eq_true c22
                  clear c22
                  by_cases c23 : 0 ≤ x9_2
                  · rw [if_pos c23] at H
                    have c23b0 : decide (0 ≤ x9_2) = true := decide_eq_true c23
                    clear c23
                    obtain ⟨ji24, hji24⟩ : ∃ j_ : Int, (mx x7_2 (rd t858 x9_2)) = j_ := ⟨_, rfl⟩
                    replace H : (laws_FnCriticalPath.l0 k2 t858 t859 t864 t865 ji24 (wrap64 (x8_2 + (rd t858 x9_2))) (wrap64 (x9_2 + 1))) = some r := by first | (rw [hji24] at H; exact H) | (simp only [hji24] at H ⊢; exact H)
                    have hji24_ : (if x7_2 < (rd t858 x9_2) then (rd t858 x9_2) else x7_2) = ji24 := hji24
                    have H' := Aside0.mk H
                    clear H
                    have p870 : 0 ≤ (x9_2 : Int) := of_decide_eq_true (by first | (with_reducible assumption) | assumption)
                    have q870 : x9_2 < (t858.length : Int) := of_decide_eq_true (by first | (with_reducible assumption) | assumption)
                    obtain ⟨ad870, e870, hx870_0⟩ := Kd.at_int (Kd.R_reads' HO_3.out).2.2 x9_2 p870 q870
                    cases e870
                    replace p870 := eq_true p870
                    replace q870 := eq_true q870
                    have p871 : 0 ≤ (x9_2 : Int) := of_decide_eq_true (by first | (with_reducible assumption) | assumption)
                    have q871 : x9_2 < (t858.length : Int) := of_decide_eq_true (by first | (with_reducible assumption) | assumption)
                    obtain ⟨ad871, e871, hx871_0⟩ := Kd.at_int (Kd.R_reads' HO_3.out).2.2 x9_2 p871 q871
                    obtain rfl : ad870 = ad871 := (by injection e871)
                    replace p871 := eq_true p871
                    replace q871 := eq_true q871
                    go_wp2
                    go_roundg k2
                    case measure => have := HJ5.out; have := HK2.out; omega
                    case rel => exact ⟨(ji24), (wrap64 (x8_2 + (rd t858 x9_2))), (wrap64 (x9_2 + 1)), (by first | rfl | (simp; done) | (simp only [← hji24] <;> (first | rfl | simp)) | (simp [*]; done)), (by first | rfl | (simp; done) | (simp [*]; done)), (by first | rfl | (simp; done) | (simp [*]; done)), H', ⟨by have := HJ5.out; have := HK2.out; omega⟩, ⟨by (with_reducible repeat (first | apply Kd.R_alloc | apply Kd.R_drewN | apply Kd.R_drew)); exact HO_3.out⟩, ⟨by (with_reducible repeat (first | apply Kd.S_alloc | apply Kd.S_drewN | apply Kd.S_drew)); exact HO_4.out⟩, ⟨by repeat (first | (with_reducible first | exact HB.out | apply below_alloc | apply pw_below_drewN | apply below_drew1) | exact HB.out)⟩⟩
                  · rw [if_neg c23] at H
                    exact absurd H (by simp)
                · rw [if_neg c22] at H
                  have c22b0 : decide (x9_2 < (t858.length : Int)) = false := decide_eq_false c22
                  clear c22
                  have H' := Aside0.mk H
                  clear H
                  go_wp2
                  go_loopg [10] k2 (fun kq v10 w' => ∃ (x10_3 : Int), v10 = .int .i64 x10_3 ∧ Aside0 (laws_FnCriticalPath.l1 kq t858 t859 t864 t865 x7_2 x8_2 x10_3 = some r) ∧ Aside0 (kq ≤ k2) ∧ Aside0 (Kd.R (Kd.int .i64) 3 w' w.heap.size (fun _ => True) (.slice Ao8 t858.length co8) t858) ∧ Aside0 (Kd.S (Kd.slice 3 (Kd.int .i64)) 39 w' w.heap.size (fun k_ => some k_ ≠ ((.slice Ao8 t858.length co8) : Value).ownBlock) (.slice Ao9 t859.length co9) t859) ∧ Aside0 (Below w.heap.size w w'))
                  case atStart => exact ⟨(0), (by first | rfl | (simp; done) | (simp [*]; done)), H', ⟨Nat.le_refl _⟩, ⟨by (with_reducible repeat (first | apply Kd.R_alloc | apply Kd.R_drewN | apply Kd.R_drew)); exact HO_3.out⟩, ⟨by (with_reducible repeat (first | apply Kd.S_alloc | apply Kd.S_drewN | apply Kd.S_drew)); exact HO_4.out⟩, ⟨by repeat (first | (with_reducible first | exact HB.out | apply below_alloc | apply pw_below_drewN | apply below_drew1) | exact HB.out)⟩⟩
                  case round =>
                    clear H'
                    try clear c1
                    try clear c2
                    try clear c2b0
                    try clear c2b1
                    try clear p2
                    try clear c4
                    try clear c5
                    try clear p6
                    try clear p8
                    try clear q8
                    try clear hx8
                    try clear c13
                    try clear c13b0
                    try clear c13b1
                    try clear c15
                    try clear c18
                    try clear c20
                    try clear c22
                    try clear c22b0
                    try clear c23
                    try clear c23b0
                    try clear hx870_0
                    try clear hx871_0
                    try clear p2
                    try clear p870
                    try clear p871
                    try clear q870
                    try clear q871
                    obtain ⟨x10_3, rfl, HA, HK3, HO_3, HO_4, HB⟩ := hrel
                    cases gk with
                    | zero => exact absurd HA.out (by simp [laws_FnCriticalPath.l1])
                    | succ k3 =>
                      have H := HA.out
                      clear HA
                      simp only [laws_FnCriticalPath.l1] at H
                      by_cases c25 : x10_3 < (t859.length : Int)
                      · rw [if_pos c25] at H
                        have c25b0 : decide (x10_3 < (t859.length : Int)) = true := decide_eq_true c25
                        clear c25
                        by_cases c26 : 0 ≤ x10_3
                        · rw [if_pos c26] at H
                          have c26b0 : decide (0 ≤ x10_3) = true := decide_eq_true c26
                          clear c26
                          by_cases c27 : 0 < ((rd_L5 t859 x10_3).length : Int)
                          · rw [if_pos c27] at H
                            have c27b0 : decide (0 < ((rd_L5 t859 x10_3).length : Int)) = true := decide_eq_true c27
                            have c27b1 : decide (0 < (rd_L5 t859 x10_3).length) = true := decide_eq_true (by omega)
                            clear c27
                            by_cases c28 : 0 ≤ (rd (rd_L5 t859 x10_3) 0)
                            · rw [if_pos c28] at H
                              have c28b0 : decide (0 ≤ (rd (rd_L5 t859 x10_3) 0)) = true := decide_eq_true c28
                              clear c28
                              by_cases c29 : (rd (rd_L5 t859 x10_3) 0) < (t858.length : Int)
                              · rw [if_pos c29] at H
                                have c29b0 : decide ((rd (rd_L5 t859 x10_3) 0) < (t858.length : Int)) = true := decide_eq_true c29
                                clear c29
                                by_cases c30 : 1 < ((rd_L5 t859 x10_3).length : Int)
                                · rw [if_pos c30] at H
                                  have c30b0 : decide (1 < ((rd_L5 t859 x10_3).length : Int)) = true := decide_eq_true c30
                                  have c30b1 : decide (1 < (rd_L5 t859 x10_3).length) = true := decide_eq_true (by omega)
                                  clear c30
                                  by_cases c31 : 0 ≤ (rd (rd_L5 t859 x10_3) 1)
                                  · rw [if_pos c31] at H
                                    have c31b0 : decide (0 ≤ (rd (rd_L5 t859 x10_3) 1)) = true := decide_eq_true c31
                                    clear c31
                                    by_cases c32 : (rd (rd_L5 t859 x10_3) 1) < (t858.length : Int)
                                    · rw [if_pos c32] at H
                                      have c32b0 : decide ((rd (rd_L5 t859 x10_3) 1) < (t858.length : Int)) = true := decide_eq_true c32
                                      clear c32
                                      by_cases c33 : (wrap64 ((rd t858 (rd (rd_L5 t859 x10_3) 0)) + (rd t858 (rd (rd_L5 t859 x10_3) 1)))) > t864
                                      · rw [if_pos c33] at H
                                        have c33b0 : decide (t864 < (wrap64 ((rd t858 (rd (rd_L5 t859 x10_3) 0)) + (rd t858 (rd (rd_L5 t859 x10_3) 1))))) = true := decide_eq_true c33
                                        clear c33
                                        obtain rfl := Option.some.inj H
                                        try go_wp2
                                        have n0_ := Aside0.mk (Kd.R_drew HO_3.out)
                                        have n1_ := Aside0.mk (Kd.S_drew HO_4.out)
                                        have n2_ := Aside0.mk (below_drew1 HB.out)
                                        clear HO_3
                                        clear HO_4
                                        clear HB
                                        have HO_3 := n0_
                                        have HO_4 := n1_
                                        have HB := n2_
                                        clear n0_ n1_ n2_
                                        have p872 : 0 ≤ (x10_3 : Int) := of_decide_eq_true (by first | (with_reducible assumption) | assumption)
                                        have q872 : x10_3 < (t859.length : Int) := of_decide_eq_true (by first | (with_reducible assumption) | assumption)
                                        obtain ⟨ad872, A872_0, c872_0, e872, hx872_0, hl872_0, hi872_0⟩ := at_L5 (Kd.S_reads' HO_4.out).2.2 x10_3 p872 q872
                                        cases e872
                                        obtain ⟨ce872, hce872, hMe872, hcc872⟩ := Kd.S_get HO_4.out [] x10_3 p872 (by first | exact q872 | exact of_decide_eq_true (by first | (with_reducible assumption) | assumption) | (have e_ := (Kd.S_reads' HO_4.out).1; omega))
                                        obtain ⟨ve872_0, rfl, ge872_0⟩ := hMe872
                                        have hv872_0 := hcc872 0 _ rfl
                                        rw [Nat.add_zero, show ((Kd.slice 3 (Kd.int .i64))).sz = 1 from rfl, Nat.mul_one] at hv872_0
                                        replace hv872_0 := Option.some.inj (hv872_0.symm.trans hx872_0)
                                        rw [hv872_0] at ge872_0
                                        have HL872_0 := Aside0.mk (show Kd.R (Kd.int .i64) 3 _ _ _ _ (rd_L5 t859 x10_3) from ge872_0)
                                        clear hv872_0 ge872_0
                                        clear hcc872 hce872
                                        have HR872_0 := Aside0.mk hi872_0
                                        have HC872_0 := Aside0.mk hl872_0
                                        clear hi872_0 hl872_0
                                        replace p872 := eq_true p872
                                        replace q872 := eq_true q872
                                        have p873 : 0 ≤ (0 : Int) := (by omega)
                                        have q873 : 0 < ((rd_L5 t859 x10_3).length : Int) := of_decide_eq_true (by first | (with_reducible assumption) | assumption)
                                        obtain ⟨ad873, e873, hx873_0⟩ := Kd.at_int (by repeat (first | (with_reducible exact HR872_0.out) | (with_reducible refine Kd.C_alloc ?_ _) | (with_reducible refine Kd.C_drewN ?_ _) | (with_reducible refine Kd.C_drew ?_) | exact HR872_0.out)) 0 p873 q873
                                        cases e873
                                        have qi873 : (0 < (rd_L5 t859 x10_3).length) = True := eq_true (by omega)
                                        (try rw [show ((0 : Int)).toNat = 0 from rfl] at hx873_0)
                                        (try rw [Addr.add_zero'] at hx873_0)
                                        replace p873 := eq_true p873
                                        replace q873 := eq_true q873
                                        have p874 : 0 ≤ ((rd (rd_L5 t859 x10_3) 0) : Int) := of_decide_eq_true (by first | (with_reducible assumption) | assumption)
                                        have q874 : (rd (rd_L5 t859 x10_3) 0) < (t858.length : Int) := of_decide_eq_true (by first | (with_reducible assumption) | assumption)
                                        obtain ⟨ad874, e874, hx874_0⟩ := Kd.at_int (Kd.R_reads' HO_3.out).2.2 (rd (rd_L5 t859 x10_3) 0) p874 q874
                                        cases e874
                                        replace p874 := eq_true p874
                                        replace q874 := eq_true q874
                                        have p875 : 0 ≤ (x10_3 : Int) := of_decide_eq_true (by first | (with_reducible assumption) | assumption)
                                        have q875 : x10_3 < (t859.length : Int) := of_decide_eq_true (by first | (with_reducible assumption) | assumption)
                                        obtain ⟨ad875, A875_0, c875_0, e875, hx875_0, hl875_0, hi875_0⟩ := at_L5 (Kd.S_reads' HO_4.out).2.2 x10_3 p875 q875
                                        obtain rfl : ad872 = ad875 := (by injection e875)
                                        obtain ⟨ce875, hce875, hMe875, hcc875⟩ := Kd.S_get HO_4.out [] x10_3 p875 (by first | exact q875 | exact of_decide_eq_true (by first | (with_reducible assumption) | assumption) | (have e_ := (Kd.S_reads' HO_4.out).1; omega))
                                        obtain ⟨ve875_0, rfl, ge875_0⟩ := hMe875
                                        have hv875_0 := hcc875 0 _ rfl
                                        rw [Nat.add_zero, show ((Kd.slice 3 (Kd.int .i64))).sz = 1 from rfl, Nat.mul_one] at hv875_0
                                        replace hv875_0 := Option.some.inj (hv875_0.symm.trans hx875_0)
                                        rw [hv875_0] at ge875_0
                                        have HL875_0 := Aside0.mk (show Kd.R (Kd.int .i64) 3 _ _ _ _ (rd_L5 t859 x10_3) from ge875_0)
                                        clear hv875_0 ge875_0
                                        clear hcc875 hce875
                                        have HR875_0 := Aside0.mk hi875_0
                                        have HC875_0 := Aside0.mk hl875_0
                                        clear hi875_0 hl875_0
                                        replace p875 := eq_true p875
                                        replace q875 := eq_true q875
                                        have ea_ := Option.some.inj (hx872_0.symm.trans hx875_0)
                                        injection ea_ with ea_ en_ ec_
                                        subst ea_
                                        subst ec_
                                        clear en_
                                        have p876 : 0 ≤ (1 : Int) := (by omega)
                                        have q876 : 1 < ((rd_L5 t859 x10_3).length : Int) := of_decide_eq_true (by first | (with_reducible assumption) | assumption)
                                        obtain ⟨ad876, e876, hx876_0⟩ := Kd.at_int (by repeat (first | (with_reducible exact HR875_0.out) | (with_reducible refine Kd.C_alloc ?_ _) | (with_reducible refine Kd.C_drewN ?_ _) | (with_reducible refine Kd.C_drew ?_) | exact HR875_0.out)) 1 p876 q876
                                        cases e876
                                        (try simp only [show (1 : Int).toNat = 1 from rfl, Nat.reduceMul, Nat.reduceEqDiff, Go.Addr.add, ↓reduceIte] at hx876_0)
                                        have qi876 : (1 < (rd_L5 t859 x10_3).length) = True := eq_true (by omega)
                                        (try rw [show ((1 : Int)).toNat = 1 from rfl] at hx876_0)
                                        replace p876 := eq_true p876
                                        replace q876 := eq_true q876
                                        have p877 : 0 ≤ ((rd (rd_L5 t859 x10_3) 1) : Int) := of_decide_eq_true (by first | (with_reducible assumption) | assumption)
                                        have q877 : (rd (rd_L5 t859 x10_3) 1) < (t858.length : Int) := of_decide_eq_true (by first | (with_reducible assumption) | assumption)
                                        obtain ⟨ad877, e877, hx877_0⟩ := Kd.at_int (Kd.R_reads' HO_3.out).2.2 (rd (rd_L5 t859 x10_3) 1) p877 q877
                                        obtain rfl : ad874 = ad877 := (by injection e877)
                                        replace p877 := eq_true p877
                                        replace q877 := eq_true q877
                                        refine start_ (n := 30) (S := fun w' => w'.cell? (ad872.add (x10_3).toNat) = some (.slice (some ad873) (rd_L5 t859 x10_3).length c872_0) ∧ w'.cell? ad873 = some (.int .i64 (rd (rd_L5 t859 x10_3) 0)) ∧ w'.cell? (ad874.add ((rd (rd_L5 t859 x10_3) 0)).toNat) = some (.int .i64 (rd t858 (rd (rd_L5 t859 x10_3) 0))) ∧ w'.cell? (ad872.add (x10_3).toNat) = some (.slice (some ad873) (rd_L5 t859 x10_3).length c872_0) ∧ w'.cell? ⟨ad873.block, ad873.off + 1, none⟩ = some (.int .i64 (rd (rd_L5 t859 x10_3) 1)) ∧ w'.cell? (ad874.add ((rd (rd_L5 t859 x10_3) 1)).toNat) = some (.int .i64 (rd t858 (rd (rd_L5 t859 x10_3) 1)))) (ds := []) #[false, false, false, false, false, false, false, false, false, false, false, false, false, false, false, false, false, false, false, false, false, false, false, false, false, false, false, false, false, false] (by kernel_rfl) rfl rfl ⟨hx872_0, hx873_0, hx874_0, hx875_0, hx876_0, hx877_0⟩ (fun hHeld => ?_); refine with_tabW laws_FnCriticalPath.tab20 laws_FnCriticalPath.bits20 (fun HT_ HW_ => ?_)
                                        generalize wr.drew = w34 at HO_3 HO_4 HB HL872_0 HL875_0 HR872_0 HR875_0 hx872_0 hx873_0 hx874_0 hx875_0 hx876_0 hx877_0 hHeld ⊢
                                        refine pure_ (i := 0) (N := some 74) (v := ?_) (a' := ?_) #[true, false, false, false, false, false, false, false, false, false, false, false, false, false, false, false, false, false, false, false, false, false, false, false, false, false, false, false, false, false] rfl rfl (any_of HT_.out (by kernel_rfl)) (fun _ _ _ h => h) (Or.inl ⟨by rfl, ?_⟩) ?_ ?_
                                        rotate_left
                                        · intro w'
                                          go_simp
                                          with_reducible rfl
                                        rotate_left
                                        · simp only [Act.put, List.setIfInBounds_toArray, List.set_cons_zero, List.set_cons_succ, i64_w, i32_w]
                                          rfl
                                        refine pure_ (i := 1) (N := some 75) (v := ?_) (a' := ?_) #[true, true, false, false, false, false, false, false, false, false, false, false, false, false, false, false, false, false, false, false, false, false, false, false, false, false, false, false, false, false] rfl rfl (any_of HT_.out (by kernel_rfl)) (fun _ _ _ h => h) (Or.inl ⟨by rfl, ?_⟩) ?_ ?_
                                        rotate_left
                                        · intro w'
                                          go_simp
                                          with_reducible rfl
                                        rotate_left
                                        · simp only [Act.put, List.setIfInBounds_toArray, List.set_cons_zero, List.set_cons_succ, i64_w, i32_w]
                                          rfl
                                        refine pure_ (i := 2) (N := some 76) (v := ?_) (a' := ?_) #[true, true, true, false, false, false, false, false, false, false, false, false, false, false, false, false, false, false, false, false, false, false, false, false, false, false, false, false, false, false] rfl rfl (any_of HT_.out (by kernel_rfl)) (fun _ _ _ h => h) (Or.inl ⟨by rfl, ?_⟩) ?_ ?_
                                        rotate_left
                                        · intro w'
                                          go_simp
                                          with_reducible rfl
                                        rotate_left
                                        · simp only [Act.put, List.setIfInBounds_toArray, List.set_cons_zero, List.set_cons_succ, i64_w, i32_w]
                                          rfl
                                        refine pure_ (i := 3) (N := some 77) (v := ?_) (a' := ?_) #[true, true, true, true, false, false, false, false, false, false, false, false, false, false, false, false, false, false, false, false, false, false, false, false, false, false, false, false, false, false] rfl rfl (any_of HT_.out (by kernel_rfl)) (fun _ _ _ h => h) (Or.inl ⟨by rfl, ?_⟩) ?_ ?_
                                        rotate_left
                                        · intro w'
                                          go_simp
                                          with_reducible rfl
                                        rotate_left
                                        · simp only [Act.put, List.setIfInBounds_toArray, List.set_cons_zero, List.set_cons_succ, i64_w, i32_w]
                                          rfl
                                        refine pure_ (i := 9) (N := some 83) (v := ?_) (a' := ?_) #[true, true, true, true, false, false, false, false, false, true, false, false, false, false, false, false, false, false, false, false, false, false, false, false, false, false, false, false, false, false] rfl rfl (any_of HT_.out (by kernel_rfl)) (fun _ _ _ h => h) (Or.inl ⟨by rfl, ?_⟩) ?_ ?_
                                        rotate_left
                                        · intro w'
                                          go_simp
                                          with_reducible rfl
                                        rotate_left
                                        · simp only [Act.put, List.setIfInBounds_toArray, List.set_cons_zero, List.set_cons_succ, i64_w, i32_w]
                                          rfl
                                        refine pure_ (i := 10) (N := some 84) (v := ?_) (a' := ?_) #[true, true, true, true, false, false, false, false, false, true, true, false, false, false, false, false, false, false, false, false, false, false, false, false, false, false, false, false, false, false] rfl rfl (any_of HT_.out (by kernel_rfl)) (fun _ _ _ h => h) (Or.inl ⟨by rfl, ?_⟩) ?_ ?_
                                        rotate_left
                                        · intro w'
                                          go_simp
                                          with_reducible rfl
                                        rotate_left
                                        · simp only [Act.put, List.setIfInBounds_toArray, List.set_cons_zero, List.set_cons_succ, i64_w, i32_w]
                                          rfl
                                        refine pure_ (i := 11) (N := some 85) (v := ?_) (a' := ?_) #[true, true, true, true, false, false, false, false, false, true, true, true, false, false, false, false, false, false, false, false, false, false, false, false, false, false, false, false, false, false] rfl rfl (any_of HT_.out (by kernel_rfl)) (fun _ _ _ h => h) (Or.inl ⟨by rfl, ?_⟩) ?_ ?_
                                        rotate_left
                                        · intro w'
                                          go_simp
                                          with_reducible rfl
                                        rotate_left
                                        · simp only [Act.put, List.setIfInBounds_toArray, List.set_cons_zero, List.set_cons_succ, i64_w, i32_w]
                                          rfl
                                        refine pure_ (i := 12) (N := some 86) (v := ?_) (a' := ?_) #[true, true, true, true, false, false, false, false, false, true, true, true, true, false, false, false, false, false, false, false, false, false, false, false, false, false, false, false, false, false] rfl rfl (any_of HT_.out (by kernel_rfl)) (fun _ _ _ h => h) (Or.inl ⟨by rfl, ?_⟩) ?_ ?_
                                        rotate_left
                                        · intro w'
                                          go_simp
                                          with_reducible rfl
                                        rotate_left
                                        · simp only [Act.put, List.setIfInBounds_toArray, List.set_cons_zero, List.set_cons_succ, i64_w, i32_w]
                                          rfl
                                        refine pure_ (i := 19) (N := some 93) (v := ?_) (a' := ?_) #[true, true, true, true, false, false, false, false, false, true, true, true, true, false, false, false, false, false, false, true, false, false, false, false, false, false, false, false, false, false] rfl rfl (any_of HT_.out (by kernel_rfl)) (fun _ _ _ h => h) (Or.inl ⟨by rfl, ?_⟩) ?_ ?_
                                        rotate_left
                                        · intro w'
                                          go_simp
                                          with_reducible rfl
                                        rotate_left
                                        · simp only [Act.put, List.setIfInBounds_toArray, List.set_cons_zero, List.set_cons_succ, i64_w, i32_w]
                                          rfl
                                        refine take_ (i := 4) (N := some 78) (v := ?_) (a' := ?_) #[true, true, true, true, true, false, false, false, false, true, true, true, true, false, false, false, false, false, false, true, false, false, false, false, false, false, false, false, false, false] rfl rfl (take_ofW HT_.out HW_.out (by kernel_rfl)) (fun _ _ _ h => h) (Or.inl ⟨by rfl, ?_⟩) hHeld ?_ ?_
                                        rotate_left
                                        · rintro w' ⟨s0, s1, s2, s3, s4, s5⟩
                                          go_simp
                                          with_reducible rfl
                                        rotate_left
                                        · simp only [Act.put, List.setIfInBounds_toArray, List.set_cons_zero, List.set_cons_succ, i64_w, i32_w]
                                          rfl
                                        refine pure_ (i := 5) (N := some 79) (v := ?_) (a' := ?_) #[true, true, true, true, true, true, false, false, false, true, true, true, true, false, false, false, false, false, false, true, false, false, false, false, false, false, false, false, false, false] rfl rfl (any_of HT_.out (by kernel_rfl)) (fun _ _ _ h => h) (Or.inl ⟨by rfl, ?_⟩) ?_ ?_
                                        rotate_left
                                        · intro w'
                                          go_simp
                                          with_reducible rfl
                                        rotate_left
                                        · simp only [Act.put, List.setIfInBounds_toArray, List.set_cons_zero, List.set_cons_succ, i64_w, i32_w]
                                          rfl
                                        refine take_ (i := 6) (N := some 80) (v := ?_) (a' := ?_) #[true, true, true, true, true, true, true, false, false, true, true, true, true, false, false, false, false, false, false, true, false, false, false, false, false, false, false, false, false, false] rfl rfl (take_ofW HT_.out HW_.out (by kernel_rfl)) (fun _ _ _ h => h) (Or.inl ⟨by rfl, ?_⟩) hHeld ?_ ?_
                                        rotate_left
                                        · rintro w' ⟨s0, s1, s2, s3, s4, s5⟩
                                          go_simp
                                          with_reducible rfl
                                        rotate_left
                                        · simp only [Act.put, List.setIfInBounds_toArray, List.set_cons_zero, List.set_cons_succ, i64_w, i32_w]
                                          rfl
                                        refine pure_ (i := 7) (N := some 81) (v := ?_) (a' := ?_) #[true, true, true, true, true, true, true, true, false, true, true, true, true, false, false, false, false, false, false, true, false, false, false, false, false, false, false, false, false, false] rfl rfl (any_of HT_.out (by kernel_rfl)) (fun _ _ _ h => h) (Or.inl ⟨by rfl, ?_⟩) ?_ ?_
                                        rotate_left
                                        · intro w'
                                          go_simp
                                          with_reducible rfl
                                        rotate_left
                                        · simp only [Act.put, List.setIfInBounds_toArray, List.set_cons_zero, List.set_cons_succ, i64_w, i32_w]
                                          rfl
                                        refine take_ (i := 8) (N := some 82) (v := ?_) (a' := ?_) #[true, true, true, true, true, true, true, true, true, true, true, true, true, false, false, false, false, false, false, true, false, false, false, false, false, false, false, false, false, false] rfl rfl (take_ofW HT_.out HW_.out (by kernel_rfl)) (fun _ _ _ h => h) (Or.inl ⟨by rfl, ?_⟩) hHeld ?_ ?_
                                        rotate_left
                                        · rintro w' ⟨s0, s1, s2, s3, s4, s5⟩
                                          go_simp
                                          with_reducible rfl
                                        rotate_left
                                        · simp only [Act.put, List.setIfInBounds_toArray, List.set_cons_zero, List.set_cons_succ, i64_w, i32_w]
                                          rfl
                                        refine take_ (i := 13) (N := some 87) (v := ?_) (a' := ?_) #[true, true, true, true, true, true, true, true, true, true, true, true, true, true, false, false, false, false, false, true, false, false, false, false, false, false, false, false, false, false] rfl rfl (take_ofW HT_.out HW_.out (by kernel_rfl)) (fun _ _ _ h => h) (Or.inl ⟨by rfl, ?_⟩) hHeld ?_ ?_
                                        rotate_left
                                        · rintro w' ⟨s0, s1, s2, s3, s4, s5⟩
                                          go_simp
                                          with_reducible rfl
                                        rotate_left
                                        · simp only [Act.put, List.setIfInBounds_toArray, List.set_cons_zero, List.set_cons_succ, i64_w, i32_w]
                                          rfl
                                        refine pure_ (i := 14) (N := some 88) (v := ?_) (a' := ?_) #[true, true, true, true, true, true, true, true, true, true, true, true, true, true, true, false, false, false, false, true, false, false, false, false, false, false, false, false, false, false] rfl rfl (any_of HT_.out (by kernel_rfl)) (fun _ _ _ h => h) (Or.inl ⟨by rfl, ?_⟩) ?_ ?_
                                        rotate_left
                                        · intro w'
                                          go_simp
                                          with_reducible rfl
                                        rotate_left
                                        · simp only [Act.put, List.setIfInBounds_toArray, List.set_cons_zero, List.set_cons_succ, i64_w, i32_w]
                                          rfl
                                        refine take_ (i := 15) (N := some 89) (v := ?_) (a' := ?_) #[true, true, true, true, true, true, true, true, true, true, true, true, true, true, true, true, false, false, false, true, false, false, false, false, false, false, false, false, false, false] rfl rfl (take_ofW HT_.out HW_.out (by kernel_rfl)) (fun _ _ _ h => h) (Or.inl ⟨by rfl, ?_⟩) hHeld ?_ ?_
                                        rotate_left
                                        · rintro w' ⟨s0, s1, s2, s3, s4, s5⟩
                                          go_simp
                                          with_reducible rfl
                                        rotate_left
                                        · simp only [Act.put, List.setIfInBounds_toArray, List.set_cons_zero, List.set_cons_succ, i64_w, i32_w]
                                          rfl
                                        refine pure_ (i := 16) (N := some 90) (v := ?_) (a' := ?_) #[true, true, true, true, true, true, true, true, true, true, true, true, true, true, true, true, true, false, false, true, false, false, false, false, false, false, false, false, false, false] rfl rfl (any_of HT_.out (by kernel_rfl)) (fun _ _ _ h => h) (Or.inl ⟨by rfl, ?_⟩) ?_ ?_
                                        rotate_left
                                        · intro w'
                                          go_simp
                                          with_reducible rfl
                                        rotate_left
                                        · simp only [Act.put, List.setIfInBounds_toArray, List.set_cons_zero, List.set_cons_succ, i64_w, i32_w]
                                          rfl
                                        refine take_ (i := 17) (N := some 91) (v := ?_) (a' := ?_) #[true, true, true, true, true, true, true, true, true, true, true, true, true, true, true, true, true, true, false, true, false, false, false, false, false, false, false, false, false, false] rfl rfl (take_ofW HT_.out HW_.out (by kernel_rfl)) (fun _ _ _ h => h) (Or.inl ⟨by rfl, ?_⟩) hHeld ?_ ?_
                                        rotate_left
                                        · rintro w' ⟨s0, s1, s2, s3, s4, s5⟩
                                          go_simp
                                          with_reducible rfl
                                        rotate_left
                                        · simp only [Act.put, List.setIfInBounds_toArray, List.set_cons_zero, List.set_cons_succ, i64_w, i32_w]
                                          rfl
                                        refine pure_ (i := 18) (N := some 92) (v := ?_) (a' := ?_) #[true, true, true, true, true, true, true, true, true, true, true, true, true, true, true, true, true, true, true, true, false, false, false, false, false, false, false, false, false, false] rfl rfl (any_of HT_.out (by kernel_rfl)) (fun _ _ _ h => h) (Or.inl ⟨by rfl, ?_⟩) ?_ ?_
                                        rotate_left
                                        · intro w'
                                          go_simp
                                          with_reducible rfl
                                        rotate_left
                                        · simp only [Act.put, List.setIfInBounds_toArray, List.set_cons_zero, List.set_cons_succ, i64_w, i32_w]
                                          rfl
                                        refine pure_ (i := 20) (N := some 94) (v := ?_) (a' := ?_) #[true, true, true, true, true, true, true, true, true, true, true, true, true, true, true, true, true, true, true, true, true, false, false, false, false, false, false, false, false, false] rfl rfl (any_of HT_.out (by kernel_rfl)) (fun _ _ _ h => h) (Or.inl ⟨by rfl, ?_⟩) ?_ ?_
                                        rotate_left
                                        · intro w'
                                          go_simp
                                          with_reducible rfl
                                        rotate_left
                                        · simp only [Act.put, List.setIfInBounds_toArray, List.set_cons_zero, List.set_cons_succ, i64_w, i32_w]
                                          rfl
                                        refine pure_ (i := 21) (N := some 95) (v := ?_) (a' := ?_) #[true, true, true, true, true, true, true, true, true, true, true, true, true, true, true, true, true, true, true, true, true, true, false, false, false, false, false, false, false, false] rfl rfl (any_of HT_.out (by kernel_rfl)) (fun _ _ _ h => h) (Or.inl ⟨by rfl, ?_⟩) ?_ ?_
                                        rotate_left
                                        · intro w'
                                          go_simp
                                          with_reducible rfl
                                        rotate_left
                                        · simp only [Act.put, List.setIfInBounds_toArray, List.set_cons_zero, List.set_cons_succ, i64_w, i32_w]
                                          rfl
                                        refine pure_ (i := 22) (N := some 96) (v := undef) (a' := ?_) #[true, true, true, true, true, true, true, true, true, true, true, true, true, true, true, true, true, true, true, true, true, true, true, false, false, false, false, false, false, false] rfl rfl (any_of HT_.out (by kernel_rfl)) (fun _ _ _ h => h) (Or.inr ⟨by rfl, rfl⟩) ?_ ?_
                                        rotate_left
                                        · simp only [Act.put, List.setIfInBounds_toArray, List.set_cons_zero, List.set_cons_succ, i64_w, i32_w]
                                          rfl
                                        refine pure_ (i := 23) (N := some 97) (v := undef) (a' := ?_) #[true, true, true, true, true, true, true, true, true, true, true, true, true, true, true, true, true, true, true, true, true, true, true, true, false, false, false, false, false, false] rfl rfl (any_of HT_.out (by kernel_rfl)) (fun _ _ _ h => h) (Or.inr ⟨by rfl, rfl⟩) ?_ ?_
                                        rotate_left
                                        · simp only [Act.put, List.setIfInBounds_toArray, List.set_cons_zero, List.set_cons_succ, i64_w, i32_w]
                                          rfl
                                        refine pure_ (i := 24) (N := some 98) (v := undef) (a' := ?_) #[true, true, true, true, true, true, true, true, true, true, true, true, true, true, true, true, true, true, true, true, true, true, true, true, true, false, false, false, false, false] rfl rfl (any_of HT_.out (by kernel_rfl)) (fun _ _ _ h => h) (Or.inr ⟨by rfl, rfl⟩) ?_ ?_
                                        rotate_left
                                        · simp only [Act.put, List.setIfInBounds_toArray, List.set_cons_zero, List.set_cons_succ, i64_w, i32_w]
                                          rfl
                                        refine pure_ (i := 25) (N := some 99) (v := undef) (a' := ?_) #[true, true, true, true, true, true, true, true, true, true, true, true, true, true, true, true, true, true, true, true, true, true, true, true, true, true, false, false, false, false] rfl rfl (any_of HT_.out (by kernel_rfl)) (fun _ _ _ h => h) (Or.inr ⟨by rfl, rfl⟩) ?_ ?_
                                        rotate_left
                                        · simp only [Act.put, List.setIfInBounds_toArray, List.set_cons_zero, List.set_cons_succ, i64_w, i32_w]
                                          rfl
                                        refine pure_ (i := 26) (N := some 100) (v := undef) (a' := ?_) #[true, true, true, true, true, true, true, true, true, true, true, true, true, true, true, true, true, true, true, true, true, true, true, true, true, true, true, false, false, false] rfl rfl (any_of HT_.out (by kernel_rfl)) (fun _ _ _ h => h) (Or.inr ⟨by rfl, rfl⟩) ?_ ?_
                                        rotate_left
                                        · simp only [Act.put, List.setIfInBounds_toArray, List.set_cons_zero, List.set_cons_succ, i64_w, i32_w]
                                          rfl
                                        refine pure_ (i := 27) (N := some 101) (v := undef) (a' := ?_) #[true, true, true, true, true, true, true, true, true, true, true, true, true, true, true, true, true, true, true, true, true, true, true, true, true, true, true, true, false, false] rfl rfl (any_of HT_.out (by kernel_rfl)) (fun _ _ _ h => h) (Or.inr ⟨by rfl, rfl⟩) ?_ ?_
                                        rotate_left
                                        · simp only [Act.put, List.setIfInBounds_toArray, List.set_cons_zero, List.set_cons_succ, i64_w, i32_w]
                                          rfl
                                        refine pure_ (i := 28) (N := some 102) (v := undef) (a' := ?_) #[true, true, true, true, true, true, true, true, true, true, true, true, true, true, true, true, true, true, true, true, true, true, true, true, true, true, true, true, true, false] rfl rfl (any_of HT_.out (by kernel_rfl)) (fun _ _ _ h => h) (Or.inr ⟨by rfl, rfl⟩) ?_ ?_
                                        rotate_left
                                        · simp only [Act.put, List.setIfInBounds_toArray, List.set_cons_zero, List.set_cons_succ, i64_w, i32_w]
                                          rfl
                                        refine pure_ (i := 29) (N := some 103) (v := ?_) (a' := ?_) #[true, true, true, true, true, true, true, true, true, true, true, true, true, true, true, true, true, true, true, true, true, true, true, true, true, true, true, true, true, true] rfl rfl (any_of HT_.out (by kernel_rfl)) (fun _ _ _ h => h) (Or.inl ⟨by rfl, ?_⟩) ?_ ?_
                                        rotate_left
                                        · intro w'
                                          go_simp
                                          with_reducible rfl
                                        rotate_left
                                        · simp only [Act.put, List.setIfInBounds_toArray, List.set_cons_zero, List.set_cons_succ, i64_w, i32_w]
                                          rfl
                                        refine done_ (done_of HT_.out (by kernel_rfl)) ?_
                                        try go_wp2
                                        go_ret
                                        exact ⟨by first | rfl | (simp [errW_none, errW_some] <;> rfl) | (simp [*, errW_none, errW_some] <;> rfl), by repeat (first | (with_reducible first | exact HB.out | apply below_alloc | apply pw_below_drewN | apply below_drew1) | exact HB.out)⟩
                                      · rw [if_neg c33] at H
                                        have c33b0 : decide (t864 < (wrap64 ((rd t858 (rd (rd_L5 t859 x10_3) 0)) + (rd t858 (rd (rd_L5 t859 x10_3) 1))))) = false := decide_eq_false c33
                                        clear c33
                                        have c35b0 := eq_true (of_decide_eq_true (by first | (with_reducible assumption) | assumption) : 0 ≤ x10_3)
                                        by_cases c36 : x10_3 ≤ (t859.length : Int)
                                        · rw [if_pos c36] at H
                                          have c36b0 := eq_true c36
                                          have c36b1 : decide (x10_3 ≤ (t859.length : Int)) = true := decide_eq_true c36
                                          clear c36
                                          obtain ⟨y878, hy878⟩ : ∃ y_ : List (List Int), y_ = (t859.take (x10_3 : Int).toNat) := ⟨_, rfl⟩
                                          replace H : ((impl_CriticalPath.f k3 t858 y878).bind fun t882 => (if t882 > t864 then (some false) else (laws_FnCriticalPath.l1 k3 t858 t859 t864 t865 x7_2 x8_2 (wrap64 (x10_3 + 1))))) = some r := by first | (rw [hy878]; with_reducible exact H) | (have H2_ := (Option.bind_some _ _).symm.trans H; rw [hy878]; with_reducible exact H2_) | (have H2_ := (Option.bind_some _ _).symm.trans H; with_reducible exact H2_) | with_reducible exact H | (rw [hy878]; exact H) | exact H
                                          have Ny878 := Aside0.mk hy878
                                          clear hy878
                                          replace H := Option.bind_eq_some_iff.mp H
                                          obtain ⟨t882, A370, H⟩ := H
                                          replace H : (if t882 > t864 then (some false) else (laws_FnCriticalPath.l1 k3 t858 t859 t864 t865 x7_2 x8_2 (wrap64 (x10_3 + 1)))) = some r := H
                                          have A37 := Aside0.mk A370
                                          clear A370
                                          by_cases c38 : t882 > t864
                                          · rw [if_pos c38] at H
                                            have c38b0 : decide (t864 < t882) = true := decide_eq_true c38
                                            clear c38
                                            obtain rfl := Option.some.inj H
                                            try go_wp2
                                            have n0_ := Aside0.mk (Kd.R_drew HO_3.out)
                                            have n1_ := Aside0.mk (Kd.S_drew HO_4.out)
                                            have n2_ := Aside0.mk (below_drew1 HB.out)
                                            clear HO_3
                                            clear HO_4
                                            clear HB
                                            have HO_3 := n0_
                                            have HO_4 := n1_
                                            have HB := n2_
                                            clear n0_ n1_ n2_
                                            have p872 : 0 ≤ (x10_3 : Int) := of_decide_eq_true (by first | (with_reducible assumption) | assumption)
                                            have q872 : x10_3 < (t859.length : Int) := of_decide_eq_true (by first | (with_reducible assumption) | assumption)
                                            obtain ⟨ad872, A872_0, c872_0, e872, hx872_0, hl872_0, hi872_0⟩ := at_L5 (Kd.S_reads' HO_4.out).2.2 x10_3 p872 q872
                                            cases e872
                                            obtain ⟨ce872, hce872, hMe872, hcc872⟩ := Kd.S_get HO_4.out [] x10_3 p872 (by first | exact q872 | exact of_decide_eq_true (by first | (with_reducible assumption) | assumption) | (have e_ := (Kd.S_reads' HO_4.out).1; omega))
                                            obtain ⟨ve872_0, rfl, ge872_0⟩ := hMe872
                                            have hv872_0 := hcc872 0 _ rfl
                                            rw [Nat.add_zero, show ((Kd.slice 3 (Kd.int .i64))).sz = 1 from rfl, Nat.mul_one] at hv872_0
                                            replace hv872_0 := Option.some.inj (hv872_0.symm.trans hx872_0)
                                            rw [hv872_0] at ge872_0
                                            have HL872_0 := Aside0.mk (show Kd.R (Kd.int .i64) 3 _ _ _ _ (rd_L5 t859 x10_3) from ge872_0)
                                            clear hv872_0 ge872_0
                                            clear hcc872 hce872
                                            have HR872_0 := Aside0.mk hi872_0
                                            have HC872_0 := Aside0.mk hl872_0
                                            clear hi872_0 hl872_0
                                            replace p872 := eq_true p872
                                            replace q872 := eq_true q872
                                            have p873 : 0 ≤ (0 : Int) := (by omega)
                                            have q873 : 0 < ((rd_L5 t859 x10_3).length : Int) := of_decide_eq_true (by first | (with_reducible assumption) | assumption)
                                            obtain ⟨ad873, e873, hx873_0⟩ := Kd.at_int (by repeat (first | (with_reducible exact HR872_0.out) | (with_reducible refine Kd.C_alloc ?_ _) | (with_reducible refine Kd.C_drewN ?_ _) | (with_reducible refine Kd.C_drew ?_) | exact HR872_0.out)) 0 p873 q873
                                            cases e873
                                            have qi873 : (0 < (rd_L5 t859 x10_3).length) = True := eq_true (by omega)
                                            (try rw [show ((0 : Int)).toNat = 0 from rfl] at hx873_0)
                                            (try rw [Addr.add_zero'] at hx873_0)
                                            replace p873 := eq_true p873
                                            replace q873 := eq_true q873
                                            have p874 : 0 ≤ ((rd (rd_L5 t859 x10_3) 0) : Int) := of_decide_eq_true (by first | (with_reducible assumption) | assumption)
                                            have q874 : (rd (rd_L5 t859 x10_3) 0) < (t858.length : Int) := of_decide_eq_true (by first | (with_reducible assumption) | assumption)
                                            obtain ⟨ad874, e874, hx874_0⟩ := Kd.at_int (Kd.R_reads' HO_3.out).2.2 (rd (rd_L5 t859 x10_3) 0) p874 q874
                                            cases e874
                                            replace p874 := eq_true p874
                                            replace q874 := eq_true q874
                                            have p875 : 0 ≤ (x10_3 : Int) := of_decide_eq_true (by first | (with_reducible assumption) | assumption)
                                            have q875 : x10_3 < (t859.length : Int) := of_decide_eq_true (by first | (with_reducible assumption) | assumption)
                                            obtain ⟨ad875, A875_0, c875_0, e875, hx875_0, hl875_0, hi875_0⟩ := at_L5 (Kd.S_reads' HO_4.out).2.2 x10_3 p875 q875
                                            obtain rfl : ad872 = ad875 := (by injection e875)
                                            obtain ⟨ce875, hce875, hMe875, hcc875⟩ := Kd.S_get HO_4.out [] x10_3 p875 (by first | exact q875 | exact of_decide_eq_true (by first | (with_reducible assumption) | assumption) | (have e_ := (Kd.S_reads' HO_4.out).1; omega))
                                            obtain ⟨ve875_0, rfl, ge875_0⟩ := hMe875
                                            have hv875_0 := hcc875 0 _ rfl
                                            rw [Nat.add_zero, show ((Kd.slice 3 (Kd.int .i64))).sz = 1 from rfl, Nat.mul_one] at hv875_0
                                            replace hv875_0 := Option.some.inj (hv875_0.symm.trans hx875_0)
                                            rw [hv875_0] at ge875_0
                                            have HL875_0 := Aside0.mk (show Kd.R (Kd.int .i64) 3 _ _ _ _ (rd_L5 t859 x10_3) from ge875_0)
                                            clear hv875_0 ge875_0
                                            clear hcc875 hce875
                                            have HR875_0 := Aside0.mk hi875_0
                                            have HC875_0 := Aside0.mk hl875_0
                                            clear hi875_0 hl875_0
                                            replace p875 := eq_true p875
                                            replace q875 := eq_true q875
                                            have ea_ := Option.some.inj (hx872_0.symm.trans hx875_0)
                                            injection ea_ with ea_ en_ ec_
                                            subst ea_
                                            subst ec_
                                            clear en_
                                            have p876 : 0 ≤ (1 : Int) := (by omega)
                                            have q876 : 1 < ((rd_L5 t859 x10_3).length : Int) := of_decide_eq_true (by first | (with_reducible assumption) | assumption)
                                            obtain ⟨ad876, e876, hx876_0⟩ := Kd.at_int (by repeat (first | (with_reducible exact HR875_0.out) | (with_reducible refine Kd.C_alloc ?_ _) | (with_reducible refine Kd.C_drewN ?_ _) | (with_reducible refine Kd.C_drew ?_) | exact HR875_0.out)) 1 p876 q876
                                            cases e876
                                            (try simp only [show (1 : Int).toNat = 1 from rfl, Nat.reduceMul, Nat.reduceEqDiff, Go.Addr.add, ↓reduceIte] at hx876_0)
                                            have qi876 : (1 < (rd_L5 t859 x10_3).length) = True := eq_true (by omega)
                                            (try rw [show ((1 : Int)).toNat = 1 from rfl] at hx876_0)
                                            replace p876 := eq_true p876
                                            replace q876 := eq_true q876
                                            have p877 : 0 ≤ ((rd (rd_L5 t859 x10_3) 1) : Int) := of_decide_eq_true (by first | (with_reducible assumption) | assumption)
                                            have q877 : (rd (rd_L5 t859 x10_3) 1) < (t858.length : Int) := of_decide_eq_true (by first | (with_reducible assumption) | assumption)
                                            obtain ⟨ad877, e877, hx877_0⟩ := Kd.at_int (Kd.R_reads' HO_3.out).2.2 (rd (rd_L5 t859 x10_3) 1) p877 q877
                                            obtain rfl : ad874 = ad877 := (by injection e877)
                                            replace p877 := eq_true p877
                                            replace q877 := eq_true q877
                                            have q40 : (x10_3 : Int) ≤ ((t859.length : Int) : Int) := of_decide_eq_true (by first | (with_reducible assumption) | assumption)
                                            obtain ⟨i040, hi040, _, hsz40, _⟩ := info_parts info39
                                            have hroom40 : t859.length ≤ co9 := (Kd.S_reads' HO_4.out).2.1
                                            have hC40 : Kd.C (Kd.slice 3 (Kd.int .i64)) _ (some ad872) t859.length t859 := (Kd.S_reads' HO_4.out).2.2
                                            have hcut40 := cut_to (P := Try.prog) 60 39 .i64 Try.underlying60 hi040 (some ad872) t859.length co9 x10_3 (of_decide_eq_true (by first | (with_reducible assumption) | assumption)) q40 hroom40
                                            have hr40 := Kd.C_take (m := (x10_3 : Int).toNat) hC40 (by omega)
                                            have hy40 : y878.length = (x10_3 : Int).toNat := (by rw [Ny878.out, List.length_take]; omega)
                                            rw [← Ny878.out] at hr40
                                            rw [← hy40] at hcut40
                                            have HR881 := Aside0.mk hr40
                                            have HC881 := Aside0.mk (show y878.length ≤ co9 from by omega)
                                            clear hr40 hC40 hroom40 hi040 hsz40
                                            have KY40 := Aside0.mk hy40
                                            clear hy40
                                            have KL40 := Aside0.mk (show (x10_3 : Int).toNat ≤ t859.length from by omega)
                                            replace q40 := eq_true q40
                                            refine start_ (n := 30) (S := fun w' => w'.cell? (ad872.add (x10_3).toNat) = some (.slice (some ad873) (rd_L5 t859 x10_3).length c872_0) ∧ w'.cell? ad873 = some (.int .i64 (rd (rd_L5 t859 x10_3) 0)) ∧ w'.cell? (ad874.add ((rd (rd_L5 t859 x10_3) 0)).toNat) = some (.int .i64 (rd t858 (rd (rd_L5 t859 x10_3) 0))) ∧ w'.cell? (ad872.add (x10_3).toNat) = some (.slice (some ad873) (rd_L5 t859 x10_3).length c872_0) ∧ w'.cell? ⟨ad873.block, ad873.off + 1, none⟩ = some (.int .i64 (rd (rd_L5 t859 x10_3) 1)) ∧ w'.cell? (ad874.add ((rd (rd_L5 t859 x10_3) 1)).toNat) = some (.int .i64 (rd t858 (rd (rd_L5 t859 x10_3) 1)))) (ds := []) #[false, false, false, false, false, false, false, false, false, false, false, false, false, false, false, false, false, false, false, false, false, false, false, false, false, false, false, false, false, false] (by kernel_rfl) rfl rfl ⟨hx872_0, hx873_0, hx874_0, hx875_0, hx876_0, hx877_0⟩ (fun hHeld => ?_); refine with_tabW laws_FnCriticalPath.tab20 laws_FnCriticalPath.bits20 (fun HT_ HW_ => ?_)
                                            generalize wr.drew = w39 at HO_3 HO_4 HB HL872_0 HL875_0 HR872_0 HR875_0 HR881 hx872_0 hx873_0 hx874_0 hx875_0 hx876_0 hx877_0 hHeld ⊢
                                            refine pure_ (i := 0) (N := some 74) (v := ?_) (a' := ?_) #[true, false, false, false, false, false, false, false, false, false, false, false, false, false, false, false, false, false, false, false, false, false, false, false, false, false, false, false, false, false] rfl rfl (any_of HT_.out (by kernel_rfl)) (fun _ _ _ h => h) (Or.inl ⟨by rfl, ?_⟩) ?_ ?_
                                            rotate_left
                                            · intro w'
                                              go_simp
                                              with_reducible rfl
                                            rotate_left
                                            · simp only [Act.put, List.setIfInBounds_toArray, List.set_cons_zero, List.set_cons_succ, i64_w, i32_w]
                                              rfl
                                            refine pure_ (i := 1) (N := some 75) (v := ?_) (a' := ?_) #[true, true, false, false, false, false, false, false, false, false, false, false, false, false, false, false, false, false, false, false, false, false, false, false, false, false, false, false, false, false] rfl rfl (any_of HT_.out (by kernel_rfl)) (fun _ _ _ h => h) (Or.inl ⟨by rfl, ?_⟩) ?_ ?_
                                            rotate_left
                                            · intro w'
                                              go_simp
                                              with_reducible rfl
                                            rotate_left
                                            · simp only [Act.put, List.setIfInBounds_toArray, List.set_cons_zero, List.set_cons_succ, i64_w, i32_w]
                                              rfl
                                            refine pure_ (i := 2) (N := some 76) (v := ?_) (a' := ?_) #[true, true, true, false, false, false, false, false, false, false, false, false, false, false, false, false, false, false, false, false, false, false, false, false, false, false, false, false, false, false] rfl rfl (any_of HT_.out (by kernel_rfl)) (fun _ _ _ h => h) (Or.inl ⟨by rfl, ?_⟩) ?_ ?_
                                            rotate_left
                                            · intro w'
                                              go_simp
                                              with_reducible rfl
                                            rotate_left
                                            · simp only [Act.put, List.setIfInBounds_toArray, List.set_cons_zero, List.set_cons_succ, i64_w, i32_w]
                                              rfl
                                            refine pure_ (i := 3) (N := some 77) (v := ?_) (a' := ?_) #[true, true, true, true, false, false, false, false, false, false, false, false, false, false, false, false, false, false, false, false, false, false, false, false, false, false, false, false, false, false] rfl rfl (any_of HT_.out (by kernel_rfl)) (fun _ _ _ h => h) (Or.inl ⟨by rfl, ?_⟩) ?_ ?_
                                            rotate_left
                                            · intro w'
                                              go_simp
                                              with_reducible rfl
                                            rotate_left
                                            · simp only [Act.put, List.setIfInBounds_toArray, List.set_cons_zero, List.set_cons_succ, i64_w, i32_w]
                                              rfl
                                            refine pure_ (i := 9) (N := some 83) (v := ?_) (a' := ?_) #[true, true, true, true, false, false, false, false, false, true, false, false, false, false, false, false, false, false, false, false, false, false, false, false, false, false, false, false, false, false] rfl rfl (any_of HT_.out (by kernel_rfl)) (fun _ _ _ h => h) (Or.inl ⟨by rfl, ?_⟩) ?_ ?_
                                            rotate_left
                                            · intro w'
                                              go_simp
                                              with_reducible rfl
                                            rotate_left
                                            · simp only [Act.put, List.setIfInBounds_toArray, List.set_cons_zero, List.set_cons_succ, i64_w, i32_w]
                                              rfl
                                            refine pure_ (i := 10) (N := some 84) (v := ?_) (a' := ?_) #[true, true, true, true, false, false, false, false, false, true, true, false, false, false, false, false, false, false, false, false, false, false, false, false, false, false, false, false, false, false] rfl rfl (any_of HT_.out (by kernel_rfl)) (fun _ _ _ h => h) (Or.inl ⟨by rfl, ?_⟩) ?_ ?_
                                            rotate_left
                                            · intro w'
                                              go_simp
                                              with_reducible rfl
                                            rotate_left
                                            · simp only [Act.put, List.setIfInBounds_toArray, List.set_cons_zero, List.set_cons_succ, i64_w, i32_w]
                                              rfl
                                            refine pure_ (i := 11) (N := some 85) (v := ?_) (a' := ?_) #[true, true, true, true, false, false, false, false, false, true, true, true, false, false, false, false, false, false, false, false, false, false, false, false, false, false, false, false, false, false] rfl rfl (any_of HT_.out (by kernel_rfl)) (fun _ _ _ h => h) (Or.inl ⟨by rfl, ?_⟩) ?_ ?_
                                            rotate_left
                                            · intro w'
                                              go_simp
                                              with_reducible rfl
                                            rotate_left
                                            · simp only [Act.put, List.setIfInBounds_toArray, List.set_cons_zero, List.set_cons_succ, i64_w, i32_w]
                                              rfl
                                            refine pure_ (i := 12) (N := some 86) (v := ?_) (a' := ?_) #[true, true, true, true, false, false, false, false, false, true, true, true, true, false, false, false, false, false, false, false, false, false, false, false, false, false, false, false, false, false] rfl rfl (any_of HT_.out (by kernel_rfl)) (fun _ _ _ h => h) (Or.inl ⟨by rfl, ?_⟩) ?_ ?_
                                            rotate_left
                                            · intro w'
                                              go_simp
                                              with_reducible rfl
                                            rotate_left
                                            · simp only [Act.put, List.setIfInBounds_toArray, List.set_cons_zero, List.set_cons_succ, i64_w, i32_w]
                                              rfl
                                            refine pure_ (i := 19) (N := some 93) (v := ?_) (a' := ?_) #[true, true, true, true, false, false, false, false, false, true, true, true, true, false, false, false, false, false, false, true, false, false, false, false, false, false, false, false, false, false] rfl rfl (any_of HT_.out (by kernel_rfl)) (fun _ _ _ h => h) (Or.inl ⟨by rfl, ?_⟩) ?_ ?_
                                            rotate_left
                                            · intro w'
                                              go_simp
                                              with_reducible rfl
                                            rotate_left
                                            · simp only [Act.put, List.setIfInBounds_toArray, List.set_cons_zero, List.set_cons_succ, i64_w, i32_w]
                                              rfl
                                            refine take_ (i := 4) (N := some 78) (v := ?_) (a' := ?_) #[true, true, true, true, true, false, false, false, false, true, true, true, true, false, false, false, false, false, false, true, false, false, false, false, false, false, false, false, false, false] rfl rfl (take_ofW HT_.out HW_.out (by kernel_rfl)) (fun _ _ _ h => h) (Or.inl ⟨by rfl, ?_⟩) hHeld ?_ ?_
                                            rotate_left
                                            · rintro w' ⟨s0, s1, s2, s3, s4, s5⟩
                                              go_simp
                                              with_reducible rfl
                                            rotate_left
                                            · simp only [Act.put, List.setIfInBounds_toArray, List.set_cons_zero, List.set_cons_succ, i64_w, i32_w]
                                              rfl
                                            refine pure_ (i := 5) (N := some 79) (v := ?_) (a' := ?_) #[true, true, true, true, true, true, false, false, false, true, true, true, true, false, false, false, false, false, false, true, false, false, false, false, false, false, false, false, false, false] rfl rfl (any_of HT_.out (by kernel_rfl)) (fun _ _ _ h => h) (Or.inl ⟨by rfl, ?_⟩) ?_ ?_
                                            rotate_left
                                            · intro w'
                                              go_simp
                                              with_reducible rfl
                                            rotate_left
                                            · simp only [Act.put, List.setIfInBounds_toArray, List.set_cons_zero, List.set_cons_succ, i64_w, i32_w]
                                              rfl
                                            refine take_ (i := 6) (N := some 80) (v := ?_) (a' := ?_) #[true, true, true, true, true, true, true, false, false, true, true, true, true, false, false, false, false, false, false, true, false, false, false, false, false, false, false, false, false, false] rfl rfl (take_ofW HT_.out HW_.out (by kernel_rfl)) (fun _ _ _ h => h) (Or.inl ⟨by rfl, ?_⟩) hHeld ?_ ?_
                                            rotate_left
                                            · rintro w' ⟨s0, s1, s2, s3, s4, s5⟩
                                              go_simp
                                              with_reducible rfl
                                            rotate_left
                                            · simp only [Act.put, List.setIfInBounds_toArray, List.set_cons_zero, List.set_cons_succ, i64_w, i32_w]
                                              rfl
                                            refine pure_ (i := 7) (N := some 81) (v := ?_) (a' := ?_) #[true, true, true, true, true, true, true, true, false, true, true, true, true, false, false, false, false, false, false, true, false, false, false, false, false, false, false, false, false, false] rfl rfl (any_of HT_.out (by kernel_rfl)) (fun _ _ _ h => h) (Or.inl ⟨by rfl, ?_⟩) ?_ ?_
                                            rotate_left
                                            · intro w'
                                              go_simp
                                              with_reducible rfl
                                            rotate_left
                                            · simp only [Act.put, List.setIfInBounds_toArray, List.set_cons_zero, List.set_cons_succ, i64_w, i32_w]
                                              rfl
                                            refine take_ (i := 8) (N := some 82) (v := ?_) (a' := ?_) #[true, true, true, true, true, true, true, true, true, true, true, true, true, false, false, false, false, false, false, true, false, false, false, false, false, false, false, false, false, false] rfl rfl (take_ofW HT_.out HW_.out (by kernel_rfl)) (fun _ _ _ h => h) (Or.inl ⟨by rfl, ?_⟩) hHeld ?_ ?_
                                            rotate_left
                                            · rintro w' ⟨s0, s1, s2, s3, s4, s5⟩
                                              go_simp
                                              with_reducible rfl
                                            rotate_left
                                            · simp only [Act.put, List.setIfInBounds_toArray, List.set_cons_zero, List.set_cons_succ, i64_w, i32_w]
                                              rfl
                                            refine take_ (i := 13) (N := some 87) (v := ?_) (a' := ?_) #[true, true, true, true, true, true, true, true, true, true, true, true, true, true, false, false, false, false, false, true, false, false, false, false, false, false, false, false, false, false] rfl rfl (take_ofW HT_.out HW_.out (by kernel_rfl)) (fun _ _ _ h => h) (Or.inl ⟨by rfl, ?_⟩) hHeld ?_ ?_
                                            rotate_left
                                            · rintro w' ⟨s0, s1, s2, s3, s4, s5⟩
                                              go_simp
                                              with_reducible rfl
                                            rotate_left
                                            · simp only [Act.put, List.setIfInBounds_toArray, List.set_cons_zero, List.set_cons_succ, i64_w, i32_w]
                                              rfl
                                            refine pure_ (i := 14) (N := some 88) (v := ?_) (a' := ?_) #[true, true, true, true, true, true, true, true, true, true, true, true, true, true, true, false, false, false, false, true, false, false, false, false, false, false, false, false, false, false] rfl rfl (any_of HT_.out (by kernel_rfl)) (fun _ _ _ h => h) (Or.inl ⟨by rfl, ?_⟩) ?_ ?_
                                            rotate_left
                                            · intro w'
                                              go_simp
                                              with_reducible rfl
                                            rotate_left
                                            · simp only [Act.put, List.setIfInBounds_toArray, List.set_cons_zero, List.set_cons_succ, i64_w, i32_w]
                                              rfl
                                            refine take_ (i := 15) (N := some 89) (v := ?_) (a' := ?_) #[true, true, true, true, true, true, true, true, true, true, true, true, true, true, true, true, false, false, false, true, false, false, false, false, false, false, false, false, false, false] rfl rfl (take_ofW HT_.out HW_.out (by kernel_rfl)) (fun _ _ _ h => h) (Or.inl ⟨by rfl, ?_⟩) hHeld ?_ ?_
                                            rotate_left
                                            · rintro w' ⟨s0, s1, s2, s3, s4, s5⟩
                                              go_simp
                                              with_reducible rfl
                                            rotate_left
                                            · simp only [Act.put, List.setIfInBounds_toArray, List.set_cons_zero, List.set_cons_succ, i64_w, i32_w]
                                              rfl
                                            refine pure_ (i := 16) (N := some 90) (v := ?_) (a' := ?_) #[true, true, true, true, true, true, true, true, true, true, true, true, true, true, true, true, true, false, false, true, false, false, false, false, false, false, false, false, false, false] rfl rfl (any_of HT_.out (by kernel_rfl)) (fun _ _ _ h => h) (Or.inl ⟨by rfl, ?_⟩) ?_ ?_
                                            rotate_left
                                            · intro w'
                                              go_simp
                                              with_reducible rfl
                                            rotate_left
                                            · simp only [Act.put, List.setIfInBounds_toArray, List.set_cons_zero, List.set_cons_succ, i64_w, i32_w]
                                              rfl
                                            refine take_ (i := 17) (N := some 91) (v := ?_) (a' := ?_) #[true, true, true, true, true, true, true, true, true, true, true, true, true, true, true, true, true, true, false, true, false, false, false, false, false, false, false, false, false, false] rfl rfl (take_ofW HT_.out HW_.out (by kernel_rfl)) (fun _ _ _ h => h) (Or.inl ⟨by rfl, ?_⟩) hHeld ?_ ?_
                                            rotate_left
                                            · rintro w' ⟨s0, s1, s2, s3, s4, s5⟩
                                              go_simp
                                              with_reducible rfl
                                            rotate_left
                                            · simp only [Act.put, List.setIfInBounds_toArray, List.set_cons_zero, List.set_cons_succ, i64_w, i32_w]
                                              rfl
                                            refine pure_ (i := 18) (N := some 92) (v := ?_) (a' := ?_) #[true, true, true, true, true, true, true, true, true, true, true, true, true, true, true, true, true, true, true, true, false, false, false, false, false, false, false, false, false, false] rfl rfl (any_of HT_.out (by kernel_rfl)) (fun _ _ _ h => h) (Or.inl ⟨by rfl, ?_⟩) ?_ ?_
                                            rotate_left
                                            · intro w'
                                              go_simp
                                              with_reducible rfl
                                            rotate_left
                                            · simp only [Act.put, List.setIfInBounds_toArray, List.set_cons_zero, List.set_cons_succ, i64_w, i32_w]
                                              rfl
                                            refine pure_ (i := 20) (N := some 94) (v := ?_) (a' := ?_) #[true, true, true, true, true, true, true, true, true, true, true, true, true, true, true, true, true, true, true, true, true, false, false, false, false, false, false, false, false, false] rfl rfl (any_of HT_.out (by kernel_rfl)) (fun _ _ _ h => h) (Or.inl ⟨by rfl, ?_⟩) ?_ ?_
                                            rotate_left
                                            · intro w'
                                              go_simp
                                              with_reducible rfl
                                            rotate_left
                                            · simp only [Act.put, List.setIfInBounds_toArray, List.set_cons_zero, List.set_cons_succ, i64_w, i32_w]
                                              rfl
                                            refine pure_ (i := 21) (N := some 95) (v := ?_) (a' := ?_) #[true, true, true, true, true, true, true, true, true, true, true, true, true, true, true, true, true, true, true, true, true, true, false, false, false, false, false, false, false, false] rfl rfl (any_of HT_.out (by kernel_rfl)) (fun _ _ _ h => h) (Or.inl ⟨by rfl, ?_⟩) ?_ ?_
                                            rotate_left
                                            · intro w'
                                              go_simp
                                              with_reducible rfl
                                            rotate_left
                                            · simp only [Act.put, List.setIfInBounds_toArray, List.set_cons_zero, List.set_cons_succ, i64_w, i32_w]
                                              rfl
                                            refine pure_ (i := 22) (N := some 96) (v := ?_) (a' := ?_) #[true, true, true, true, true, true, true, true, true, true, true, true, true, true, true, true, true, true, true, true, true, true, true, false, false, false, false, false, false, false] rfl rfl (any_of HT_.out (by kernel_rfl)) (fun _ _ _ h => h) (Or.inl ⟨by rfl, ?_⟩) ?_ ?_
                                            rotate_left
                                            · intro w'
                                              go_simp
                                              with_reducible rfl
                                            rotate_left
                                            · simp only [Act.put, List.setIfInBounds_toArray, List.set_cons_zero, List.set_cons_succ, i64_w, i32_w]
                                              rfl
                                            refine pure_ (i := 23) (N := some 97) (v := ?_) (a' := ?_) #[true, true, true, true, true, true, true, true, true, true, true, true, true, true, true, true, true, true, true, true, true, true, true, true, false, false, false, false, false, false] rfl rfl (any_of HT_.out (by kernel_rfl)) (fun _ _ _ h => h) (Or.inl ⟨by rfl, ?_⟩) ?_ ?_
                                            rotate_left
                                            · intro w'
                                              go_simp
                                              with_reducible rfl
                                            rotate_left
                                            · simp only [Act.put, List.setIfInBounds_toArray, List.set_cons_zero, List.set_cons_succ, i64_w, i32_w]
                                              rfl
                                            refine pure_ (i := 24) (N := some 98) (v := ?_) (a' := ?_) #[true, true, true, true, true, true, true, true, true, true, true, true, true, true, true, true, true, true, true, true, true, true, true, true, true, false, false, false, false, false] rfl rfl (any_of HT_.out (by kernel_rfl)) (fun _ _ _ h => h) (Or.inl ⟨by rfl, ?_⟩) ?_ ?_
                                            rotate_left
                                            · intro w'
                                              go_simp
                                              with_reducible rfl
                                            rotate_left
                                            · simp only [Act.put, List.setIfInBounds_toArray, List.set_cons_zero, List.set_cons_succ, i64_w, i32_w]
                                              rfl
                                            refine pure_ (i := 25) (N := some 99) (v := ?_) (a' := ?_) #[true, true, true, true, true, true, true, true, true, true, true, true, true, true, true, true, true, true, true, true, true, true, true, true, true, true, false, false, false, false] rfl rfl (any_of HT_.out (by kernel_rfl)) (fun _ _ _ h => h) (Or.inl ⟨by rfl, ?_⟩) ?_ ?_
                                            rotate_left
                                            · intro w'
                                              go_simp
                                              with_reducible rfl
                                            rotate_left
                                            · simp only [Act.put, List.setIfInBounds_toArray, List.set_cons_zero, List.set_cons_succ, i64_w, i32_w]
                                              rfl
                                            refine pure_ (i := 27) (N := some 101) (v := ?_) (a' := ?_) #[true, true, true, true, true, true, true, true, true, true, true, true, true, true, true, true, true, true, true, true, true, true, true, true, true, true, false, true, false, false] rfl rfl (any_of HT_.out (by kernel_rfl)) (fun _ _ _ h => h) (Or.inl ⟨by rfl, ?_⟩) ?_ ?_
                                            rotate_left
                                            · intro w'
                                              go_simp
                                              with_reducible rfl
                                            rotate_left
                                            · simp only [Act.put, List.setIfInBounds_toArray, List.set_cons_zero, List.set_cons_succ, i64_w, i32_w]
                                              rfl
                                            refine one_ (i := 26) (N := some 100) #[true, true, true, true, true, true, true, true, true, true, true, true, true, true, true, true, true, true, true, true, true, true, true, true, true, true, true, true, false, false] rfl rfl (one_of HT_.out (by kernel_rfl)) (by decide) (fun K hK => ?_)
                                            refine goes_ Try.func49 (by kernel_rfl) rfl #[.slice (some ad874) t858.length co8, .slice (some ad872) y878.length co9] (by rfl) rfl rfl (by (try simp only [List.map_toArray, List.map_cons, List.map_nil]); first | done | rfl | (simp only [List.length_drop, List.length_take]; rfl)) ?_
                                            with_reducible refine (impl_CriticalPath.calls k3 _ _ t858 _ _ y878 t882 _ ?side1 ?side2 ?side3 ?side4 A37.out).mono ?_
                                            (case side1 => repeat (first | exact (Kd.R_reads' HO_3.out).2.2 | (with_reducible refine Kd.C_alloc ?_ _) | (with_reducible refine Kd.C_drewN ?_ _) | (with_reducible refine Kd.C_drew ?_)))
                                            (case side2 => exact (Kd.R_reads' HO_3.out).2.1)
                                            (case side3 => repeat (first | exact (by repeat (first | (with_reducible exact HR881.out) | (with_reducible refine Kd.C_alloc ?_ _) | (with_reducible refine Kd.C_drewN ?_ _) | (with_reducible refine Kd.C_drew ?_) | exact HR881.out)) | (with_reducible refine Kd.C_alloc ?_ _) | (with_reducible refine Kd.C_drewN ?_ _) | (with_reducible refine Kd.C_drew ?_)))
                                            (case side4 => exact HC881.out)
                                            rintro e w41 ⟨rfl, hb⟩
                                            have HS0_ := (hb.cell (World.block_lt_of_cell? _ _ (hHeld.1))).trans (hHeld.1)
                                            have HS1_ := (hb.cell (World.block_lt_of_cell? _ _ (hHeld.2.1))).trans (hHeld.2.1)
                                            have HS2_ := (hb.cell (World.block_lt_of_cell? _ _ (hHeld.2.2.1))).trans (hHeld.2.2.1)
                                            have HS3_ := (hb.cell (World.block_lt_of_cell? _ _ (hHeld.2.2.2.1))).trans (hHeld.2.2.2.1)
                                            have HS4_ := (hb.cell (World.block_lt_of_cell? _ _ (hHeld.2.2.2.2.1))).trans (hHeld.2.2.2.2.1)
                                            have HS5_ := (hb.cell (World.block_lt_of_cell? _ _ (hHeld.2.2.2.2.2))).trans (hHeld.2.2.2.2.2)
                                            refine ⟨_, rfl, ?_⟩
                                            have n0_ := Aside0.mk (Kd.R_below (by (with_reducible repeat (first | apply Kd.R_alloc | apply Kd.R_drewN | apply Kd.R_drew)); exact HO_3.out) hb)
                                            have n1_ := Aside0.mk (Kd.S_below (by (with_reducible repeat (first | apply Kd.S_alloc | apply Kd.S_drewN | apply Kd.S_drew)); exact HO_4.out) hb)
                                            have n2_ := Aside0.mk (Kd.R_below (by (with_reducible repeat (first | apply Kd.R_alloc | apply Kd.R_drewN | apply Kd.R_drew)); exact HL872_0.out) hb)
                                            have n3_ := Aside0.mk (Kd.R_below (by (with_reducible repeat (first | apply Kd.R_alloc | apply Kd.R_drewN | apply Kd.R_drew)); exact HL875_0.out) hb)
                                            have n4_ := Aside0.mk (Kd.C_below (by repeat (first | (with_reducible exact HR872_0.out) | (with_reducible refine Kd.C_alloc ?_ _) | (with_reducible refine Kd.C_drewN ?_ _) | (with_reducible refine Kd.C_drew ?_) | exact HR872_0.out)) hb)
                                            have n5_ := Aside0.mk (Kd.C_below (by repeat (first | (with_reducible exact HR875_0.out) | (with_reducible refine Kd.C_alloc ?_ _) | (with_reducible refine Kd.C_drewN ?_ _) | (with_reducible refine Kd.C_drew ?_) | exact HR875_0.out)) hb)
                                            have n6_ := Aside0.mk (Kd.C_below (by repeat (first | (with_reducible exact HR881.out) | (with_reducible refine Kd.C_alloc ?_ _) | (with_reducible refine Kd.C_drewN ?_ _) | (with_reducible refine Kd.C_drew ?_) | exact HR881.out)) hb)
                                            have n7_ := Aside0.mk (below_step (by repeat (first | (with_reducible first | exact HB.out | apply below_alloc | apply pw_below_drewN | apply below_drew1) | exact HB.out)) hb)
                                            clear HO_3
                                            clear HO_4
                                            clear HL872_0
                                            clear HL875_0
                                            clear HR872_0
                                            clear HR875_0
                                            clear HR881
                                            clear HB
                                            have HO_3 := n0_
                                            have HO_4 := n1_
                                            have HL872_0 := n2_
                                            have HL875_0 := n3_
                                            have HR872_0 := n4_
                                            have HR875_0 := n5_
                                            have HR881 := n6_
                                            have HB := n7_
                                            clear n0_ n1_ n2_ n3_ n4_ n5_ n6_ n7_
                                            (try clear hb)
                                            (try clear hb2)
                                            (try clear hk)
                                            (try clear hi)
                                            refine hK.out _ _ ⟨HS0_, HS1_, HS2_, HS3_, HS4_, HS5_⟩ (fun hHeld => ?_)
                                            clear hK K
                                            refine norm_ (a' := ?_) ?_ ?_
                                            rotate_left
                                            · show Act.put _ (some 100) _ = _
                                              simp only [Act.put, List.setIfInBounds_toArray, List.set_cons_zero, List.set_cons_succ, i64_w, i32_w]
                                              rfl
                                            refine pure_ (i := 28) (N := some 102) (v := ?_) (a' := ?_) #[true, true, true, true, true, true, true, true, true, true, true, true, true, true, true, true, true, true, true, true, true, true, true, true, true, true, true, true, true, false] rfl rfl (any_of HT_.out (by kernel_rfl)) (fun _ _ _ h => h) (Or.inl ⟨by rfl, ?_⟩) ?_ ?_
                                            rotate_left
                                            · intro w'
                                              go_simp
                                              with_reducible rfl
                                            rotate_left
                                            · simp only [Act.put, List.setIfInBounds_toArray, List.set_cons_zero, List.set_cons_succ, i64_w, i32_w]
                                              rfl
                                            refine pure_ (i := 29) (N := some 103) (v := ?_) (a' := ?_) #[true, true, true, true, true, true, true, true, true, true, true, true, true, true, true, true, true, true, true, true, true, true, true, true, true, true, true, true, true, true] rfl rfl (any_of HT_.out (by kernel_rfl)) (fun _ _ _ h => h) (Or.inl ⟨by rfl, ?_⟩) ?_ ?_
                                            rotate_left
                                            · intro w'
                                              go_simp
                                              with_reducible rfl
                                            rotate_left
                                            · simp only [Act.put, List.setIfInBounds_toArray, List.set_cons_zero, List.set_cons_succ, i64_w, i32_w]
                                              rfl
                                            refine done_ (done_of HT_.out (by kernel_rfl)) ?_
                                            try go_wp2
                                            go_ret
                                            exact ⟨by first | rfl | (simp [errW_none, errW_some] <;> rfl) | (simp [*, errW_none, errW_some] <;> rfl), by repeat (first | (with_reducible first | exact HB.out | apply below_alloc | apply pw_below_drewN | apply below_drew1) | exact HB.out)⟩
                                          · rw [if_neg c38] at H
                                            have c38b0 : decide (t864 < t882) = false := decide_eq_false c38
                                            clear c38
                                            have H' := Aside0.mk H
                                            clear H
                                            try go_wp2
                                            have n0_ := Aside0.mk (Kd.R_drew HO_3.out)
                                            have n1_ := Aside0.mk (Kd.S_drew HO_4.out)
                                            have n2_ := Aside0.mk (below_drew1 HB.out)
                                            clear HO_3
                                            clear HO_4
                                            clear HB
                                            have HO_3 := n0_
                                            have HO_4 := n1_
                                            have HB := n2_
                                            clear n0_ n1_ n2_
                                            have p872 : 0 ≤ (x10_3 : Int) := of_decide_eq_true (by first | (with_reducible assumption) | assumption)
                                            have q872 : x10_3 < (t859.length : Int) := of_decide_eq_true (by first | (with_reducible assumption) | assumption)
                                            obtain ⟨ad872, A872_0, c872_0, e872, hx872_0, hl872_0, hi872_0⟩ := at_L5 (Kd.S_reads' HO_4.out).2.2 x10_3 p872 q872
                                            cases e872
                                            obtain ⟨ce872, hce872, hMe872, hcc872⟩ := Kd.S_get HO_4.out [] x10_3 p872 (by first | exact q872 | exact of_decide_eq_true (by first | (with_reducible assumption) | assumption) | (have e_ := (Kd.S_reads' HO_4.out).1; omega))
                                            obtain ⟨ve872_0, rfl, ge872_0⟩ := hMe872
                                            have hv872_0 := hcc872 0 _ rfl
                                            rw [Nat.add_zero, show ((Kd.slice 3 (Kd.int .i64))).sz = 1 from rfl, Nat.mul_one] at hv872_0
                                            replace hv872_0 := Option.some.inj (hv872_0.symm.trans hx872_0)
                                            rw [hv872_0] at ge872_0
                                            have HL872_0 := Aside0.mk (show Kd.R (Kd.int .i64) 3 _ _ _ _ (rd_L5 t859 x10_3) from ge872_0)
                                            clear hv872_0 ge872_0
                                            clear hcc872 hce872
                                            have HR872_0 := Aside0.mk hi872_0
                                            have HC872_0 := Aside0.mk hl872_0
                                            clear hi872_0 hl872_0
                                            replace p872 := eq_true p872
                                            replace q872 := eq_true q872
                                            have p873 : 0 ≤ (0 : Int) := (by omega)
                                            have q873 : 0 < ((rd_L5 t859 x10_3).length : Int) := of_decide_eq_true (by first | (with_reducible assumption) | assumption)
                                            obtain ⟨ad873, e873, hx873_0⟩ := Kd.at_int (by repeat (first | (with_reducible exact HR872_0.out) | (with_reducible refine Kd.C_alloc ?_ _) | (with_reducible refine Kd.C_drewN ?_ _) | (with_reducible refine Kd.C_drew ?_) | exact HR872_0.out)) 0 p873 q873
                                            cases e873
                                            have qi873 : (0 < (rd_L5 t859 x10_3).length) = True := eq_true (by omega)
                                            (try rw [show ((0 : Int)).toNat = 0 from rfl] at hx873_0)
                                            (try rw [Addr.add_zero'] at hx873_0)
                                            replace p873 := eq_true p873
                                            replace q873 := eq_true q873
                                            have p874 : 0 ≤ ((rd (rd_L5 t859 x10_3) 0) : Int) := of_decide_eq_true (by first | (with_reducible assumption) | assumption)
                                            have q874 : (rd (rd_L5 t859 x10_3) 0) < (t858.length : Int) := of_decide_eq_true (by first | (with_reducible assumption) | assumption)
                                            obtain ⟨ad874, e874, hx874_0⟩ := Kd.at_int (Kd.R_reads' HO_3.out).2.2 (rd (rd_L5 t859 x10_3) 0) p874 q874
                                            cases e874
                                            replace p874 := eq_true p874
                                            replace q874 := eq_true q874
                                            have p875 : 0 ≤ (x10_3 : Int) := of_decide_eq_true (by first | (with_reducible assumption) | assumption)
                                            have q875 : x10_3 < (t859.length : Int) := of_decide_eq_true (by first | (with_reducible assumption) | assumption)
                                            obtain ⟨ad875, A875_0, c875_0, e875, hx875_0, hl875_0, hi875_0⟩ := at_L5 (Kd.S_reads' HO_4.out).2.2 x10_3 p875 q875
                                            obtain rfl : ad872 = ad875 := (by injection e875)
                                            obtain ⟨ce875, hce875, hMe875, hcc875⟩ := Kd.S_get HO_4.out [] x10_3 p875 (by first | exact q875 | exact of_decide_eq_true (by first | (with_reducible assumption) | assumption) | (have e_ := (Kd.S_reads' HO_4.out).1; omega))
                                            obtain ⟨ve875_0, rfl, ge875_0⟩ := hMe875
                                            have hv875_0 := hcc875 0 _ rfl
                                            rw [Nat.add_zero, show ((Kd.slice 3 (Kd.int .i64))).sz = 1 from rfl, Nat.mul_one] at hv875_0
                                            replace hv875_0 := Option.some.inj (hv875_0.symm.trans hx875_0)
                                            rw [hv875_0] at ge875_0
                                            have HL875_0 := Aside0.mk (show Kd.R (Kd.int .i64) 3 _ _ _ _ (rd_L5 t859 x10_3) from ge875_0)
                                            clear hv875_0 ge875_0
                                            clear hcc875 hce875
                                            have HR875_0 := Aside0.mk hi875_0
                                            have HC875_0 := Aside0.mk hl875_0
                                            clear hi875_0 hl875_0
                                            replace p875 := eq_true p875
                                            replace q875 := eq_true q875
                                            have ea_ := Option.some.inj (hx872_0.symm.trans hx875_0)
                                            injection ea_ with ea_ en_ ec_
                                            subst ea_
                                            subst ec_
                                            clear en_
                                            have p876 : 0 ≤ (1 : Int) := (by omega)
                                            have q876 : 1 < ((rd_L5 t859 x10_3).length : Int) := of_decide_eq_true (by first | (with_reducible assumption) | assumption)
                                            obtain ⟨ad876, e876, hx876_0⟩ := Kd.at_int (by repeat (first | (with_reducible exact HR875_0.out) | (with_reducible refine Kd.C_alloc ?_ _) | (with_reducible refine Kd.C_drewN ?_ _) | (with_reducible refine Kd.C_drew ?_) | exact HR875_0.out)) 1 p876 q876
                                            cases e876
                                            (try simp only [show (1 : Int).toNat = 1 from rfl, Nat.reduceMul, Nat.reduceEqDiff, Go.Addr.add, ↓reduceIte] at hx876_0)
                                            have qi876 : (1 < (rd_L5 t859 x10_3).length) = True := eq_true (by omega)
                                            (try rw [show ((1 : Int)).toNat = 1 from rfl] at hx876_0)
                                            replace p876 := eq_true p876
                                            replace q876 := eq_true q876
                                            have p877 : 0 ≤ ((rd (rd_L5 t859 x10_3) 1) : Int) := of_decide_eq_true (by first | (with_reducible assumption) | assumption)
                                            have q877 : (rd (rd_L5 t859 x10_3) 1) < (t858.length : Int) := of_decide_eq_true (by first | (with_reducible assumption) | assumption)
                                            obtain ⟨ad877, e877, hx877_0⟩ := Kd.at_int (Kd.R_reads' HO_3.out).2.2 (rd (rd_L5 t859 x10_3) 1) p877 q877
                                            obtain rfl : ad874 = ad877 := (by injection e877)
                                            replace p877 := eq_true p877
                                            replace q877 := eq_true q877
                                            have q43 : (x10_3 : Int) ≤ ((t859.length : Int) : Int) := of_decide_eq_true (by first | (with_reducible assumption) | assumption)
                                            obtain ⟨i043, hi043, _, hsz43, _⟩ := info_parts info39
                                            have hroom43 : t859.length ≤ co9 := (Kd.S_reads' HO_4.out).2.1
                                            have hC43 : Kd.C (Kd.slice 3 (Kd.int .i64)) _ (some ad872) t859.length t859 := (Kd.S_reads' HO_4.out).2.2
                                            have hcut43 := cut_to (P := Try.prog) 60 39 .i64 Try.underlying60 hi043 (some ad872) t859.length co9 x10_3 (of_decide_eq_true (by first | (with_reducible assumption) | assumption)) q43 hroom43
                                            have hr43 := Kd.C_take (m := (x10_3 : Int).toNat) hC43 (by omega)
                                            have hy43 : y878.length = (x10_3 : Int).toNat := (by rw [Ny878.out, List.length_take]; omega)
                                            rw [← Ny878.out] at hr43
                                            rw [← hy43] at hcut43
                                            have HR881 := Aside0.mk hr43
                                            have HC881 := Aside0.mk (show y878.length ≤ co9 from by omega)
                                            clear hr43 hC43 hroom43 hi043 hsz43
                                            have KY43 := Aside0.mk hy43
                                            clear hy43
                                            have KL43 := Aside0.mk (show (x10_3 : Int).toNat ≤ t859.length from by omega)
                                            replace q43 := eq_true q43
                                            refine start_ (n := 30) (S := fun w' => w'.cell? (ad872.add (x10_3).toNat) = some (.slice (some ad873) (rd_L5 t859 x10_3).length c872_0) ∧ w'.cell? ad873 = some (.int .i64 (rd (rd_L5 t859 x10_3) 0)) ∧ w'.cell? (ad874.add ((rd (rd_L5 t859 x10_3) 0)).toNat) = some (.int .i64 (rd t858 (rd (rd_L5 t859 x10_3) 0))) ∧ w'.cell? (ad872.add (x10_3).toNat) = some (.slice (some ad873) (rd_L5 t859 x10_3).length c872_0) ∧ w'.cell? ⟨ad873.block, ad873.off + 1, none⟩ = some (.int .i64 (rd (rd_L5 t859 x10_3) 1)) ∧ w'.cell? (ad874.add ((rd (rd_L5 t859 x10_3) 1)).toNat) = some (.int .i64 (rd t858 (rd (rd_L5 t859 x10_3) 1)))) (ds := []) #[false, false, false, false, false, false, false, false, false, false, false, false, false, false, false, false, false, false, false, false, false, false, false, false, false, false, false, false, false, false] (by kernel_rfl) rfl rfl ⟨hx872_0, hx873_0, hx874_0, hx875_0, hx876_0, hx877_0⟩ (fun hHeld => ?_); refine with_tabW laws_FnCriticalPath.tab20 laws_FnCriticalPath.bits20 (fun HT_ HW_ => ?_)
                                            generalize wr.drew = w42 at HO_3 HO_4 HB HL872_0 HL875_0 HR872_0 HR875_0 HR881 hx872_0 hx873_0 hx874_0 hx875_0 hx876_0 hx877_0 hHeld ⊢
                                            refine pure_ (i := 0) (N := some 74) (v := ?_) (a' := ?_) #[true, false, false, false, false, false, false, false, false, false, false, false, false, false, false, false, false, false, false, false, false, false, false, false, false, false, false, false, false, false] rfl rfl (any_of HT_.out (by kernel_rfl)) (fun _ _ _ h => h) (Or.inl ⟨by rfl, ?_⟩) ?_ ?_
                                            rotate_left
                                            · intro w'
                                              go_simp
                                              with_reducible rfl
                                            rotate_left
                                            · simp only [Act.put, List.setIfInBounds_toArray, List.set_cons_zero, List.set_cons_succ, i64_w, i32_w]
                                              rfl
                                            refine pure_ (i := 1) (N := some 75) (v := ?_) (a' := ?_) #[true, true, false, false, false, false, false, false, false, false, false, false, false, false, false, false, false, false, false, false, false, false, false, false, false, false, false, false, false, false] rfl rfl (any_of HT_.out (by kernel_rfl)) (fun _ _ _ h => h) (Or.inl ⟨by rfl, ?_⟩) ?_ ?_
                                            rotate_left
                                            · intro w'
                                              go_simp
                                              with_reducible rfl
                                            rotate_left
                                            · simp only [Act.put, List.setIfInBounds_toArray, List.set_cons_zero, List.set_cons_succ, i64_w, i32_w]
                                              rfl
                                            refine pure_ (i := 2) (N := some 76) (v := ?_) (a' := ?_) #[true, true, true, false, false, false, false, false, false, false, false, false, false, false, false, false, false, false, false, false, false, false, false, false, false, false, false, false, false, false] rfl rfl (any_of HT_.out (by kernel_rfl)) (fun _ _ _ h => h) (Or.inl ⟨by rfl, ?_⟩) ?_ ?_
                                            rotate_left
                                            · intro w'
                                              go_simp
                                              with_reducible rfl
                                            rotate_left
                                            · simp only [Act.put, List.setIfInBounds_toArray, List.set_cons_zero, List.set_cons_succ, i64_w, i32_w]
                                              rfl
                                            refine pure_ (i := 3) (N := some 77) (v := ?_) (a' := ?_) #[true, true, true, true, false, false, false, false, false, false, false, false, false, false, false, false, false, false, false, false, false, false, false, false, false, false, false, false, false, false] rfl rfl (any_of HT_.out (by kernel_rfl)) (fun _ _ _ h => h) (Or.inl ⟨by rfl, ?_⟩) ?_ ?_
                                            rotate_left
                                            · intro w'
                                              go_simp
                                              with_reducible rfl
                                            rotate_left
                                            · simp only [Act.put, List.setIfInBounds_toArray, List.set_cons_zero, List.set_cons_succ, i64_w, i32_w]
                                              rfl
                                            refine pure_ (i := 9) (N := some 83) (v := ?_) (a' := ?_) #[true, true, true, true, false, false, false, false, false, true, false, false, false, false, false, false, false, false, false, false, false, false, false, false, false, false, false, false, false, false] rfl rfl (any_of HT_.out (by kernel_rfl)) (fun _ _ _ h => h) (Or.inl ⟨by rfl, ?_⟩) ?_ ?_
                                            rotate_left
                                            · intro w'
                                              go_simp
                                              with_reducible rfl
                                            rotate_left
                                            · simp only [Act.put, List.setIfInBounds_toArray, List.set_cons_zero, List.set_cons_succ, i64_w, i32_w]
                                              rfl
                                            refine pure_ (i := 10) (N := some 84) (v := ?_) (a' := ?_) #[true, true, true, true, false, false, false, false, false, true, true, false, false, false, false, false, false, false, false, false, false, false, false, false, false, false, false, false, false, false] rfl rfl (any_of HT_.out (by kernel_rfl)) (fun _ _ _ h => h) (Or.inl ⟨by rfl, ?_⟩) ?_ ?_
                                            rotate_left
                                            · intro w'
                                              go_simp
                                              with_reducible rfl
                                            rotate_left
                                            · simp only [Act.put, List.setIfInBounds_toArray, List.set_cons_zero, List.set_cons_succ, i64_w, i32_w]
                                              rfl
                                            refine pure_ (i := 11) (N := some 85) (v := ?_) (a' := ?_) #[true, true, true, true, false, false, false, false, false, true, true, true, false, false, false, false, false, false, false, false, false, false, false, false, false, false, false, false, false, false] rfl rfl (any_of HT_.out (by kernel_rfl)) (fun _ _ _ h => h) (Or.inl ⟨by rfl, ?_⟩) ?_ ?_
                                            rotate_left
                                            · intro w'
                                              go_simp
                                              with_reducible rfl
                                            rotate_left
                                            · simp only [Act.put, List.setIfInBounds_toArray, List.set_cons_zero, List.set_cons_succ, i64_w, i32_w]
                                              rfl
                                            refine pure_ (i := 12) (N := some 86) (v := ?_) (a' := ?_) #[true, true, true, true, false, false, false, false, false, true, true, true, true, false, false, false, false, false, false, false, false, false, false, false, false, false, false, false, false, false] rfl rfl (any_of HT_.out (by kernel_rfl)) (fun _ _ _ h => h) (Or.inl ⟨by rfl, ?_⟩) ?_ ?_
                                            rotate_left
                                            · intro w'
                                              go_simp
                                              with_reducible rfl
                                            rotate_left
                                            · simp only [Act.put, List.setIfInBounds_toArray, List.set_cons_zero, List.set_cons_succ, i64_w, i32_w]
                                              rfl
                                            refine pure_ (i := 19) (N := some 93) (v := ?_) (a' := ?_) #[true, true, true, true, false, false, false, false, false, true, true, true, true, false, false, false, false, false, false, true, false, false, false, false, false, false, false, false, false, false] rfl rfl (any_of HT_.out (by kernel_rfl)) (fun _ _ _ h => h) (Or.inl ⟨by rfl, ?_⟩) ?_ ?_
                                            rotate_left
                                            · intro w'
                                              go_simp
                                              with_reducible rfl
                                            rotate_left
                                            · simp only [Act.put, List.setIfInBounds_toArray, List.set_cons_zero, List.set_cons_succ, i64_w, i32_w]
                                              rfl
                                            refine take_ (i := 4) (N := some 78) (v := ?_) (a' := ?_) #[true, true, true, true, true, false, false, false, false, true, true, true, true, false, false, false, false, false, false, true, false, false, false, false, false, false, false, false, false, false] rfl rfl (take_ofW HT_.out HW_.out (by kernel_rfl)) (fun _ _ _ h => h) (Or.inl ⟨by rfl, ?_⟩) hHeld ?_ ?_
                                            rotate_left
                                            · rintro w' ⟨s0, s1, s2, s3, s4, s5⟩
                                              go_simp
                                              with_reducible rfl
                                            rotate_left
                                            · simp only [Act.put, List.setIfInBounds_toArray, List.set_cons_zero, List.set_cons_succ, i64_w, i32_w]
                                              rfl
                                            refine pure_ (i := 5) (N := some 79) (v := ?_) (a' := ?_) #[true, true, true, true, true, true, false, false, false, true, true, true, true, false, false, false, false, false, false, true, false, false, false, false, false, false, false, false, false, false] rfl rfl (any_of HT_.out (by kernel_rfl)) (fun _ _ _ h => h) (Or.inl ⟨by rfl, ?_⟩) ?_ ?_
                                            rotate_left
                                            · intro w'
                                              go_simp
                                              with_reducible rfl
                                            rotate_left
                                            · simp only [Act.put, List.setIfInBounds_toArray, List.set_cons_zero, List.set_cons_succ, i64_w, i32_w]
                                              rfl
                                            refine take_ (i := 6) (N := some 80) (v := ?_) (a' := ?_) #[true, true, true, true, true, true, true, false, false, true, true, true, true, false, false, false, false, false, false, true, false, false, false, false, false, false, false, false, false, false] rfl rfl (take_ofW HT_.out HW_.out (by kernel_rfl)) (fun _ _ _ h => h) (Or.inl ⟨by rfl, ?_⟩) hHeld ?_ ?_
                                            rotate_left
                                            · rintro w' ⟨s0, s1, s2, s3, s4, s5⟩
                                              go_simp
                                              with_reducible rfl
                                            rotate_left
                                            · simp only [Act.put, List.setIfInBounds_toArray, List.set_cons_zero, List.set_cons_succ, i64_w, i32_w]
                                              rfl
                                            refine pure_ (i := 7) (N := some 81) (v := ?_) (a' := ?_) #[true, true, true, true, true, true, true, true, false, true, true, true, true, false, false, false, false, false, false, true, false, false, false, false, false, false, false, false, false, false] rfl rfl (any_of HT_.out (by kernel_rfl)) (fun _ _ _ h => h) (Or.inl ⟨by rfl, ?_⟩) ?_ ?_
                                            rotate_left
                                            · intro w'
                                              go_simp
                                              with_reducible rfl
                                            rotate_left
                                            · simp only [Act.put, List.setIfInBounds_toArray, List.set_cons_zero, List.set_cons_succ, i64_w, i32_w]
                                              rfl
                                            refine take_ (i := 8) (N := some 82) (v := ?_) (a' := ?_) #[true, true, true, true, true, true, true, true, true, true, true, true, true, false, false, false, false, false, false, true, false, false, false, false, false, false, false, false, false, false] rfl rfl (take_ofW HT_.out HW_.out (by kernel_rfl)) (fun _ _ _ h => h) (Or.inl ⟨by rfl, ?_⟩) hHeld ?_ ?_
                                            rotate_left
                                            · rintro w' ⟨s0, s1, s2, s3, s4, s5⟩
                                              go_simp
                                              with_reducible rfl
                                            rotate_left
                                            · simp only [Act.put, List.setIfInBounds_toArray, List.set_cons_zero, List.set_cons_succ, i64_w, i32_w]
                                              rfl
                                            refine take_ (i := 13) (N := some 87) (v := ?_) (a' := ?_) #[true, true, true, true, true, true, true, true, true, true, true, true, true, true, false, false, false, false, false, true, false, false, false, false, false, false, false, false, false, false] rfl rfl (take_ofW HT_.out HW_.out (by kernel_rfl)) (fun _ _ _ h => h) (Or.inl ⟨by rfl, ?_⟩) hHeld ?_ ?_
                                            rotate_left
                                            · rintro w' ⟨s0, s1, s2, s3, s4, s5⟩
                                              go_simp
                                              with_reducible rfl
                                            rotate_left
                                            · simp only [Act.put, List.setIfInBounds_toArray, List.set_cons_zero, List.set_cons_succ, i64_w, i32_w]
                                              rfl
                                            refine pure_ (i := 14) (N := some 88) (v := ?_) (a' := ?_) #[true, true, true, true, true, true, true, true, true, true, true, true, true, true, true, false, false, false, false, true, false, false, false, false, false, false, false, false, false, false] rfl rfl (any_of HT_.out (by kernel_rfl)) (fun _ _ _ h => h) (Or.inl ⟨by rfl, ?_⟩) ?_ ?_
                                            rotate_left
                                            · intro w'
                                              go_simp
                                              with_reducible rfl
                                            rotate_left
                                            · simp only [Act.put, List.setIfInBounds_toArray, List.set_cons_zero, List.set_cons_succ, i64_w, i32_w]
                                              rfl
                                            refine take_ (i := 15) (N := some 89) (v := ?_) (a' := ?_) #[true, true, true, true, true, true, true, true, true, true, true, true, true, true, true, true, false, false, false, true, false, false, false, false, false, false, false, false, false, false] rfl rfl (take_ofW HT_.out HW_.out (by kernel_rfl)) (fun _ _ _ h => h) (Or.inl ⟨by rfl, ?_⟩) hHeld ?_ ?_
                                            rotate_left
                                            · rintro w' ⟨s0, s1, s2, s3, s4, s5⟩
                                              go_simp
                                              with_reducible rfl
                                            rotate_left
                                            · simp only [Act.put, List.setIfInBounds_toArray, List.set_cons_zero, List.set_cons_succ, i64_w, i32_w]
                                              rfl
                                            refine pure_ (i := 16) (N := some 90) (v := ?_) (a' := ?_) #[true, true, true, true, true, true, true, true, true, true, true, true, true, true, true, true, true, false, false, true, false, false, false, false, false, false, false, false, false, false] rfl rfl (any_of HT_.out (by kernel_rfl)) (fun _ _ _ h => h) (Or.inl ⟨by rfl, ?_⟩) ?_ ?_
                                            rotate_left
                                            · intro w'
                                              go_simp
                                              with_reducible rfl
                                            rotate_left
                                            · simp only [Act.put, List.setIfInBounds_toArray, List.set_cons_zero, List.set_cons_succ, i64_w, i32_w]
                                              rfl
                                            refine take_ (i := 17) (N := some 91) (v := ?_) (a' := ?_) #[true, true, true, true, true, true, true, true, true, true, true, true, true, true, true, true, true, true, false, true, false, false, false, false, false, false, false, false, false, false] rfl rfl (take_ofW HT_.out HW_.out (by kernel_rfl)) (fun _ _ _ h => h) (Or.inl ⟨by rfl, ?_⟩) hHeld ?_ ?_
                                            rotate_left
                                            · rintro w' ⟨s0, s1, s2, s3, s4, s5⟩
                                              go_simp
                                              with_reducible rfl
                                            rotate_left
                                            · simp only [Act.put, List.setIfInBounds_toArray, List.set_cons_zero, List.set_cons_succ, i64_w, i32_w]
                                              rfl
                                            refine pure_ (i := 18) (N := some 92) (v := ?_) (a' := ?_) #[true, true, true, true, true, true, true, true, true, true, true, true, true, true, true, true, true, true, true, true, false, false, false, false, false, false, false, false, false, false] rfl rfl (any_of HT_.out (by kernel_rfl)) (fun _ _ _ h => h) (Or.inl ⟨by rfl, ?_⟩) ?_ ?_
                                            rotate_left
                                            · intro w'
                                              go_simp
                                              with_reducible rfl
                                            rotate_left
                                            · simp only [Act.put, List.setIfInBounds_toArray, List.set_cons_zero, List.set_cons_succ, i64_w, i32_w]
                                              rfl
                                            refine pure_ (i := 20) (N := some 94) (v := ?_) (a' := ?_) #[true, true, true, true, true, true, true, true, true, true, true, true, true, true, true, true, true, true, true, true, true, false, false, false, false, false, false, false, false, false] rfl rfl (any_of HT_.out (by kernel_rfl)) (fun _ _ _ h => h) (Or.inl ⟨by rfl, ?_⟩) ?_ ?_
                                            rotate_left
                                            · intro w'
                                              go_simp
                                              with_reducible rfl
                                            rotate_left
                                            · simp only [Act.put, List.setIfInBounds_toArray, List.set_cons_zero, List.set_cons_succ, i64_w, i32_w]
                                              rfl
                                            refine pure_ (i := 21) (N := some 95) (v := ?_) (a' := ?_) #[true, true, true, true, true, true, true, true, true, true, true, true, true, true, true, true, true, true, true, true, true, true, false, false, false, false, false, false, false, false] rfl rfl (any_of HT_.out (by kernel_rfl)) (fun _ _ _ h => h) (Or.inl ⟨by rfl, ?_⟩) ?_ ?_
                                            rotate_left
                                            · intro w'
                                              go_simp
                                              with_reducible rfl
                                            rotate_left
                                            · simp only [Act.put, List.setIfInBounds_toArray, List.set_cons_zero, List.set_cons_succ, i64_w, i32_w]
                                              rfl
                                            refine pure_ (i := 22) (N := some 96) (v := ?_) (a' := ?_) #[true, true, true, true, true, true, true, true, true, true, true, true, true, true, true, true, true, true, true, true, true, true, true, false, false, false, false, false, false, false] rfl rfl (any_of HT_.out (by kernel_rfl)) (fun _ _ _ h => h) (Or.inl ⟨by rfl, ?_⟩) ?_ ?_
                                            rotate_left
                                            · intro w'
                                              go_simp
                                              with_reducible rfl
                                            rotate_left
                                            · simp only [Act.put, List.setIfInBounds_toArray, List.set_cons_zero, List.set_cons_succ, i64_w, i32_w]
                                              rfl
                                            refine pure_ (i := 23) (N := some 97) (v := ?_) (a' := ?_) #[true, true, true, true, true, true, true, true, true, true, true, true, true, true, true, true, true, true, true, true, true, true, true, true, false, false, false, false, false, false] rfl rfl (any_of HT_.out (by kernel_rfl)) (fun _ _ _ h => h) (Or.inl ⟨by rfl, ?_⟩) ?_ ?_
                                            rotate_left
                                            · intro w'
                                              go_simp
                                              with_reducible rfl
                                            rotate_left
                                            · simp only [Act.put, List.setIfInBounds_toArray, List.set_cons_zero, List.set_cons_succ, i64_w, i32_w]
                                              rfl
                                            refine pure_ (i := 24) (N := some 98) (v := ?_) (a' := ?_) #[true, true, true, true, true, true, true, true, true, true, true, true, true, true, true, true, true, true, true, true, true, true, true, true, true, false, false, false, false, false] rfl rfl (any_of HT_.out (by kernel_rfl)) (fun _ _ _ h => h) (Or.inl ⟨by rfl, ?_⟩) ?_ ?_
                                            rotate_left
                                            · intro w'
                                              go_simp
                                              with_reducible rfl
                                            rotate_left
                                            · simp only [Act.put, List.setIfInBounds_toArray, List.set_cons_zero, List.set_cons_succ, i64_w, i32_w]
                                              rfl
                                            refine pure_ (i := 25) (N := some 99) (v := ?_) (a' := ?_) #[true, true, true, true, true, true, true, true, true, true, true, true, true, true, true, true, true, true, true, true, true, true, true, true, true, true, false, false, false, false] rfl rfl (any_of HT_.out (by kernel_rfl)) (fun _ _ _ h => h) (Or.inl ⟨by rfl, ?_⟩) ?_ ?_
                                            rotate_left
                                            · intro w'
                                              go_simp
                                              with_reducible rfl
                                            rotate_left
                                            · simp only [Act.put, List.setIfInBounds_toArray, List.set_cons_zero, List.set_cons_succ, i64_w, i32_w]
                                              rfl
                                            refine pure_ (i := 27) (N := some 101) (v := ?_) (a' := ?_) #[true, true, true, true, true, true, true, true, true, true, true, true, true, true, true, true, true, true, true, true, true, true, true, true, true, true, false, true, false, false] rfl rfl (any_of HT_.out (by kernel_rfl)) (fun _ _ _ h => h) (Or.inl ⟨by rfl, ?_⟩) ?_ ?_
                                            rotate_left
                                            · intro w'
                                              go_simp
                                              with_reducible rfl
                                            rotate_left
                                            · simp only [Act.put, List.setIfInBounds_toArray, List.set_cons_zero, List.set_cons_succ, i64_w, i32_w]
                                              rfl
                                            refine one_ (i := 26) (N := some 100) #[true, true, true, true, true, true, true, true, true, true, true, true, true, true, true, true, true, true, true, true, true, true, true, true, true, true, true, true, false, false] rfl rfl (one_of HT_.out (by kernel_rfl)) (by decide) (fun K hK => ?_)
                                            refine goes_ Try.func49 (by kernel_rfl) rfl #[.slice (some ad874) t858.length co8, .slice (some ad872) y878.length co9] (by rfl) rfl rfl (by (try simp only [List.map_toArray, List.map_cons, List.map_nil]); first | done | rfl | (simp only [List.length_drop, List.length_take]; rfl)) ?_
                                            with_reducible refine (impl_CriticalPath.calls k3 _ _ t858 _ _ y878 t882 _ ?side1 ?side2 ?side3 ?side4 A37.out).mono ?_
                                            (case side1 => repeat (first | exact (Kd.R_reads' HO_3.out).2.2 | (with_reducible refine Kd.C_alloc ?_ _) | (with_reducible refine Kd.C_drewN ?_ _) | (with_reducible refine Kd.C_drew ?_)))
                                            (case side2 => exact (Kd.R_reads' HO_3.out).2.1)
                                            (case side3 => repeat (first | exact (by repeat (first | (with_reducible exact HR881.out) | (with_reducible refine Kd.C_alloc ?_ _) | (with_reducible refine Kd.C_drewN ?_ _) | (with_reducible refine Kd.C_drew ?_) | exact HR881.out)) | (with_reducible refine Kd.C_alloc ?_ _) | (with_reducible refine Kd.C_drewN ?_ _) | (with_reducible refine Kd.C_drew ?_)))
                                            (case side4 => exact HC881.out)
                                            rintro e w44 ⟨rfl, hb⟩
                                            have HS0_ := (hb.cell (World.block_lt_of_cell? _ _ (hHeld.1))).trans (hHeld.1)
                                            have HS1_ := (hb.cell (World.block_lt_of_cell? _ _ (hHeld.2.1))).trans (hHeld.2.1)
                                            have HS2_ := (hb.cell (World.block_lt_of_cell? _ _ (hHeld.2.2.1))).trans (hHeld.2.2.1)
                                            have HS3_ := (hb.cell (World.block_lt_of_cell? _ _ (hHeld.2.2.2.1))).trans (hHeld.2.2.2.1)
                                            have HS4_ := (hb.cell (World.block_lt_of_cell? _ _ (hHeld.2.2.2.2.1))).trans (hHeld.2.2.2.2.1)
                                            have HS5_ := (hb.cell (World.block_lt_of_cell? _ _ (hHeld.2.2.2.2.2))).trans (hHeld.2.2.2.2.2)
                                            refine ⟨_, rfl, ?_⟩
                                            have n0_ := Aside0.mk (Kd.R_below (by (with_reducible repeat (first | apply Kd.R_alloc | apply Kd.R_drewN | apply Kd.R_drew)); exact HO_3.out) hb)
                                            have n1_ := Aside0.mk (Kd.S_below (by (with_reducible repeat (first | apply Kd.S_alloc | apply Kd.S_drewN | apply Kd.S_drew)); exact HO_4.out) hb)
                                            have n2_ := Aside0.mk (Kd.R_below (by (with_reducible repeat (first | apply Kd.R_alloc | apply Kd.R_drewN | apply Kd.R_drew)); exact HL872_0.out) hb)
                                            have n3_ := Aside0.mk (Kd.R_below (by (with_reducible repeat (first | apply Kd.R_alloc | apply Kd.R_drewN | apply Kd.R_drew)); exact HL875_0.out) hb)
                                            have n4_ := Aside0.mk (Kd.C_below (by repeat (first | (with_reducible exact HR872_0.out) | (with_reducible refine Kd.C_alloc ?_ _) | (with_reducible refine Kd.C_drewN ?_ _) | (with_reducible refine Kd.C_drew ?_) | exact HR872_0.out)) hb)
                                            have n5_ := Aside0.mk (Kd.C_below (by repeat (first | (with_reducible exact HR875_0.out) | (with_reducible refine Kd.C_alloc ?_ _) | (with_reducible refine Kd.C_drewN ?_ _) | (with_reducible refine Kd.C_drew ?_) | exact HR875_0.out)) hb)
                                            have n6_ := Aside0.mk (Kd.C_below (by repeat (first | (with_reducible exact HR881.out) | (with_reducible refine Kd.C_alloc ?_ _) | (with_reducible refine Kd.C_drewN ?_ _) | (with_reducible refine Kd.C_drew ?_) | exact HR881.out)) hb)
                                            have n7_ := Aside0.mk (below_step (by repeat (first | (with_reducible first | exact HB.out | apply below_alloc | apply pw_below_drewN | apply below_drew1) | exact HB.out)) hb)
                                            clear HO_3
                                            clear HO_4
                                            clear HL872_0
                                            clear HL875_0
                                            clear HR872_0
                                            clear HR875_0
                                            clear HR881
                                            clear HB
                                            have HO_3 := n0_
                                            have HO_4 := n1_
                                            have HL872_0 := n2_
                                            have HL875_0 := n3_
                                            have HR872_0 := n4_
                                            have HR875_0 := n5_
                                            have HR881 := n6_
                                            have HB := n7_
                                            clear n0_ n1_ n2_ n3_ n4_ n5_ n6_ n7_
                                            (try clear hb)
                                            (try clear hb2)
                                            (try clear hk)
                                            (try clear hi)
                                            refine hK.out _ _ ⟨HS0_, HS1_, HS2_, HS3_, HS4_, HS5_⟩ (fun hHeld => ?_)
                                            clear hK K
                                            refine norm_ (a' := ?_) ?_ ?_
                                            rotate_left
                                            · show Act.put _ (some 100) _ = _
                                              simp only [Act.put, List.setIfInBounds_toArray, List.set_cons_zero, List.set_cons_succ, i64_w, i32_w]
                                              rfl
                                            refine pure_ (i := 28) (N := some 102) (v := ?_) (a' := ?_) #[true, true, true, true, true, true, true, true, true, true, true, true, true, true, true, true, true, true, true, true, true, true, true, true, true, true, true, true, true, false] rfl rfl (any_of HT_.out (by kernel_rfl)) (fun _ _ _ h => h) (Or.inl ⟨by rfl, ?_⟩) ?_ ?_
                                            rotate_left
                                            · intro w'
                                              go_simp
                                              with_reducible rfl
                                            rotate_left
                                            · simp only [Act.put, List.setIfInBounds_toArray, List.set_cons_zero, List.set_cons_succ, i64_w, i32_w]
                                              rfl
                                            refine pure_ (i := 29) (N := some 103) (v := ?_) (a' := ?_) #[true, true, true, true, true, true, true, true, true, true, true, true, true, true, true, true, true, true, true, true, true, true, true, true, true, true, true, true, true, true] rfl rfl (any_of HT_.out (by kernel_rfl)) (fun _ _ _ h => h) (Or.inl ⟨by rfl, ?_⟩) ?_ ?_
                                            rotate_left
                                            · intro w'
                                              go_simp
                                              with_reducible rfl
                                            rotate_left
                                            · simp only [Act.put, List.setIfInBounds_toArray, List.set_cons_zero, List.set_cons_succ, i64_w, i32_w]
                                              rfl
                                            refine done_ (done_of HT_.out (by kernel_rfl)) ?_
                                            try go_wp2
                                            go_roundg k3
                                            case measure => have := HJ5.out; have := HK2.out; have := HK3.out; omega
                                            case rel => exact ⟨(wrap64 (x10_3 + 1)), (by first | rfl | (simp; done) | (simp [*]; done)), H', ⟨by have := HJ5.out; have := HK2.out; have := HK3.out; omega⟩, ⟨by (with_reducible repeat (first | apply Kd.R_alloc | apply Kd.R_drewN | apply Kd.R_drew)); exact HO_3.out⟩, ⟨by (with_reducible repeat (first | apply Kd.S_alloc | apply Kd.S_drewN | apply Kd.S_drew)); exact HO_4.out⟩, ⟨by repeat (first | (with_reducible first | exact HB.out | apply below_alloc | apply pw_below_drewN | apply below_drew1) | exact HB.out)⟩⟩
                                        · rw [if_neg c36] at H
                                          exact absurd H (by simp)
                                    · rw [if_neg c32] at H
                                      exact absurd H (by simp)
                                  · rw [if_neg c31] at H
                                    exact absurd H (by simp)
                                · rw [if_neg c30] at H
                                  exact absurd H (by simp)
                              · rw [if_neg c29] at H
                                exact absurd H (by simp)
                            · rw [if_neg c28] at H
                              exact absurd H (by simp)
                          · rw [if_neg c27] at H
                            exact absurd H (by simp)
                        · rw [if_neg c26] at H
                          exact absurd H (by simp)
                      · rw [if_neg c25] at H
                        have c25b0 : decide (x10_3 < (t859.length : Int)) = false := decide_eq_false c25
                        clear c25
                        by_cases c45 : t864 ≥ x7_2
                        · rw [if_pos c45] at H
                          have c45b0 : decide (x7_2 ≤ t864) = true := decide_eq_true c45
                          clear c45
                          by_cases c46 : t864 ≤ t865
                          · rw [if_pos c46] at H
                            have c46b0 : decide (t864 ≤ t865) = true := decide_eq_true c46
                            clear c46
                            by_cases c47 : t865 = x8_2
                            · rw [if_pos c47] at H
                              have c47b0 : (t865 == x8_2) = true := beq_iff_eq.mpr c47
                              have c47b1 : (t865 != x8_2) = false := bne_eq_false_iff_eq.mpr c47
                              clear c47
                              obtain ⟨y883, hy883⟩ : ∃ y_ : List (List Int), y_ = (([] : List (List Int))) := ⟨_, rfl⟩
                              replace H : ((impl_CriticalPath.f k3 t858 y883).bind fun t886 => (some (t886 == x7_2))) = some r := by first | (rw [hy883]; with_reducible exact H) | (have H2_ := (Option.bind_some _ _).symm.trans H; rw [hy883]; with_reducible exact H2_) | (have H2_ := (Option.bind_some _ _).symm.trans H; with_reducible exact H2_) | with_reducible exact H | (rw [hy883]; exact H) | exact H
                              have Ny883 := Aside0.mk hy883
                              clear hy883
                              replace H := Option.bind_eq_some_iff.mp H
                              obtain ⟨t886, A480, H⟩ := H
                              replace H : (some (t886 == x7_2)) = some r := H
                              have A48 := Aside0.mk A480
                              clear A480
                              obtain rfl := Option.some.inj H
                              go_wp2_with (first | ((with_reducible refine gate_dst (N := 119) rfl ?_); (try (refine gate_guard (by rfl) ?_; dsimp only)); refine Kd.S_lit (Kd.slice 3 (Kd.int .i64)) _ 39 ?hg (N := 119) ?hd (xs := ([] : List (List Int))) (inner := []) (ok := fun _ => True) (okp := fun _ => True) ?hr ?hp (fun _ hk => hk) trivial (Below.refl _ _) (Nat.le_refl _) (by simp) ?_; (case hd => rfl); (case hg => rfl); (case hr => first | (go_simp; done) | (go_simp; rfl)); (case hp => exact (Reps.none _ _)); intro v884 w49 ho50 hb hg_ hnew_; clear hg_ hnew_; (first | rw [← Ny883.out] at ho50 | (simp only [Int.reduceToNat] at ho50; rw [← Ny883.out] at ho50)); have n0_ := Aside0.mk (Kd.R_below (by (with_reducible repeat (first | apply Kd.R_alloc | apply Kd.R_drewN | apply Kd.R_drew)); exact HO_3.out) hb); have n1_ := Aside0.mk (Kd.S_elder' (by (with_reducible repeat (first | apply Kd.S_alloc | apply Kd.S_drewN | apply Kd.S_drew)); exact HO_4.out) (Kd.S_base ho50) hb); have n2_ := Aside0.mk (Kd.S_lower (Kd.S_new' (Kd.S_new' ho50 (Kd.R_lt (by (with_reducible repeat (first | apply Kd.R_alloc | apply Kd.R_drewN | apply Kd.R_drew)); exact HO_3.out))) (Kd.S_lt (by (with_reducible repeat (first | apply Kd.S_alloc | apply Kd.S_drewN | apply Kd.S_drew)); exact HO_4.out))) (below_size (by repeat (first | (with_reducible first | exact HB.out | apply below_alloc | apply pw_below_drewN | apply below_drew1) | exact HB.out)))); have n3_ := Aside0.mk (below_step (by repeat (first | (with_reducible first | exact HB.out | apply below_alloc | apply pw_below_drewN | apply below_drew1) | exact HB.out)) hb); clear HO_3; clear HO_4; clear HB; have HO_3 := n0_; have HO_4 := n1_; have HO885 := n2_; have HB := n3_; clear n0_ n1_ n2_ n3_; clear hb ho50; obtain ⟨Ao51, co51, eo51⟩ := Kd.S_slice HO885.out; subst eo51) | (go_at_call 49; (with_reducible refine (impl_CriticalPath.calls k3 _ _ t858 _ _ y883 t886 _ ?side1 ?side2 ?side3 ?side4 A48.out).mono ?_); (case side1 => repeat (first | exact (Kd.R_reads' HO_3.out).2.2 | (with_reducible refine Kd.C_alloc ?_ _) | (with_reducible refine Kd.C_drewN ?_ _) | (with_reducible refine Kd.C_drew ?_))); (case side2 => exact (Kd.R_reads' HO_3.out).2.1); (case side3 => repeat (first | exact (Kd.S_reads' HO885.out).2.2 | (with_reducible refine Kd.C_alloc ?_ _) | (with_reducible refine Kd.C_drewN ?_ _) | (with_reducible refine Kd.C_drew ?_))); (case side4 => exact (Kd.S_reads' HO885.out).2.1); rintro e w52 ⟨rfl, hb⟩; have n0_ := Aside0.mk (Kd.R_below (by (with_reducible repeat (first | apply Kd.R_alloc | apply Kd.R_drewN | apply Kd.R_drew)); exact HO_3.out) hb); have n1_ := Aside0.mk (Kd.S_below (by (with_reducible repeat (first | apply Kd.S_alloc | apply Kd.S_drewN | apply Kd.S_drew)); exact HO_4.out) hb); have n2_ := Aside0.mk (Kd.S_below (by (with_reducible repeat (first | apply Kd.S_alloc | apply Kd.S_drewN | apply Kd.S_drew)); exact HO885.out) hb); have n3_ := Aside0.mk (below_step (by repeat (first | (with_reducible first | exact HB.out | apply below_alloc | apply pw_below_drewN | apply below_drew1) | exact HB.out)) hb); clear HO_3; clear HO_4; clear HO885; clear HB; have HO_3 := n0_; have HO_4 := n1_; have HO885 := n2_; have HB := n3_; clear n0_ n1_ n2_ n3_; (try clear hb); (try clear hb2); (try clear hk); (try clear hi)))
                              go_ret
                              exact ⟨by first | rfl | (simp [errW_none, errW_some] <;> rfl) | (simp [*, errW_none, errW_some] <;> rfl), by repeat (first | (with_reducible first | exact HB.out | apply below_alloc | apply pw_below_drewN | apply below_drew1) | exact HB.out)⟩
                            · rw [if_neg c47] at H
                              have c47b0 : (t865 == x8_2) = false := beq_eq_false_iff_ne.mpr c47
                              have c47b1 : (t865 != x8_2) = true := bne_iff_ne.mpr c47
                              obtain rfl := Option.some.inj H
                              go_wp2
                              go_ret
                              exact ⟨by first | rfl | (simp [errW_none, errW_some] <;> rfl) | (simp [*, errW_none, errW_some] <;> rfl), by repeat (first | (with_reducible first | exact HB.out | apply below_alloc | apply pw_below_drewN | apply below_drew1) | exact HB.out)⟩
                          · rw [if_neg c46] at H
                            have c46b0 : decide (t864 ≤ t865) = false := decide_eq_false c46
                            clear c46
                            obtain rfl := Option.some.inj H
                            go_wp2
                            go_ret
                            exact ⟨by first | rfl | (simp [errW_none, errW_some] <;> rfl) | (simp [*, errW_none, errW_some] <;> rfl), by repeat (first | (with_reducible first | exact HB.out | apply below_alloc | apply pw_below_drewN | apply below_drew1) | exact HB.out)⟩
                        · rw [if_neg c45] at H
                          have c45b0 : decide (x7_2 ≤ t864) = false := decide_eq_false c45
                          clear c45
                          obtain rfl := Option.some.inj H
                          go_wp2
                          go_ret
                          exact ⟨by first | rfl | (simp [errW_none, errW_some] <;> rfl) | (simp [*, errW_none, errW_some] <;> rfl), by repeat (first | (with_reducible first | exact HB.out | apply below_alloc | apply pw_below_drewN | apply below_drew1) | exact HB.out)⟩
          · replace c20 := Bool.eq_false_iff.mpr c20
            subst c20
            have H1 : (if t864 = (-1) then (if t865 = (-1) then ((laws_alive.f).bind fun t869 => (some t869)) else (some false)) else (some false)) = some r := by rw [if_neg (show ¬ (false = true) by decide)] at H; exact H
            clear H
            have H := H1
            clear H1
            by_cases c53 : t864 = (-1)
            · rw [if_pos c53] at H
              have c53b0 : (t864 == (-1)) = true := beq_iff_eq.mpr c53
              have c53b1 : (t864 != (-1)) = false := bne_eq_false_iff_eq.mpr c53
              clear c53
              by_cases c54 : t865 = (-1)
              · rw [if_pos c54] at H
                have c54b0 : (t865 == (-1)) = true := beq_iff_eq.mpr c54
                have c54b1 : (t865 != (-1)) = false := bne_eq_false_iff_eq.mpr c54
                clear c54
                replace H := Option.bind_eq_some_iff.mp H
                obtain ⟨t869, A550, H⟩ := H
                replace H : (some t869) = some r := H
                have A55 := Aside0.mk A550
                clear A550
                obtain rfl := Option.some.inj H
                go_wp2_with (first | ((with_reducible refine gate_callee (f := 41) rfl ?_); refine goesL_ (some 39) rfl rfl Try.func41 (by kernel_rfl) rfl #[.slice Ao8 t858.length co8, .slice Ao9 t859.length co9] rfl (by (try simp only [List.map_toArray, List.map_cons, List.map_nil]); first | done | rfl | (simp only [List.length_drop, List.length_take]; rfl)) ?_; (with_reducible refine (spec_GraphValid.calls kj5 _ _ t858 _ _ t859 false _ ?side1 ?side2 ?side3 ?side4 A19.out).mono ?_); (case side1 => repeat (first | exact (Kd.R_reads' HO_3.out).2.2 | (with_reducible refine Kd.C_alloc ?_ _) | (with_reducible refine Kd.C_drewN ?_ _) | (with_reducible refine Kd.C_drew ?_))); (case side2 => exact (Kd.R_reads' HO_3.out).2.1); (case side3 => repeat (first | exact (Kd.S_reads' HO_4.out).2.2 | (with_reducible refine Kd.C_alloc ?_ _) | (with_reducible refine Kd.C_drewN ?_ _) | (with_reducible refine Kd.C_drew ?_))); (case side4 => exact (Kd.S_reads' HO_4.out).2.1); rintro e w56 ⟨rfl, hb⟩; refine ⟨_, rfl, ?_⟩; have n0_ := Aside0.mk (Kd.R_below (by (with_reducible repeat (first | apply Kd.R_alloc | apply Kd.R_drewN | apply Kd.R_drew)); exact HO_3.out) hb); have n1_ := Aside0.mk (Kd.S_below (by (with_reducible repeat (first | apply Kd.S_alloc | apply Kd.S_drewN | apply Kd.S_drew)); exact HO_4.out) hb); have n2_ := Aside0.mk (below_step (by repeat (first | (with_reducible first | exact HB.out | apply below_alloc | apply pw_below_drewN | apply below_drew1) | exact HB.out)) hb); clear HO_3; clear HO_4; clear HB; have HO_3 := n0_; have HO_4 := n1_; have HB := n2_; clear n0_ n1_ n2_; (try clear hb); (try clear hb2); (try clear hk); (try clear hi)) | (go_at_call 23; (with_reducible refine (laws_alive.calls  t869 _ A55.out).mono ?_); rintro e w57 ⟨rfl, hb⟩; have n0_ := Aside0.mk (Kd.R_below (by (with_reducible repeat (first | apply Kd.R_alloc | apply Kd.R_drewN | apply Kd.R_drew)); exact HO_3.out) hb); have n1_ := Aside0.mk (Kd.S_below (by (with_reducible repeat (first | apply Kd.S_alloc | apply Kd.S_drewN | apply Kd.S_drew)); exact HO_4.out) hb); have n2_ := Aside0.mk (below_step (by repeat (first | (with_reducible first | exact HB.out | apply below_alloc | apply pw_below_drewN | apply below_drew1) | exact HB.out)) hb); clear HO_3; clear HO_4; clear HB; have HO_3 := n0_; have HO_4 := n1_; have HB := n2_; clear n0_ n1_ n2_; (try clear hb); (try clear hb2); (try clear hk); (try clear hi)))
                go_ret
                exact ⟨by first | rfl | (simp [errW_none, errW_some] <;> rfl) | (simp [*, errW_none, errW_some] <;> rfl), by repeat (first | (with_reducible first | exact HB.out | apply below_alloc | apply pw_below_drewN | apply below_drew1) | exact HB.out)⟩
              · rw [if_neg c54] at H
                have c54b0 : (t865 == (-1)) = false := beq_eq_false_iff_ne.mpr c54
                have c54b1 : (t865 != (-1)) = true := bne_iff_ne.mpr c54
                obtain rfl := Option.some.inj H
                go_wp2_with (first | ((with_reducible refine gate_callee (f := 41) rfl ?_); refine goesL_ (some 39) rfl rfl Try.func41 (by kernel_rfl) rfl #[.slice Ao8 t858.length co8, .slice Ao9 t859.length co9] rfl (by (try simp only [List.map_toArray, List.map_cons, List.map_nil]); first | done | rfl | (simp only [List.length_drop, List.length_take]; rfl)) ?_; (with_reducible refine (spec_GraphValid.calls kj5 _ _ t858 _ _ t859 false _ ?side1 ?side2 ?side3 ?side4 A19.out).mono ?_); (case side1 => repeat (first | exact (Kd.R_reads' HO_3.out).2.2 | (with_reducible refine Kd.C_alloc ?_ _) | (with_reducible refine Kd.C_drewN ?_ _) | (with_reducible refine Kd.C_drew ?_))); (case side2 => exact (Kd.R_reads' HO_3.out).2.1); (case side3 => repeat (first | exact (Kd.S_reads' HO_4.out).2.2 | (with_reducible refine Kd.C_alloc ?_ _) | (with_reducible refine Kd.C_drewN ?_ _) | (with_reducible refine Kd.C_drew ?_))); (case side4 => exact (Kd.S_reads' HO_4.out).2.1); rintro e w58 ⟨rfl, hb⟩; refine ⟨_, rfl, ?_⟩; have n0_ := Aside0.mk (Kd.R_below (by (with_reducible repeat (first | apply Kd.R_alloc | apply Kd.R_drewN | apply Kd.R_drew)); exact HO_3.out) hb); have n1_ := Aside0.mk (Kd.S_below (by (with_reducible repeat (first | apply Kd.S_alloc | apply Kd.S_drewN | apply Kd.S_drew)); exact HO_4.out) hb); have n2_ := Aside0.mk (below_step (by repeat (first | (with_reducible first | exact HB.out | apply below_alloc | apply pw_below_drewN | apply below_drew1) | exact HB.out)) hb); clear HO_3; clear HO_4; clear HB; have HO_3 := n0_; have HO_4 := n1_; have HB := n2_; clear n0_ n1_ n2_; (try clear hb); (try clear hb2); (try clear hk); (try clear hi)))
                go_ret
                exact ⟨by first | rfl | (simp [errW_none, errW_some] <;> rfl) | (simp [*, errW_none, errW_some] <;> rfl), by repeat (first | (with_reducible first | exact HB.out | apply below_alloc | apply pw_below_drewN | apply below_drew1) | exact HB.out)⟩
            · rw [if_neg c53] at H
              have c53b0 : (t864 == (-1)) = false := beq_eq_false_iff_ne.mpr c53
              have c53b1 : (t864 != (-1)) = true := bne_iff_ne.mpr c53
              obtain rfl := Option.some.inj H
              go_wp2_with (first | ((with_reducible refine gate_callee (f := 41) rfl ?_); refine goesL_ (some 39) rfl rfl Try.func41 (by kernel_rfl) rfl #[.slice Ao8 t858.length co8, .slice Ao9 t859.length co9] rfl (by (try simp only [List.map_toArray, List.map_cons, List.map_nil]); first | done | rfl | (simp only [List.length_drop, List.length_take]; rfl)) ?_; (with_reducible refine (spec_GraphValid.calls kj5 _ _ t858 _ _ t859 false _ ?side1 ?side2 ?side3 ?side4 A19.out).mono ?_); (case side1 => repeat (first | exact (Kd.R_reads' HO_3.out).2.2 | (with_reducible refine Kd.C_alloc ?_ _) | (with_reducible refine Kd.C_drewN ?_ _) | (with_reducible refine Kd.C_drew ?_))); (case side2 => exact (Kd.R_reads' HO_3.out).2.1); (case side3 => repeat (first | exact (Kd.S_reads' HO_4.out).2.2 | (with_reducible refine Kd.C_alloc ?_ _) | (with_reducible refine Kd.C_drewN ?_ _) | (with_reducible refine Kd.C_drew ?_))); (case side4 => exact (Kd.S_reads' HO_4.out).2.1); rintro e w59 ⟨rfl, hb⟩; refine ⟨_, rfl, ?_⟩; have n0_ := Aside0.mk (Kd.R_below (by (with_reducible repeat (first | apply Kd.R_alloc | apply Kd.R_drewN | apply Kd.R_drew)); exact HO_3.out) hb); have n1_ := Aside0.mk (Kd.S_below (by (with_reducible repeat (first | apply Kd.S_alloc | apply Kd.S_drewN | apply Kd.S_drew)); exact HO_4.out) hb); have n2_ := Aside0.mk (below_step (by repeat (first | (with_reducible first | exact HB.out | apply below_alloc | apply pw_below_drewN | apply below_drew1) | exact HB.out)) hb); clear HO_3; clear HO_4; clear HB; have HO_3 := n0_; have HO_4 := n1_; have HB := n2_; clear n0_ n1_ n2_; (try clear hb); (try clear hb2); (try clear hk); (try clear hi)))
              go_ret
              exact ⟨by first | rfl | (simp [errW_none, errW_some] <;> rfl) | (simp [*, errW_none, errW_some] <;> rfl), by repeat (first | (with_reducible first | exact HB.out | apply below_alloc | apply pw_below_drewN | apply below_drew1) | exact HB.out)⟩

/-- The one pure statement of laws_FnCriticalPath. -/
def laws_FnCriticalPath.Pure : Prop := ∀ (l0 : List Int), l0.length * 1 ≤ 140737488351232 → (l0.length ≤ maxLen ∧ ∀ y0 ∈ l0, (Lit.int .u8 y0).wf = true) → ∃ k, laws_FnCriticalPath.f k l0 = some true

end Go.Proofs.Ytkmpcmhkfnoeiaa.P
/- Small laws that all proofs of this seat use. No condition. -/
namespace Go.Proofs.Ytkmpcmhkfnoeiaa.Base
open Go.RowKit Go.Proofs.Ytkmpcmhkfnoeiaa.P Go.Proofs.YtkmpcmhkfnoeiaaW.PrintWords Go.Proofs.YtkmpcmhkfnoeiaaW.PrintLast Go.Proofs.YtkmpcmhkfnoeiaaW.PrintMore
theorem w64 {x : Int} (h0 : -9223372036854775808 ≤ x) (h1 : x < 9223372036854775808) : wrap64 x = x := by unfold wrap64; omega
theorem in_f (a b c : Int) : impl_in.f a b c = some (decide (b ≤ a ∧ a ≤ c)) := by
  unfold impl_in.f
  by_cases h : a ≥ b
  · rw [if_pos h]; simp [show b ≤ a from h]
  · rw [if_neg h]; simp [show ¬ b ≤ a from h]
theorem l1In_f (a b c : Int) : spec_l1In.f a b c = some (decide (b ≤ a ∧ a ≤ c)) := by
  unfold spec_l1In.f
  by_cases h : a ≥ b
  · rw [if_pos h]; simp [show b ≤ a from h]
  · rw [if_neg h]; simp [show ¬ b ≤ a from h]
theorem and_bind {α : Type} (p : Prop) [Decidable p] (x y : Option α) : (some (decide p)).bind (fun t => if t = true then x else y) = if p then x else y := by
  by_cases hp : p <;> simp [hp]
theorem mx_max (a b : Int) : mx a b = max a b := by unfold mx; omega
end Go.Proofs.Ytkmpcmhkfnoeiaa.Base
/- Runs that end, whatever the number of rounds from some number on; loops over a row. No condition. -/
namespace Go.Proofs.Ytkmpcmhkfnoeiaa.Gen
open Go.RowKit Go.Proofs.YtkmpcmhkfnoeiaaW.PrintWords Go.Proofs.YtkmpcmhkfnoeiaaW.PrintLast

/-- From some number of rounds on the run ends in one answer, and the answer is good. -/
def Tot {α : Type} (g : Nat → Option α) (P : α → Prop) : Prop := ∃ r, Ev g r ∧ P r
theorem Tot.ret {α : Type} {P : α → Prop} (a : α) (h : P a) : Tot (fun _ => some a) P := ⟨a, Ev.now a, h⟩
theorem Tot.mono {α : Type} {P Q : α → Prop} {g : Nat → Option α} (h : Tot g P) (hpq : ∀ a, P a → Q a) : Tot g Q := by
  obtain ⟨r, h1, h2⟩ := h
  exact ⟨r, h1, hpq r h2⟩
theorem Tot.congr {α : Type} {P : α → Prop} {g f : Nat → Option α} (e : ∀ k, g k = f k) (h : Tot f P) : Tot g P := by
  have : g = f := funext e
  rw [this]; exact h
theorem Tot.step {α : Type} {P : α → Prop} {g f : Nat → Option α} (e : ∀ k, g (k + 1) = f k) (h : Tot f P) : Tot g P := by
  obtain ⟨r, h1, h2⟩ := h
  exact ⟨r, Ev.step e h1, h2⟩
theorem Tot.bind {α β : Type} {P : α → Prop} {Q : β → Prop} {g : Nat → Option α} {f : Nat → α → Option β} (h : Tot g P) (hf : ∀ a, P a → Tot (fun k => f k a) Q) : Tot (fun k => (g k).bind (f k)) Q := by
  obtain ⟨r, h1, h2⟩ := h
  obtain ⟨q, h3, h4⟩ := hf r h2
  exact ⟨q, Ev.bind h1 h3, h4⟩
/-- A call without rounds. -/
theorem Tot.bind0 {α β : Type} {Q : β → Prop} {g : Option α} {f : Nat → α → Option β} {a : α} (h : g = some a) (hf : Tot (fun k => f k a) Q) : Tot (fun k => g.bind (f k)) Q := by
  subst h; exact hf
theorem Tot.yes {α : Type} {P : α → Prop} {c : Prop} [Decidable c] {g f : Nat → Option α} (hc : c) (h : Tot g P) : Tot (fun k => if c then g k else f k) P := by
  simp only [if_pos hc]; exact h
theorem Tot.no {α : Type} {P : α → Prop} {c : Prop} [Decidable c] {g f : Nat → Option α} (hc : ¬ c) (h : Tot f P) : Tot (fun k => if c then g k else f k) P := by
  simp only [if_neg hc]; exact h
theorem Tot.ite {α : Type} {P : α → Prop} {c : Prop} [Decidable c] {g f : Nat → Option α} (h1 : c → Tot g P) (h2 : ¬ c → Tot f P) : Tot (fun k => if c then g k else f k) P := by
  by_cases hc : c
  · exact Tot.yes hc (h1 hc)
  · exact Tot.no hc (h2 hc)
theorem Tot.rounds {g : Nat → Option Bool} (h : Tot g (fun r => r = true)) : ∃ k, g k = some true := by
  obtain ⟨r, h1, rfl⟩ := h
  exact h1.rounds
/-- What a run answers, and how it was found. -/
theorem Tot.val {α : Type} {g : Nat → Option α} {a : α} (h : Ev g a) : Tot g (fun r => r = a) := ⟨a, h, rfl⟩
/-- A loop with a counter: 'Inv i s' at the head of round i, n rounds. -/
theorem Tot.loop {σ ρ : Type} {P : ρ → Prop} (F : Nat → Nat → σ → Option ρ) (n : Nat) (Inv : Nat → σ → Prop)
    (hstep : ∀ i s, i < n → Inv i s → (∀ s', Inv (i + 1) s' → Tot (fun k => F k (i + 1) s') P) → Tot (fun k => F k i s) P)
    (hend : ∀ s, Inv n s → Tot (fun k => F k n s) P) : ∀ i s, i ≤ n → Inv i s → Tot (fun k => F k i s) P := by
  have key : ∀ d i s, i + d = n → Inv i s → Tot (fun k => F k i s) P := by
    intro d
    induction d with
    | zero => intro i s hi h; obtain rfl : i = n := by omega
              exact hend s h
    | succ d ih => intro i s hi h; exact hstep i s (by omega) h (fun s' hs' => ih (i + 1) s' (by omega) hs')
  intro i s hi h
  exact key (n - i) i s (by omega) h
theorem rd_at (xs : List Int) (i : Nat) (h : i < xs.length) : rd xs (i : Int) = xs[i] := by
  unfold rd
  rw [List.getD_eq_getElem?_getD, Int.toNat_natCast, List.getElem?_eq_getElem h]
  rfl
/-- A walk that only looks. -/
theorem Tot.look {ρ : Type} {r : ρ} (F : Nat → Int → Option ρ) (n : Nat) (hstep : ∀ k (i : Nat), i < n → F (k + 1) (i : Int) = F k ((i : Int) + 1)) (hend : ∀ k, F (k + 1) (n : Int) = some r) : Tot (fun k => F k 0) (fun q => q = r) := by
  have key : ∀ d (i : Nat), i + d = n → Tot (fun k => F k (i : Int)) (fun q => q = r) := by
    intro d
    induction d with
    | zero => intro i hi; obtain rfl : i = n := by omega
              exact Tot.step (f := fun _ => some r) (fun k => hend k) (Tot.ret _ rfl)
    | succ d ih => intro i hi; exact Tot.step (fun k => hstep k i (by omega)) (by simpa using ih (i + 1) (by omega))
  simpa using key n 0 (by omega)
end Go.Proofs.Ytkmpcmhkfnoeiaa.Gen
/- The reader of a code: what a pick tells. Conditions: the code's bytes are bytes, at most 2000 of them; the place is small. -/
namespace Go.Proofs.Ytkmpcmhkfnoeiaa.Pb
open Go.RowKit Go.Proofs.Ytkmpcmhkfnoeiaa.P Go.Proofs.Ytkmpcmhkfnoeiaa.Gen Go.Proofs.Ytkmpcmhkfnoeiaa.Base Go.Proofs.YtkmpcmhkfnoeiaaW.PrintWords Go.Proofs.YtkmpcmhkfnoeiaaW.PrintLast

theorem xor_ok (x y : Int) (hx : 0 ≤ x) (hx1 : x < 4611686018427387904) (hy : 0 ≤ y) (hy1 : y < 4611686018427387904) : 0 ≤ Go.bits .xor .i64 x y := by
  obtain ⟨a, rfl⟩ := Int.eq_ofNat_of_zero_le hx
  obtain ⟨b, rfl⟩ := Int.eq_ofNat_of_zero_le hy
  have ha : a < 2 ^ 62 := by have e : (2 : Nat) ^ 62 = 4611686018427387904 := by decide
                             omega
  have hb : b < 2 ^ 62 := by have e : (2 : Nat) ^ 62 = 4611686018427387904 := by decide
                             omega
  have ha' : a % 2 ^ 64 = a := Nat.mod_eq_of_lt (by omega)
  have hb' : b % 2 ^ 64 = b := Nat.mod_eq_of_lt (by omega)
  have hx := Nat.xor_lt_two_pow ha hb
  simp only [Go.bits]
  rw [show IntKind.i64.bits = 64 from rfl]
  rw [BitVec.toNat_xor, BitVec.ofInt_natCast, BitVec.ofInt_natCast, BitVec.toNat_ofNat, BitVec.toNat_ofNat, ha', hb', IntKind.wrap_i64]
  have e : (2 : Nat) ^ 62 = 4611686018427387904 := by decide
  omega
/-- The bytes of a code. -/
def Bytes (s : List Int) : Prop := s.length ≤ 2000 ∧ ∀ x ∈ s, 0 ≤ x ∧ x ≤ 255
theorem Bytes.rd {s : List Int} (h : Bytes s) (i : Int) : 0 ≤ rd s i ∧ rd s i ≤ 255 := by
  unfold Go.Proofs.YtkmpcmhkfnoeiaaW.PrintWords.rd
  rw [List.getD_eq_getElem?_getD]
  rcases Nat.lt_or_ge i.toNat s.length with hi | hi
  · rw [List.getElem?_eq_getElem hi]
    exact h.2 _ (List.getElem_mem hi)
  · rw [List.getElem?_eq_none hi]
    simp
theorem u8_wf {x : Int} (h : (Lit.int .u8 x).wf = true) : 0 ≤ x ∧ x ≤ 255 := by
  simp [Lit.wf, IntKind.min, IntKind.max, IntKind.bits, IntKind.signed] at h
  omega
theorem tmod_ok (a n : Int) (ha : 0 ≤ a) (hn : 1 ≤ n) : 0 ≤ Int.tmod a n ∧ Int.tmod a n < n := by
  rw [Int.tmod_eq_emod_of_nonneg ha]
  exact ⟨Int.emod_nonneg _ (by omega), Int.emod_lt_of_pos _ (by omega)⟩
theorem tdiv_ok (a n : Int) (ha : 0 ≤ a) (hn : 1 ≤ n) : 0 ≤ Int.tdiv a n ∧ Int.tdiv a n ≤ a := by
  rw [Int.tdiv_eq_ediv_of_nonneg ha]
  exact ⟨Int.ediv_nonneg ha (by omega), Int.ediv_le_self _ ha⟩
/-- One pick: at every number of rounds but 0. -/
theorem pick_at (k : Nat) (s : List Int) (p n : Int) (hs : Bytes s) (hp : 0 ≤ p) (hp2 : p ≤ 1000000000) :
    ∃ r, spec_l20Rd_pick.f (k + 1) s p n = some (r, p + 1) ∧ 0 ≤ r ∧ (1 ≤ n → r < n) := by
  unfold spec_l20Rd_pick.f
  rw [w64 (x := p + 1) (by omega) (by omega)]
  by_cases hn : n < 1
  · rw [if_pos hn]
    exact ⟨0, by simp [spec_l20Rd_pick.j0], Int.le_refl _, fun h => by omega⟩
  · rw [if_neg hn]
    by_cases h0 : (s.length : Int) = 0
    · refine ⟨0, ?_, Int.le_refl _, fun h => by omega⟩
      simp only [spec_l20Rd_pick.j0]
      rw [if_pos (by simpa using h0)]
    · simp only [spec_l20Rd_pick.j0]
      rw [if_neg (by simpa using h0)]
      have hl := hs.1
      rw [w64 (x := p + 1 - 1) (by omega) (by omega), show p + 1 - 1 = p by omega]
      by_cases h1 : p < (s.length : Int)
      · have hb := hs.rd p
        rw [if_pos h1, if_pos hp, if_neg (by omega), w64 (x := rd s p) (by omega) (by omega)]
        have ht := tmod_ok (rd s p) n hb.1 (by omega)
        exact ⟨_, rfl, ht.1, fun _ => ht.2⟩
      · rw [if_neg h1, if_neg h0]
        have m0 := tmod_ok p (s.length : Int) hp (by omega)
        rw [if_pos m0.1, if_pos m0.2]
        rw [w64 (x := p * 7) (by omega) (by omega), w64 (x := p * 7 + 3) (by omega) (by omega)]
        have m1 := tmod_ok (p * 7 + 3) (s.length : Int) (by omega) (by omega)
        rw [if_pos m1.1, if_pos m1.2, if_neg (by omega)]
        have b0 := hs.rd (Int.tmod p (s.length : Int))
        have b1 := hs.rd (Int.tmod (p * 7 + 3) (s.length : Int))
        have d0 := tdiv_ok p (s.length : Int) hp (by omega)
        generalize rd s (Int.tmod p (s.length : Int)) = x at b0 ⊢
        generalize rd s (Int.tmod (p * 7 + 3) (s.length : Int)) = y at b1 ⊢
        generalize Int.tdiv p (s.length : Int) = q at d0 ⊢
        rw [w64 (x := x) (by omega) (by omega), w64 (x := y) (by omega) (by omega), w64 (x := q) (by omega) (by omega)]
        rw [w64 (x := x * 131) (by omega) (by omega), w64 (x := y * 1117) (by omega) (by omega), w64 (x := p * 29) (by omega) (by omega), w64 (x := q * 53) (by omega) (by omega)]
        rw [w64 (x := x * 131 + y * 1117) (by omega) (by omega), w64 (x := x * 131 + y * 1117 + p * 29) (by omega) (by omega), w64 (x := x * 131 + y * 1117 + p * 29 + q * 53) (by omega) (by omega)]
        have e0 := tdiv_ok (x * 131 + y * 1117 + p * 29 + q * 53) 64 (by omega) (by omega)
        rw [w64 (x := Int.tdiv (x * 131 + y * 1117 + p * 29 + q * 53) 64) (by omega) (by omega)]
        have hx := xor_ok (x * 131 + y * 1117 + p * 29 + q * 53) (Int.tdiv (x * 131 + y * 1117 + p * 29 + q * 53) 64) (by omega) (by omega) e0.1 (by omega)
        have ht := tmod_ok _ n hx (by omega)
        exact ⟨_, rfl, ht.1, fun _ => ht.2⟩
theorem open_at (l : List Int) (hl : ∀ x ∈ l, (Lit.int .u8 x).wf = true) : ∃ s, spec_l20Open.f l = some (s, 0) ∧ Bytes s := by
  unfold spec_l20Open.f
  by_cases h : (l.length : Int) > 2000
  · rw [if_pos h, if_pos (by omega)]
    exact ⟨_, rfl, by rw [List.length_take]; omega, fun x hx => u8_wf (hl x (List.mem_of_mem_take hx))⟩
  · rw [if_neg h]
    exact ⟨_, rfl, by omega, fun x hx => u8_wf (hl x hx)⟩
theorem pick_tot (s : List Int) (p n : Int) (hs : Bytes s) (hp : 0 ≤ p) (hp2 : p ≤ 1000000000) : Tot (fun k => spec_l20Rd_pick.f k s p n) (fun r => r.2 = p + 1 ∧ 0 ≤ r.1 ∧ (1 ≤ n → r.1 < n)) := by
  obtain ⟨r, hr, h0, h1⟩ := pick_at 0 s p n hs hp hp2
  refine ⟨(r, p + 1), ⟨1, fun k hk => ?_⟩, rfl, h0, h1⟩
  obtain ⟨j, rfl⟩ : ∃ j, k = j + 1 := ⟨k - 1, by omega⟩
  obtain ⟨r', hr', h0', h1'⟩ := pick_at j s p n hs hp hp2
  have hm := at_rounds (g := fun k => spec_l20Rd_pick.f k s p n) (fun k => spec_l20Rd_pick.mono _ _ _ k) (show 1 ≤ j + 1 by omega) hr
  exact hm
theorem odd_tot (s : List Int) (p n : Int) (hs : Bytes s) (hp : 0 ≤ p) (hp2 : p ≤ 1000000000) : Tot (fun k => spec_l20Rd_odd.f k s p n) (fun r => p ≤ r.2 ∧ r.2 ≤ p + 1) := by
  unfold spec_l20Rd_odd.f
  refine Tot.ite (fun _ => ?_) (fun _ => Tot.ret _ ⟨Int.le_refl _, by omega⟩)
  refine Tot.bind (pick_tot s p n hs hp hp2) ?_
  rintro ⟨a, q⟩ ⟨rfl, _, _⟩
  exact Tot.ret _ ⟨by show p ≤ p + 1; omega, Int.le_refl _⟩
theorem open_tot {β : Type} {Q : β → Prop} (l : List Int) (hl : ∀ x ∈ l, (Lit.int .u8 x).wf = true) {f : Nat → List Int × Int → Option β} (hf : ∀ s, Bytes s → Tot (fun k => f k (s, 0)) Q) : Tot (fun k => (spec_l20Open.f l).bind (f k)) Q := by
  obtain ⟨s, hs, hb⟩ := open_at l hl
  exact Tot.bind0 hs (hf s hb)
theorem some_bind {α β : Type} {Q : β → Prop} (a : α) {f : Nat → α → Option β} (h : Tot (fun k => f k a) Q) : Tot (fun k => (some a).bind (f k)) Q := h
end Go.Proofs.Ytkmpcmhkfnoeiaa.Pb
/- The library is alive. No condition. -/
namespace Go.Proofs.Ytkmpcmhkfnoeiaa.Alive
open Go.RowKit Go.Proofs.Ytkmpcmhkfnoeiaa.P Go.Proofs.Ytkmpcmhkfnoeiaa.Base Go.Proofs.YtkmpcmhkfnoeiaaW.PrintWords Go.Proofs.YtkmpcmhkfnoeiaaW.PrintLast
def TV (c d p : Int) : Prop := 1 ≤ c ∧ c ≤ 8 ∧ c ≤ d ∧ d ≤ p ∧ p ≤ 12
instance (c d p : Int) : Decidable (TV c d p) := by unfold TV; infer_instance
theorem task_f (c d p : Int) : impl_TaskValid.f c d p = some (decide (TV c d p)) := by
  unfold impl_TaskValid.f
  rw [in_f, in_f, and_bind, and_bind]
  by_cases h1 : 1 ≤ c ∧ c ≤ 8
  · by_cases h2 : c ≤ d ∧ d ≤ p
    · rw [if_pos h1, if_pos h2]; congr 1; rw [decide_eq_decide]; unfold TV; omega
    · rw [if_pos h1, if_neg h2]; congr 1; symm; rw [decide_eq_false_iff_not]; unfold TV; omega
  · rw [if_neg h1]; congr 1; symm; rw [decide_eq_false_iff_not]; unfold TV; omega
theorem alive_f : laws_alive.f = some true := by
  unfold laws_alive.f
  rw [task_f]; rfl
end Go.Proofs.Ytkmpcmhkfnoeiaa.Alive
/- A graph's validity, its volume and its critical path, of the program and of the reference, as plain functions. Condition: the rows are not too long. -/
namespace Go.Proofs.Ytkmpcmhkfnoeiaa.Graph
open Go.RowKit Go.Proofs.Ytkmpcmhkfnoeiaa.P Go.Proofs.Ytkmpcmhkfnoeiaa.Base Go.Proofs.Ytkmpcmhkfnoeiaa.Gen Go.Proofs.YtkmpcmhkfnoeiaaW.PrintWords Go.Proofs.YtkmpcmhkfnoeiaaW.PrintLast
def EdgeOk (m : Int) (e : List Int) : Prop := e.length = 2 ∧ 0 ≤ rd e 0 ∧ rd e 0 < rd e 1 ∧ rd e 1 < m
instance (m : Int) (e : List Int) : Decidable (EdgeOk m e) := by unfold EdgeOk; infer_instance
def CostsOk (c : List Int) : Prop := ∀ x ∈ c, 1 ≤ x ∧ x ≤ 8
instance (c : List Int) : Decidable (CostsOk c) := by unfold CostsOk; infer_instance
def GV (c : List Int) (es : List (List Int)) : Prop := c.length ≤ 8 ∧ es.length ≤ 64 ∧ CostsOk c ∧ ∀ e ∈ es, EdgeOk c.length e
instance (c : List Int) (es : List (List Int)) : Decidable (GV c es) := by unfold GV; infer_instance
theorem rd5_at (xs : List (List Int)) (i : Nat) (h : i < xs.length) : rd_L5 xs (i : Int) = xs[i] := by
  unfold rd_L5
  rw [List.getD_eq_getElem?_getD, Int.toNat_natCast, List.getElem?_eq_getElem h]
  rfl
theorem costs_f (c : List Int) : any_costs.f c = some (decide (¬ CostsOk c)) := by
  unfold any_costs.f
  congr 1
  rw [Bool.eq_iff_iff, List.any_eq_true]
  unfold CostsOk
  simp only [any_costs.bad, decide_eq_true_eq]
  constructor
  · rintro ⟨x, hx, h⟩ hh
    have := hh x hx
    simp at h
    omega
  · intro hh
    refine Classical.byContradiction fun hc => hh fun x hx => ?_
    refine Classical.byContradiction fun h2 => hc ⟨x, hx, ?_⟩
    simp; omega
theorem all_of {α : Type} {P : α → Prop} {l : List α} (h : ∀ i (h : i < l.length), P l[i]) : ∀ x ∈ l, P x := by
  intro x hx
  obtain ⟨i, hi, rfl⟩ := List.mem_iff_getElem.1 hx
  exact h i hi
theorem upto {α : Type} {P : α → Prop} {l : List α} {j : Nat} (hj : j < l.length) (hm : ∀ i (h : i < l.length), i < j → P l[i]) (h : P l[j]) : ∀ i (h : i < l.length), i < j + 1 → P l[i] := by
  intro i hi hij
  rcases Nat.lt_or_ge i j with h' | h'
  · exact hm i hi h'
  · obtain rfl : i = j := by omega
    exact h
theorem impl_gv (c : List Int) (es : List (List Int)) (hc : c.length ≤ 2097152) (he : es.length ≤ 2097152) : Ev (fun k => impl_GraphValid.f k c es) (decide (GV c es)) := by
  have loop : ∀ d j, j + d = es.length → (∀ i (h : i < es.length), i < j → EdgeOk c.length es[i]) → Ev (fun k => impl_GraphValid.l0 k c es es (es.length : Int) (j : Int)) (decide (GV c es)) := by
    intro d
    induction d with
    | zero =>
      intro j hj hm
      have ha : ∀ e ∈ es, EdgeOk c.length e := all_of (fun i hi => hm i hi (by omega))
      refine Ev.step (f := fun _ => some (decide (GV c es))) (fun k => ?_) (Ev.now _)
      simp only [impl_GraphValid.l0]
      rw [if_neg (by omega)]
      by_cases h1 : c.length ≤ 8
      · rw [if_pos (by omega)]
        by_cases h2 : es.length ≤ 64
        · rw [if_pos (by omega), costs_f]
          simp only [Option.bind_some]
          congr 1
          rw [Bool.eq_iff_iff]
          unfold GV
          simp [h1, h2]
          exact fun _ => ha
        · rw [if_neg (by omega), decide_eq_false (fun h => h2 h.2.1)]
      · rw [if_neg (by omega), decide_eq_false (fun h => h1 h.1)]
    | succ d ih =>
      intro j hj hm
      have hjl : j < es.length := by omega
      by_cases hok : EdgeOk c.length es[j]
      · refine Ev.step (fun k => ?_) (ih (j + 1) (by omega) (upto hjl hm hok))
        unfold EdgeOk at hok
        simp only [impl_GraphValid.l0]
        rw [if_pos (by omega), if_pos (by omega), if_pos (by omega), rd5_at es j hjl, if_pos (by omega), if_pos (by omega), in_f, and_bind, w64 (x := (c.length : Int) - 1) (by omega) (by omega), if_pos (by omega), if_pos (by omega), in_f, and_bind, if_pos (by omega), if_neg (by omega), w64 (by omega) (by omega)]
        rfl
      · rw [decide_eq_false (fun h => hok (h.2.2.2 _ (List.getElem_mem hjl)))]
        refine Ev.step (f := fun _ => some false) (fun k => ?_) (Ev.now _)
        unfold EdgeOk at hok
        simp only [impl_GraphValid.l0]
        rw [if_pos (by omega), if_pos (by omega), if_pos (by omega), rd5_at es j hjl]
        by_cases h1 : es[j].length = 2
        · rw [if_pos (by omega), if_pos (by omega), in_f, and_bind, w64 (x := (c.length : Int) - 1) (by omega) (by omega)]
          by_cases h2 : 0 ≤ rd es[j] 0 ∧ rd es[j] 0 ≤ (c.length : Int) - 1
          · rw [if_pos h2, if_pos (by omega), in_f, and_bind]
            by_cases h3 : rd es[j] 0 ≤ rd es[j] 1 ∧ rd es[j] 1 ≤ (c.length : Int) - 1
            · rw [if_pos h3, if_pos (by omega)]
            · rw [if_neg h3]
          · rw [if_neg h2]
        · rw [if_neg (by omega)]
  have h := loop es.length 0 (by omega) (fun i _ h => by omega)
  refine Ev.congr (fun k => ?_) h
  unfold impl_GraphValid.f
  rfl
theorem spec_gv (c : List Int) (es : List (List Int)) : Ev (fun k => spec_GraphValid.f k c es) (decide (GV c es)) := by
  have no : ¬ GV c es → Ev (fun k => spec_GraphValid.j0 k c es true) (decide (GV c es)) := by
    intro h
    rw [decide_eq_false h]
    exact Ev.step (f := fun _ => some false) (fun k => by simp [spec_GraphValid.j0]) (Ev.now _)
  by_cases h1 : c.length ≤ 8
  · by_cases h2 : es.length ≤ 64
    · have edges : CostsOk c → ∀ d j, j + d = es.length → (∀ i (h : i < es.length), i < j → EdgeOk c.length es[i]) → Ev (fun k => spec_GraphValid.l1 k c es (j : Int)) (decide (GV c es)) := by
        intro hco d
        induction d with
        | zero =>
          intro j hj hm
          have ha : ∀ e ∈ es, EdgeOk c.length e := all_of (fun i hi => hm i hi (by omega))
          rw [decide_eq_true (show GV c es from ⟨h1, h2, hco, ha⟩)]
          refine Ev.step (f := fun _ => some true) (fun k => ?_) (Ev.now _)
          simp only [spec_GraphValid.l1]
          rw [if_neg (by omega)]
        | succ d ih =>
          intro j hj hm
          have hjl : j < es.length := by omega
          by_cases hok : EdgeOk c.length es[j]
          · refine Ev.step (fun k => ?_) (ih (j + 1) (by omega) (upto hjl hm hok))
            unfold EdgeOk at hok
            simp only [spec_GraphValid.l1]
            rw [if_pos (by omega), if_pos (by omega), rd5_at es j hjl, if_pos (by omega), if_pos (by omega), l1In_f, and_bind, w64 (x := (c.length : Int) - 1) (by omega) (by omega), if_pos (by omega), if_pos (by omega), l1In_f, and_bind, w64 (x := rd es[j] 1 - 1) (by omega) (by omega), if_pos (by omega), w64 (by omega) (by omega)]
            rfl
          · rw [decide_eq_false (fun h => hok (h.2.2.2 _ (List.getElem_mem hjl)))]
            refine Ev.step (f := fun _ => some false) (fun k => ?_) (Ev.now _)
            unfold EdgeOk at hok
            simp only [spec_GraphValid.l1]
            rw [if_pos (by omega), if_pos (by omega), rd5_at es j hjl]
            by_cases h3 : es[j].length = 2
            · rw [if_pos (by omega), if_pos (by omega), l1In_f, and_bind, w64 (x := (c.length : Int) - 1) (by omega) (by omega)]
              by_cases h4 : 0 ≤ rd es[j] 1 ∧ rd es[j] 1 ≤ (c.length : Int) - 1
              · rw [if_pos h4, if_pos (by omega), l1In_f, and_bind, w64 (x := rd es[j] 1 - 1) (by omega) (by omega), if_neg (by omega)]
              · rw [if_neg h4]
            · rw [if_neg (by omega)]
      have costs : ∀ d j, j + d = c.length → (∀ i (h : i < c.length), i < j → 1 ≤ c[i] ∧ c[i] ≤ 8) → Ev (fun k => spec_GraphValid.l0 k c es (j : Int)) (decide (GV c es)) := by
        intro d
        induction d with
        | zero =>
          intro j hj hm
          have ha : CostsOk c := all_of (fun i hi => hm i hi (by omega))
          refine Ev.step (fun k => ?_) (edges ha es.length 0 (by omega) (fun i _ h => by omega))
          simp only [spec_GraphValid.l0]
          rw [if_neg (by omega)]
          rfl
        | succ d ih =>
          intro j hj hm
          have hjl : j < c.length := by omega
          by_cases hok : 1 ≤ c[j] ∧ c[j] ≤ 8
          · refine Ev.step (fun k => ?_) (ih (j + 1) (by omega) (upto (P := fun x => 1 ≤ x ∧ x ≤ 8) hjl hm hok))
            simp only [spec_GraphValid.l0]
            rw [if_pos (by omega), if_pos (by omega), rd_at c j hjl, l1In_f, and_bind, if_pos hok, w64 (by omega) (by omega)]
            rfl
          · rw [decide_eq_false (fun h => hok (h.2.2.1 _ (List.getElem_mem hjl)))]
            refine Ev.step (f := fun _ => some false) (fun k => ?_) (Ev.now _)
            simp only [spec_GraphValid.l0]
            rw [if_pos (by omega), if_pos (by omega), rd_at c j hjl, l1In_f, and_bind, if_neg hok]
      have hs : Ev (fun k => spec_GraphValid.j0 k c es (decide ((es.length : Int) > 64))) (decide (GV c es)) := by
        refine Ev.step (fun k => ?_) (costs c.length 0 (by omega) (fun i _ h => by omega))
        simp only [spec_GraphValid.j0]
        rw [if_neg (by simp; omega)]
        rfl
      refine Ev.congr (fun k => ?_) hs
      unfold spec_GraphValid.f
      rw [if_neg (by omega)]
    · refine Ev.congr (fun k => ?_) (no (fun h => h2 h.2.1))
      unfold spec_GraphValid.f
      rw [if_neg (by omega), decide_eq_true (by omega)]
  · refine Ev.congr (fun k => ?_) (no (fun h => h1 h.1))
    unfold spec_GraphValid.f
    rw [if_pos (by omega)]
end Go.Proofs.Ytkmpcmhkfnoeiaa.Graph
/- The draw of a graph ends, and its rows are short. Conditions: as the reader's. -/
namespace Go.Proofs.Ytkmpcmhkfnoeiaa.DrGraph
open Go.RowKit Go.Proofs.Ytkmpcmhkfnoeiaa.P Go.Proofs.Ytkmpcmhkfnoeiaa.Base Go.Proofs.Ytkmpcmhkfnoeiaa.Gen Go.Proofs.Ytkmpcmhkfnoeiaa.Pb Go.Proofs.YtkmpcmhkfnoeiaaW.PrintWords Go.Proofs.YtkmpcmhkfnoeiaaW.PrintLast
def Short (r : List Int × List (List Int) × Int) : Prop := r.1.length ≤ 20 ∧ r.2.1.length ≤ 20 ∧ 0 ≤ r.2.2 ∧ r.2.2 ≤ 1000000
theorem graph_tot (s : List Int) (p n : Int) (hs : Bytes s) (hp : 0 ≤ p) (hp2 : p ≤ 100000) : Tot (fun k => spec_l20Graph.f k s p n) Short := by
  have last : ∀ (c : List Int) (es : List (List Int)) (x9 q : Int), c.length ≤ 8 → es.length ≤ 9 → 0 ≤ q → q ≤ 900000 → Tot (fun k => spec_l20Graph.j2 k n c es x9 false s q) Short := by
    intro c es x9 q h1 h2 h3 h4
    refine Tot.step (fun k => by rw [spec_l20Graph.j2]) (Tot.no (by simp) ?_)
    refine Tot.bind (odd_tot s q n hs h3 (by omega)) ?_
    rintro ⟨a, q2⟩ ⟨h5, h6⟩
    simp only at h5 h6 ⊢
    refine Tot.ite (fun _ => ?_) (fun _ => Tot.ret _ ⟨by simp; omega, by simp; omega, by simp; omega, by simp; omega⟩)
    refine Tot.bind (pick_tot s q2 4 hs (by omega) (by omega)) ?_
    rintro ⟨b, q3⟩ ⟨h7, h8, h9⟩
    simp only at h7 h8 h9 ⊢; subst h7
    refine Tot.ite (fun _ => ?_) (fun _ => ?_)
    · refine some_bind _ ?_
      refine Tot.bind (pick_tot s (q2 + 1) 2 hs (by omega) (by omega)) ?_
      rintro ⟨d, q4⟩ ⟨h10, h11, h12⟩
      simp only at h10 h11 h12 ⊢; subst h10
      have h12 := h12 (by omega)
      refine Tot.yes h11 (Tot.yes (by simp; omega) (Tot.yes (by omega) (Tot.ret _ ⟨by simp; omega, by simp; omega, by simp; omega, by simp; omega⟩)))
    · refine Tot.ite (fun _ => Tot.yes (by omega) (Tot.ret _ ⟨by simp; omega, by simp; omega, by simp; omega, by simp; omega⟩)) (fun _ => ?_)
      refine Tot.ite (fun _ => Tot.yes (by omega) (Tot.ret _ ⟨by simp; omega, by simp; omega, by simp; omega, by simp; omega⟩)) (fun _ => ?_)
      exact Tot.yes (by omega) (Tot.ret _ ⟨by simp; omega, by simp; omega, by simp; omega, by simp; omega⟩)
  have edges : ∀ (c : List Int), c.length ≤ 8 → ∀ (d : Nat) (x9 : Int) (es : List (List Int)) (q : Int), x9 = d → (es.length : Int) + x9 ≤ 9 → 0 ≤ q → q + 2 * x9 ≤ 800000 → Tot (fun k => spec_l20Graph.l1 k n c es x9 s q) Short := by
    intro c hc d
    induction d with
    | zero =>
      intro x9 es q h1 h2 h3 h4
      exact Tot.step (fun k => by rw [spec_l20Graph.l1]) (Tot.no (by omega) (last c es x9 q hc (by omega) h3 (by omega)))
    | succ d ih =>
      intro x9 es q h1 h2 h3 h4
      refine Tot.step (fun k => by rw [spec_l20Graph.l1]) (Tot.yes (by omega) ?_)
      by_cases hl : (c.length : Int) > 1
      · rw [decide_eq_true hl]
        refine Tot.step (fun k => by rw [spec_l20Graph.j2]) (Tot.yes rfl ?_)
        rw [w64 (x := (c.length : Int) - 1) (by omega) (by omega)]
        refine Tot.bind (pick_tot s q _ hs h3 (by omega)) ?_
        rintro ⟨a, q2⟩ ⟨h5, h6, h7⟩
        simp only at h5 h6 h7 ⊢; subst h5
        have h7 := h7 (by omega)
        rw [w64 (x := 1 + a) (by omega) (by omega)]
        refine Tot.bind (pick_tot s (q + 1) _ hs (by omega) (by omega)) ?_
        rintro ⟨b, q3⟩ ⟨h8, h9, h10⟩
        simp only at h8 h9 h10 ⊢; subst h8
        rw [w64 (x := x9 - 1) (by omega) (by omega)]
        exact Tot.yes (by omega) (ih (x9 - 1) _ _ (by omega) (by simp; omega) (by omega) (by omega))
      · rw [decide_eq_false hl]
        exact last c es x9 q hc (by omega) h3 (by omega)
  have costs : ∀ (d : Nat) (x8 : Int) (c : List Int) (q : Int), x8 = d → (c.length : Int) + x8 ≤ 8 → 0 ≤ q → q + x8 ≤ 700000 → Tot (fun k => spec_l20Graph.l0 k n c [] x8 s q) Short := by
    intro d
    induction d with
    | zero =>
      intro x8 c q h1 h2 h3 h4
      refine Tot.step (fun k => by rw [spec_l20Graph.l0]) (Tot.no (by omega) ?_)
      refine Tot.bind (pick_tot s q 10 hs h3 (by omega)) ?_
      rintro ⟨a, q2⟩ ⟨h5, h6, h7⟩
      simp only at h5 h6 h7 ⊢; subst h5
      have h7 := h7 (by omega)
      exact edges c (by omega) a.toNat a [] _ (by omega) (by simp; omega) (by omega) (by omega)
    | succ d ih =>
      intro x8 c q h1 h2 h3 h4
      refine Tot.step (fun k => by rw [spec_l20Graph.l0]) (Tot.yes (by omega) ?_)
      refine Tot.bind (pick_tot s q 8 hs h3 (by omega)) ?_
      rintro ⟨a, q2⟩ ⟨h5, h6, h7⟩
      simp only at h5 h6 h7 ⊢; subst h5
      rw [w64 (x := x8 - 1) (by omega) (by omega)]
      exact Tot.yes (by omega) (ih (x8 - 1) _ _ (by omega) (by simp; omega) (by omega) (by omega))
  unfold spec_l20Graph.f
  refine Tot.bind (pick_tot s p 9 hs hp (by omega)) ?_
  rintro ⟨a, q2⟩ ⟨h5, h6, h7⟩
  simp only at h5 h6 h7 ⊢; subst h5
  have h7 := h7 (by omega)
  exact costs a.toNat a [] _ (by omega) (by simp; omega) (by omega) (by omega)
end Go.Proofs.Ytkmpcmhkfnoeiaa.DrGraph
-- Laid by a program of this work.
namespace Go.Proofs.Ytkmpcmhkfnoeiaa.P
open Go.RowKit Go.Proofs.YtkmpcmhkfnoeiaaW.PrintWords Go.Proofs.YtkmpcmhkfnoeiaaW.PrintLast Go.Proofs.YtkmpcmhkfnoeiaaW.PrintMore
attribute [local go_sem] max2_int min2_int max_two min_two max_three min_three max_four min_four   -- for this text's walks alone
set_option linter.unusedVariables false
set_option linter.unusedSimpArgs false

/-! ### spec_MakespanBound: function 51 -/
def spec_MakespanBound.j0 : Nat → List Int → List (List Int) → Int → Bool → Option (Int)
  | 0, _, _, _, _ => none
  | k + 1, x0, x1, x2, x16 => if x16 = true then (some (-1)) else ((spec_CriticalPath.f k x0 x1).bind fun t889 => ((spec_Volume.f k x0 x1).bind fun t890 => (if x2 = 0 then (none) else (some (wrap64 (t889 + (wrap64 (Int.tdiv (wrap64 (t890 - t889)) x2))))))))
def spec_MakespanBound.f (k : Nat) (l0 : List Int) (l1 : List (List Int)) (a2 : Int) : Option (Int) := (spec_GraphValid.f k l0 l1).bind fun t887 => (if t887 = true then ((spec_l1In.f a2 1 5).bind fun t888 => (spec_MakespanBound.j0 k l0 l1 a2 (!t888))) else (spec_MakespanBound.j0 k l0 l1 a2 true))
theorem spec_MakespanBound.mono_l : ∀ k, (∀ y0 y1 y2 y3, LeO (spec_MakespanBound.j0 k y0 y1 y2 y3) (spec_MakespanBound.j0 (k + 1) y0 y1 y2 y3))
  | 0 => fun _ _ _ _ r h => by simp [spec_MakespanBound.j0] at h
  | k + 1 => by
    have ih0 := spec_MakespanBound.mono_l k
    · intro y0 y1 y2 y3
      unfold spec_MakespanBound.j0
      repeat' first
      | (with_reducible exact ih0 _ _ _ _)
      | (with_reducible exact spec_CriticalPath.mono _ _ _)
      | (with_reducible exact spec_GraphValid.mono _ _ _)
      | (with_reducible exact spec_Volume.mono _ _ _)
      | (with_reducible exact LeO.refl _)
      | (with_reducible exact LeO.none _)
      | (with_reducible refine LeO.ite ?_ ?_)
      | (with_reducible refine LeO.bind ?_ (fun _ => ?_))
      | exact ih0 _ _ _ _
      | exact spec_CriticalPath.mono _ _ _
      | exact spec_GraphValid.mono _ _ _
      | exact spec_Volume.mono _ _ _
      | exact LeO.none _
      | refine LeO.ite ?_ ?_
      | refine LeO.bind ?_ (fun _ => ?_)
theorem spec_MakespanBound.mono : ∀ a0 a1 a2 k, LeO (spec_MakespanBound.f k a0 a1 a2) (spec_MakespanBound.f (k + 1) a0 a1 a2) := by
  intro a0 a1 a2 k
  have ih0 := spec_MakespanBound.mono_l k
  unfold spec_MakespanBound.f
  repeat' first
      | (with_reducible exact ih0 _ _ _ _)
      | (with_reducible exact spec_CriticalPath.mono _ _ _)
      | (with_reducible exact spec_GraphValid.mono _ _ _)
      | (with_reducible exact spec_Volume.mono _ _ _)
      | (with_reducible exact LeO.refl _)
      | (with_reducible exact LeO.none _)
      | (with_reducible refine LeO.ite ?_ ?_)
      | (with_reducible refine LeO.bind ?_ (fun _ => ?_))
      | exact ih0 _ _ _ _
      | exact spec_CriticalPath.mono _ _ _
      | exact spec_GraphValid.mono _ _ _
      | exact spec_Volume.mono _ _ _
      | exact LeO.none _
      | refine LeO.ite ?_ ?_
      | refine LeO.bind ?_ (fun _ => ?_)
set_option maxHeartbeats 8000000 in
set_option maxRecDepth 100000 in
theorem spec_MakespanBound.calls (k : Nat) (A0 : Option Addr) (c0 : Nat) (l0 : List Int) (A1 : Option Addr) (c1 : Nat) (l1 : List (List Int)) (a2 : Int) (r : Int) (w : World) (hr0 : Kd.C (Kd.int .i64) w A0 l0.length l0) (hc0 : l0.length ≤ c0) (hr1 : Kd.C (Kd.slice 3 (Kd.int .i64)) w A1 l1.length l1) (hc1 : l1.length ≤ c1) (h : spec_MakespanBound.f k l0 l1 a2 = some r) :
    Calls Try.prog 51 #[.slice A0 l0.length c0, .slice A1 l1.length c1, .int .i64 a2] w fun e w' => e = .returned (.int .i64 r) ∧ Below w.heap.size w w' := by
  have HR0 := Aside0.mk hr0
  have HC0 := Aside0.mk hc0
  clear hr0 hc0
  have HR1 := Aside0.mk hr1
  have HC1 := Aside0.mk hc1
  clear hr1 hc1
  have HB := Aside0.mk (Below.refl w.heap.size w)
  have H : ((spec_GraphValid.f k l0 l1).bind fun t887 => (if t887 = true then ((spec_l1In.f a2 1 5).bind fun t888 => (spec_MakespanBound.j0 k l0 l1 a2 (!t888))) else (spec_MakespanBound.j0 k l0 l1 a2 true))) = some r := h
  clear h
  have HC4 := Aside0.mk H
  clear H
  go_enter Try.func51, Try.ntmps51
  go_upto_region 1 with (fail)
  go_cut [16] (fun v16 wc => ∃ (kq : Nat) (x16_3 : Bool), v16 = .bool x16_3 ∧ Aside0 (spec_MakespanBound.j0 kq l0 l1 a2 x16_3 = some r) ∧ Aside0 (kq ≤ k) ∧ Aside0 (Below w.heap.size w wc))
  case first =>
    have H := HC4.out
    clear HC4
    replace H := Option.bind_eq_some_iff.mp H
    obtain ⟨t887, A50, H⟩ := H
    replace H : (if t887 = true then ((spec_l1In.f a2 1 5).bind fun t888 => (spec_MakespanBound.j0 k l0 l1 a2 (!t888))) else (spec_MakespanBound.j0 k l0 l1 a2 true)) = some r := H
    have A5 := Aside0.mk A50
    clear A50
    by_cases c6 : t887 = true
    · subst c6
      have H1 : ((spec_l1In.f a2 1 5).bind fun t888 => (spec_MakespanBound.j0 k l0 l1 a2 (!t888))) = some r := by rw [if_pos rfl] at H; exact H
      clear H
      have H := H1
      clear H1
      replace H := Option.bind_eq_some_iff.mp H
      obtain ⟨t888, A70, H⟩ := H
      replace H : (spec_MakespanBound.j0 k l0 l1 a2 (!t888)) = some r := H
      have A7 := Aside0.mk A70
      clear A70
      have H' := Aside0.mk H
      clear H
      go_wp2_with (first | ((with_reducible refine gate_callee (f := 41) rfl ?_); refine goesL_ (some 10) rfl rfl Try.func41 (by kernel_rfl) rfl #[.slice A0 l0.length c0, .slice A1 l1.length c1] rfl (by (try simp only [List.map_toArray, List.map_cons, List.map_nil]); first | done | rfl | (simp only [List.length_drop, List.length_take]; rfl)) ?_; (with_reducible refine (spec_GraphValid.calls k _ _ l0 _ _ l1 true _ ?side1 ?side2 ?side3 ?side4 A5.out).mono ?_); (case side1 => repeat (first | exact (Kd.C_below HR0.out HB.out) | (with_reducible refine Kd.C_alloc ?_ _) | (with_reducible refine Kd.C_drewN ?_ _) | (with_reducible refine Kd.C_drew ?_))); (case side2 => exact HC0.out); (case side3 => repeat (first | exact (Kd.C_below HR1.out HB.out) | (with_reducible refine Kd.C_alloc ?_ _) | (with_reducible refine Kd.C_drewN ?_ _) | (with_reducible refine Kd.C_drew ?_))); (case side4 => exact HC1.out); rintro e w8 ⟨rfl, hb⟩; refine ⟨_, rfl, ?_⟩; have n0_ := Aside0.mk (below_step (by repeat (first | (with_reducible first | exact HB.out | apply below_alloc | apply pw_below_drewN | apply below_drew1) | exact HB.out)) hb); clear HB; have HB := n0_; clear n0_; (try clear hb); (try clear hb2); (try clear hk); (try clear hi)) | (go_at_call 53; (with_reducible refine (spec_l1In.calls a2 1 5 t888 _ A7.out).mono ?_); rintro e w' ⟨rfl, ⟨nd, rfl⟩⟩))
      go_meet
      case rel => exact ⟨_, (!t888), (by first | rfl | (simp; done) | (simp [*]; done)), H', ⟨by first | omega | exact Nat.le_refl _⟩, ⟨by repeat (first | (with_reducible first | exact HB.out | apply below_alloc | apply pw_below_drewN | apply below_drew1) | exact HB.out)⟩⟩
    · replace c6 := Bool.eq_false_iff.mpr c6
      subst c6
      have H1 : (spec_MakespanBound.j0 k l0 l1 a2 true) = some r := by rw [if_neg (show ¬ (false = true) by decide)] at H; exact H
      clear H
      have H := H1
      clear H1
      have H' := Aside0.mk H
      clear H
      go_wp2_with (first | ((with_reducible refine gate_callee (f := 41) rfl ?_); refine goesL_ (some 10) rfl rfl Try.func41 (by kernel_rfl) rfl #[.slice A0 l0.length c0, .slice A1 l1.length c1] rfl (by (try simp only [List.map_toArray, List.map_cons, List.map_nil]); first | done | rfl | (simp only [List.length_drop, List.length_take]; rfl)) ?_; (with_reducible refine (spec_GraphValid.calls k _ _ l0 _ _ l1 false _ ?side1 ?side2 ?side3 ?side4 A5.out).mono ?_); (case side1 => repeat (first | exact (Kd.C_below HR0.out HB.out) | (with_reducible refine Kd.C_alloc ?_ _) | (with_reducible refine Kd.C_drewN ?_ _) | (with_reducible refine Kd.C_drew ?_))); (case side2 => exact HC0.out); (case side3 => repeat (first | exact (Kd.C_below HR1.out HB.out) | (with_reducible refine Kd.C_alloc ?_ _) | (with_reducible refine Kd.C_drewN ?_ _) | (with_reducible refine Kd.C_drew ?_))); (case side4 => exact HC1.out); rintro e w9 ⟨rfl, hb⟩; refine ⟨_, rfl, ?_⟩; have n0_ := Aside0.mk (below_step (by repeat (first | (with_reducible first | exact HB.out | apply below_alloc | apply pw_below_drewN | apply below_drew1) | exact HB.out)) hb); clear HB; have HB := n0_; clear n0_; (try clear hb); (try clear hb2); (try clear hk); (try clear hi)))
      go_meet
      case rel => exact ⟨_, (true), (by first | rfl | (simp; done) | (simp [*]; done)), H', ⟨by first | omega | exact Nat.le_refl _⟩, ⟨by repeat (first | (with_reducible first | exact HB.out | apply below_alloc | apply pw_below_drewN | apply below_drew1) | exact HB.out)⟩⟩
  case rest =>
    clear HC4
    try clear c1
    try clear p2
    try clear c4
    try clear c5
    try clear c6
    obtain ⟨kq, x16_3, rfl, HA, HJ3, HB⟩ := hcut
    cases kq with
    | zero => exact absurd HA.out (by simp [spec_MakespanBound.j0])
    | succ kj3 =>
      have H := HA.out
      clear HA
      simp only [spec_MakespanBound.j0] at H
      by_cases c10 : x16_3 = true
      · subst c10
        have H1 : (some (-1)) = some r := by rw [if_pos rfl] at H; exact H
        clear H
        have H := H1
        clear H1
        obtain rfl := Option.some.inj H
        go_wp2
        go_ret
        exact ⟨by first | rfl | (simp [errW_none, errW_some] <;> rfl) | (simp [*, errW_none, errW_some] <;> rfl), by repeat (first | (with_reducible first | exact HB.out | apply below_alloc | apply pw_below_drewN | apply below_drew1) | exact HB.out)⟩
      · replace c10 := Bool.eq_false_iff.mpr c10
        subst c10
        have H1 : ((spec_CriticalPath.f kj3 l0 l1).bind fun t889 => ((spec_Volume.f kj3 l0 l1).bind fun t890 => (if a2 = 0 then (none) else (some (wrap64 (t889 + (wrap64 (Int.tdiv (wrap64 (t890 - t889)) a2)))))))) = some r := by rw [if_neg (show ¬ (false = true) by decide)] at H; exact H
        clear H
        have H := H1
        clear H1
        replace H := Option.bind_eq_some_iff.mp H
        obtain ⟨t889, A110, H⟩ := H
        replace H : ((spec_Volume.f kj3 l0 l1).bind fun t890 => (if a2 = 0 then (none) else (some (wrap64 (t889 + (wrap64 (Int.tdiv (wrap64 (t890 - t889)) a2))))))) = some r := H
        have A11 := Aside0.mk A110
        clear A110
        replace H := Option.bind_eq_some_iff.mp H
        obtain ⟨t890, A120, H⟩ := H
        replace H : (if a2 = 0 then (none) else (some (wrap64 (t889 + (wrap64 (Int.tdiv (wrap64 (t890 - t889)) a2)))))) = some r := H
        have A12 := Aside0.mk A120
        clear A120
        by_cases c13 : a2 = 0
        · rw [if_pos c13] at H
          exact absurd H (by simp)
        · rw [if_neg c13] at H
          have c13b0 : (a2 == 0) = false := beq_eq_false_iff_ne.mpr c13
          have c13b1 : (a2 != 0) = true := bne_iff_ne.mpr c13
          obtain rfl := Option.some.inj H
          go_wp2_with (first | ((with_reducible refine gate_callee (f := 48) rfl ?_); refine goesL_ (some 19) rfl rfl Try.func48 (by kernel_rfl) rfl #[.slice A0 l0.length c0, .slice A1 l1.length c1] rfl (by (try simp only [List.map_toArray, List.map_cons, List.map_nil]); first | done | rfl | (simp only [List.length_drop, List.length_take]; rfl)) ?_; (with_reducible refine (spec_CriticalPath.calls kj3 _ _ l0 _ _ l1 t889 _ ?side1 ?side2 ?side3 ?side4 A11.out).mono ?_); (case side1 => repeat (first | exact (Kd.C_below HR0.out HB.out) | (with_reducible refine Kd.C_alloc ?_ _) | (with_reducible refine Kd.C_drewN ?_ _) | (with_reducible refine Kd.C_drew ?_))); (case side2 => exact HC0.out); (case side3 => repeat (first | exact (Kd.C_below HR1.out HB.out) | (with_reducible refine Kd.C_alloc ?_ _) | (with_reducible refine Kd.C_drewN ?_ _) | (with_reducible refine Kd.C_drew ?_))); (case side4 => exact HC1.out); rintro e w14 ⟨rfl, hb⟩; refine ⟨_, rfl, ?_⟩; have n0_ := Aside0.mk (below_step (by repeat (first | (with_reducible first | exact HB.out | apply below_alloc | apply pw_below_drewN | apply below_drew1) | exact HB.out)) hb); clear HB; have HB := n0_; clear n0_; (try clear hb); (try clear hb2); (try clear hk); (try clear hi)) | ((with_reducible refine gate_callee (f := 46) rfl ?_); refine goesL_ (some 23) rfl rfl Try.func46 (by kernel_rfl) rfl #[.slice A0 l0.length c0, .slice A1 l1.length c1] rfl (by (try simp only [List.map_toArray, List.map_cons, List.map_nil]); first | done | rfl | (simp only [List.length_drop, List.length_take]; rfl)) ?_; (with_reducible refine (spec_Volume.calls kj3 _ _ l0 _ _ l1 t890 _ ?side1 ?side2 ?side3 ?side4 A12.out).mono ?_); (case side1 => repeat (first | exact (Kd.C_below HR0.out HB.out) | (with_reducible refine Kd.C_alloc ?_ _) | (with_reducible refine Kd.C_drewN ?_ _) | (with_reducible refine Kd.C_drew ?_))); (case side2 => exact HC0.out); (case side3 => repeat (first | exact (Kd.C_below HR1.out HB.out) | (with_reducible refine Kd.C_alloc ?_ _) | (with_reducible refine Kd.C_drewN ?_ _) | (with_reducible refine Kd.C_drew ?_))); (case side4 => exact HC1.out); rintro e w15 ⟨rfl, hb⟩; refine ⟨_, rfl, ?_⟩; have n0_ := Aside0.mk (below_step (by repeat (first | (with_reducible first | exact HB.out | apply below_alloc | apply pw_below_drewN | apply below_drew1) | exact HB.out)) hb); clear HB; have HB := n0_; clear n0_; (try clear hb); (try clear hb2); (try clear hk); (try clear hi)))
          go_ret
          exact ⟨by first | rfl | (simp [errW_none, errW_some] <;> rfl) | (simp [*, errW_none, errW_some] <;> rfl), by repeat (first | (with_reducible first | exact HB.out | apply below_alloc | apply pw_below_drewN | apply below_drew1) | exact HB.out)⟩

end Go.Proofs.Ytkmpcmhkfnoeiaa.P
-- Laid by a program of this work.
namespace Go.Proofs.Ytkmpcmhkfnoeiaa.P
open Go.RowKit Go.Proofs.YtkmpcmhkfnoeiaaW.PrintWords Go.Proofs.YtkmpcmhkfnoeiaaW.PrintLast Go.Proofs.YtkmpcmhkfnoeiaaW.PrintMore
attribute [local go_sem] max2_int min2_int max_two min_two max_three min_three max_four min_four   -- for this text's walks alone
set_option linter.unusedVariables false
set_option linter.unusedSimpArgs false

/-! ### impl_isCores: function 80 -/
def impl_isCores.f (a0 : Int) : Option (Bool) := (impl_in.f a0 1 5).bind fun t891 => (some t891)
set_option maxHeartbeats 8000000 in
set_option maxRecDepth 100000 in
theorem impl_isCores.calls (a0 : Int) (r : Bool) (w : World) (h : impl_isCores.f a0 = some r) :
    Calls Try.prog 80 #[.int .i64 a0] w fun e w' => e = .returned (.bool r) ∧ Drawn0 w w' := by
  have H : ((impl_in.f a0 1 5).bind fun t891 => (some t891)) = some r := h
  clear h
  replace H := Option.bind_eq_some_iff.mp H
  obtain ⟨t891, A20, H⟩ := H
  replace H : (some t891) = some r := H
  have A2 := Aside0.mk A20
  clear A20
  obtain rfl := Option.some.inj H
  go_enter Try.func80, Try.ntmps80
  go_wp2_with (first | ((with_reducible refine gate_callee (f := 56) rfl ?_); refine goesL_ (some 4) rfl rfl Try.func56 (by kernel_rfl) rfl #[.int .i64 a0, .int .i64 1, .int .i64 5] rfl (by (try simp only [List.map_toArray, List.map_cons, List.map_nil]); first | done | rfl | (simp only [List.length_drop, List.length_take]; rfl)) ?_; (with_reducible refine (impl_in.calls a0 1 5 t891 _ A2.out).mono ?_); rintro e w' ⟨rfl, ⟨nd, rfl⟩⟩; refine ⟨_, rfl, ?_⟩))
  go_ret
  exact ⟨by first | rfl | (simp; done) | (simp [*]; done), by repeat (first | exact Drawn0.refl _ | apply Drawn0.step)⟩

end Go.Proofs.Ytkmpcmhkfnoeiaa.P
-- Laid by a program of this work.
namespace Go.Proofs.Ytkmpcmhkfnoeiaa.P
open Go.RowKit Go.Proofs.YtkmpcmhkfnoeiaaW.PrintWords Go.Proofs.YtkmpcmhkfnoeiaaW.PrintLast Go.Proofs.YtkmpcmhkfnoeiaaW.PrintMore
attribute [local go_sem] max2_int min2_int max_two min_two max_three min_three max_four min_four   -- for this text's walks alone
set_option linter.unusedVariables false
set_option linter.unusedSimpArgs false

/-! ### impl_MakespanBound: function 52 -/
def impl_MakespanBound.j0 : Nat → List Int → List (List Int) → Int → Bool → Option (Int)
  | 0, _, _, _, _ => none
  | k + 1, x0, x1, x2, x16 => if x16 = true then (some (-1)) else ((impl_critical.f k x0 x1).bind fun t894 => ((impl_volume.f k x0).bind fun t895 => (if x2 = 0 then (none) else (some (wrap64 (t894 + (wrap64 (Int.tdiv (wrap64 (t895 - t894)) x2))))))))
def impl_MakespanBound.f (k : Nat) (l0 : List Int) (l1 : List (List Int)) (a2 : Int) : Option (Int) := (impl_GraphValid.f k l0 l1).bind fun t892 => (if t892 = true then ((impl_isCores.f a2).bind fun t893 => (impl_MakespanBound.j0 k l0 l1 a2 (!t893))) else (impl_MakespanBound.j0 k l0 l1 a2 true))
theorem impl_MakespanBound.mono_l : ∀ k, (∀ y0 y1 y2 y3, LeO (impl_MakespanBound.j0 k y0 y1 y2 y3) (impl_MakespanBound.j0 (k + 1) y0 y1 y2 y3))
  | 0 => fun _ _ _ _ r h => by simp [impl_MakespanBound.j0] at h
  | k + 1 => by
    have ih0 := impl_MakespanBound.mono_l k
    · intro y0 y1 y2 y3
      unfold impl_MakespanBound.j0
      repeat' first
      | (with_reducible exact ih0 _ _ _ _)
      | (with_reducible exact impl_GraphValid.mono _ _ _)
      | (with_reducible exact impl_critical.mono _ _ _)
      | (with_reducible exact impl_volume.mono _ _)
      | (with_reducible exact LeO.refl _)
      | (with_reducible exact LeO.none _)
      | (with_reducible refine LeO.ite ?_ ?_)
      | (with_reducible refine LeO.bind ?_ (fun _ => ?_))
      | exact ih0 _ _ _ _
      | exact impl_GraphValid.mono _ _ _
      | exact impl_critical.mono _ _ _
      | exact impl_volume.mono _ _
      | exact LeO.none _
      | refine LeO.ite ?_ ?_
      | refine LeO.bind ?_ (fun _ => ?_)
theorem impl_MakespanBound.mono : ∀ a0 a1 a2 k, LeO (impl_MakespanBound.f k a0 a1 a2) (impl_MakespanBound.f (k + 1) a0 a1 a2) := by
  intro a0 a1 a2 k
  have ih0 := impl_MakespanBound.mono_l k
  unfold impl_MakespanBound.f
  repeat' first
      | (with_reducible exact ih0 _ _ _ _)
      | (with_reducible exact impl_GraphValid.mono _ _ _)
      | (with_reducible exact impl_critical.mono _ _ _)
      | (with_reducible exact impl_volume.mono _ _)
      | (with_reducible exact LeO.refl _)
      | (with_reducible exact LeO.none _)
      | (with_reducible refine LeO.ite ?_ ?_)
      | (with_reducible refine LeO.bind ?_ (fun _ => ?_))
      | exact ih0 _ _ _ _
      | exact impl_GraphValid.mono _ _ _
      | exact impl_critical.mono _ _ _
      | exact impl_volume.mono _ _
      | exact LeO.none _
      | refine LeO.ite ?_ ?_
      | refine LeO.bind ?_ (fun _ => ?_)
set_option maxHeartbeats 8000000 in
set_option maxRecDepth 100000 in
theorem impl_MakespanBound.calls (k : Nat) (A0 : Option Addr) (c0 : Nat) (l0 : List Int) (A1 : Option Addr) (c1 : Nat) (l1 : List (List Int)) (a2 : Int) (r : Int) (w : World) (hr0 : Kd.C (Kd.int .i64) w A0 l0.length l0) (hc0 : l0.length ≤ c0) (hr1 : Kd.C (Kd.slice 3 (Kd.int .i64)) w A1 l1.length l1) (hc1 : l1.length ≤ c1) (h : impl_MakespanBound.f k l0 l1 a2 = some r) :
    Calls Try.prog 52 #[.slice A0 l0.length c0, .slice A1 l1.length c1, .int .i64 a2] w fun e w' => e = .returned (.int .i64 r) ∧ Below w.heap.size w w' := by
  have HR0 := Aside0.mk hr0
  have HC0 := Aside0.mk hc0
  clear hr0 hc0
  have HR1 := Aside0.mk hr1
  have HC1 := Aside0.mk hc1
  clear hr1 hc1
  have HB := Aside0.mk (Below.refl w.heap.size w)
  have H : ((impl_GraphValid.f k l0 l1).bind fun t892 => (if t892 = true then ((impl_isCores.f a2).bind fun t893 => (impl_MakespanBound.j0 k l0 l1 a2 (!t893))) else (impl_MakespanBound.j0 k l0 l1 a2 true))) = some r := h
  clear h
  have HC4 := Aside0.mk H
  clear H
  go_enter Try.func52, Try.ntmps52
  go_upto_region 1 with (fail)
  go_cut [16] (fun v16 wc => ∃ (kq : Nat) (x16_3 : Bool), v16 = .bool x16_3 ∧ Aside0 (impl_MakespanBound.j0 kq l0 l1 a2 x16_3 = some r) ∧ Aside0 (kq ≤ k) ∧ Aside0 (Below w.heap.size w wc))
  case first =>
    have H := HC4.out
    clear HC4
    replace H := Option.bind_eq_some_iff.mp H
    obtain ⟨t892, A50, H⟩ := H
    replace H : (if t892 = true then ((impl_isCores.f a2).bind fun t893 => (impl_MakespanBound.j0 k l0 l1 a2 (!t893))) else (impl_MakespanBound.j0 k l0 l1 a2 true)) = some r := H
    have A5 := Aside0.mk A50
    clear A50
    by_cases c6 : t892 = true
    · subst c6
      have H1 : ((impl_isCores.f a2).bind fun t893 => (impl_MakespanBound.j0 k l0 l1 a2 (!t893))) = some r := by rw [if_pos rfl] at H; exact H
      clear H
      have H := H1
      clear H1
      replace H := Option.bind_eq_some_iff.mp H
      obtain ⟨t893, A70, H⟩ := H
      replace H : (impl_MakespanBound.j0 k l0 l1 a2 (!t893)) = some r := H
      have A7 := Aside0.mk A70
      clear A70
      have H' := Aside0.mk H
      clear H
      go_wp2_with (first | ((with_reducible refine gate_callee (f := 43) rfl ?_); refine goesL_ (some 10) rfl rfl Try.func43 (by kernel_rfl) rfl #[.slice A0 l0.length c0, .slice A1 l1.length c1] rfl (by (try simp only [List.map_toArray, List.map_cons, List.map_nil]); first | done | rfl | (simp only [List.length_drop, List.length_take]; rfl)) ?_; (with_reducible refine (impl_GraphValid.calls k _ _ l0 _ _ l1 true _ ?side1 ?side2 ?side3 ?side4 A5.out).mono ?_); (case side1 => repeat (first | exact (Kd.C_below HR0.out HB.out) | (with_reducible refine Kd.C_alloc ?_ _) | (with_reducible refine Kd.C_drewN ?_ _) | (with_reducible refine Kd.C_drew ?_))); (case side2 => exact HC0.out); (case side3 => repeat (first | exact (Kd.C_below HR1.out HB.out) | (with_reducible refine Kd.C_alloc ?_ _) | (with_reducible refine Kd.C_drewN ?_ _) | (with_reducible refine Kd.C_drew ?_))); (case side4 => exact HC1.out); rintro e w8 ⟨rfl, hb⟩; refine ⟨_, rfl, ?_⟩; have n0_ := Aside0.mk (below_step (by repeat (first | (with_reducible first | exact HB.out | apply below_alloc | apply pw_below_drewN | apply below_drew1) | exact HB.out)) hb); clear HB; have HB := n0_; clear n0_; (try clear hb); (try clear hb2); (try clear hk); (try clear hi)) | (go_at_call 80; (with_reducible refine (impl_isCores.calls a2 t893 _ A7.out).mono ?_); rintro e w' ⟨rfl, ⟨nd, rfl⟩⟩))
      go_meet
      case rel => exact ⟨_, (!t893), (by first | rfl | (simp; done) | (simp [*]; done)), H', ⟨by first | omega | exact Nat.le_refl _⟩, ⟨by repeat (first | (with_reducible first | exact HB.out | apply below_alloc | apply pw_below_drewN | apply below_drew1) | exact HB.out)⟩⟩
    · replace c6 := Bool.eq_false_iff.mpr c6
      subst c6
      have H1 : (impl_MakespanBound.j0 k l0 l1 a2 true) = some r := by rw [if_neg (show ¬ (false = true) by decide)] at H; exact H
      clear H
      have H := H1
      clear H1
      have H' := Aside0.mk H
      clear H
      go_wp2_with (first | ((with_reducible refine gate_callee (f := 43) rfl ?_); refine goesL_ (some 10) rfl rfl Try.func43 (by kernel_rfl) rfl #[.slice A0 l0.length c0, .slice A1 l1.length c1] rfl (by (try simp only [List.map_toArray, List.map_cons, List.map_nil]); first | done | rfl | (simp only [List.length_drop, List.length_take]; rfl)) ?_; (with_reducible refine (impl_GraphValid.calls k _ _ l0 _ _ l1 false _ ?side1 ?side2 ?side3 ?side4 A5.out).mono ?_); (case side1 => repeat (first | exact (Kd.C_below HR0.out HB.out) | (with_reducible refine Kd.C_alloc ?_ _) | (with_reducible refine Kd.C_drewN ?_ _) | (with_reducible refine Kd.C_drew ?_))); (case side2 => exact HC0.out); (case side3 => repeat (first | exact (Kd.C_below HR1.out HB.out) | (with_reducible refine Kd.C_alloc ?_ _) | (with_reducible refine Kd.C_drewN ?_ _) | (with_reducible refine Kd.C_drew ?_))); (case side4 => exact HC1.out); rintro e w9 ⟨rfl, hb⟩; refine ⟨_, rfl, ?_⟩; have n0_ := Aside0.mk (below_step (by repeat (first | (with_reducible first | exact HB.out | apply below_alloc | apply pw_below_drewN | apply below_drew1) | exact HB.out)) hb); clear HB; have HB := n0_; clear n0_; (try clear hb); (try clear hb2); (try clear hk); (try clear hi)))
      go_meet
      case rel => exact ⟨_, (true), (by first | rfl | (simp; done) | (simp [*]; done)), H', ⟨by first | omega | exact Nat.le_refl _⟩, ⟨by repeat (first | (with_reducible first | exact HB.out | apply below_alloc | apply pw_below_drewN | apply below_drew1) | exact HB.out)⟩⟩
  case rest =>
    clear HC4
    try clear c1
    try clear p2
    try clear c4
    try clear c5
    try clear c6
    obtain ⟨kq, x16_3, rfl, HA, HJ3, HB⟩ := hcut
    cases kq with
    | zero => exact absurd HA.out (by simp [impl_MakespanBound.j0])
    | succ kj3 =>
      have H := HA.out
      clear HA
      simp only [impl_MakespanBound.j0] at H
      by_cases c10 : x16_3 = true
      · subst c10
        have H1 : (some (-1)) = some r := by rw [if_pos rfl] at H; exact H
        clear H
        have H := H1
        clear H1
        obtain rfl := Option.some.inj H
        go_wp2
        go_ret
        exact ⟨by first | rfl | (simp [errW_none, errW_some] <;> rfl) | (simp [*, errW_none, errW_some] <;> rfl), by repeat (first | (with_reducible first | exact HB.out | apply below_alloc | apply pw_below_drewN | apply below_drew1) | exact HB.out)⟩
      · replace c10 := Bool.eq_false_iff.mpr c10
        subst c10
        have H1 : ((impl_critical.f kj3 l0 l1).bind fun t894 => ((impl_volume.f kj3 l0).bind fun t895 => (if a2 = 0 then (none) else (some (wrap64 (t894 + (wrap64 (Int.tdiv (wrap64 (t895 - t894)) a2)))))))) = some r := by rw [if_neg (show ¬ (false = true) by decide)] at H; exact H
        clear H
        have H := H1
        clear H1
        replace H := Option.bind_eq_some_iff.mp H
        obtain ⟨t894, A110, H⟩ := H
        replace H : ((impl_volume.f kj3 l0).bind fun t895 => (if a2 = 0 then (none) else (some (wrap64 (t894 + (wrap64 (Int.tdiv (wrap64 (t895 - t894)) a2))))))) = some r := H
        have A11 := Aside0.mk A110
        clear A110
        replace H := Option.bind_eq_some_iff.mp H
        obtain ⟨t895, A120, H⟩ := H
        replace H : (if a2 = 0 then (none) else (some (wrap64 (t894 + (wrap64 (Int.tdiv (wrap64 (t895 - t894)) a2)))))) = some r := H
        have A12 := Aside0.mk A120
        clear A120
        by_cases c13 : a2 = 0
        · rw [if_pos c13] at H
          exact absurd H (by simp)
        · rw [if_neg c13] at H
          have c13b0 : (a2 == 0) = false := beq_eq_false_iff_ne.mpr c13
          have c13b1 : (a2 != 0) = true := bne_iff_ne.mpr c13
          obtain rfl := Option.some.inj H
          go_wp2_with (first | ((with_reducible refine gate_callee (f := 79) rfl ?_); refine goesL_ (some 19) rfl rfl Try.func79 (by kernel_rfl) rfl #[.slice A0 l0.length c0, .slice A1 l1.length c1] rfl (by (try simp only [List.map_toArray, List.map_cons, List.map_nil]); first | done | rfl | (simp only [List.length_drop, List.length_take]; rfl)) ?_; (with_reducible refine (impl_critical.calls kj3 _ _ l0 _ _ l1 t894 _ ?side1 ?side2 ?side3 ?side4 A11.out).mono ?_); (case side1 => repeat (first | exact (Kd.C_below HR0.out HB.out) | (with_reducible refine Kd.C_alloc ?_ _) | (with_reducible refine Kd.C_drewN ?_ _) | (with_reducible refine Kd.C_drew ?_))); (case side2 => exact HC0.out); (case side3 => repeat (first | exact (Kd.C_below HR1.out HB.out) | (with_reducible refine Kd.C_alloc ?_ _) | (with_reducible refine Kd.C_drewN ?_ _) | (with_reducible refine Kd.C_drew ?_))); (case side4 => exact HC1.out); rintro e w14 ⟨rfl, hb⟩; refine ⟨_, rfl, ?_⟩; have n0_ := Aside0.mk (below_step (by repeat (first | (with_reducible first | exact HB.out | apply below_alloc | apply pw_below_drewN | apply below_drew1) | exact HB.out)) hb); clear HB; have HB := n0_; clear n0_; (try clear hb); (try clear hb2); (try clear hk); (try clear hi)) | ((with_reducible refine gate_callee (f := 77) rfl ?_); refine goesL_ (some 22) rfl rfl Try.func77 (by kernel_rfl) rfl #[.slice A0 l0.length c0] rfl (by (try simp only [List.map_toArray, List.map_cons, List.map_nil]); first | done | rfl | (simp only [List.length_drop, List.length_take]; rfl)) ?_; (with_reducible refine (impl_volume.calls kj3 _ _ l0 t895 _ ?side1 ?side2 A12.out).mono ?_); (case side1 => repeat (first | exact (Kd.C_below HR0.out HB.out) | (with_reducible refine Kd.C_alloc ?_ _) | (with_reducible refine Kd.C_drewN ?_ _) | (with_reducible refine Kd.C_drew ?_))); (case side2 => exact HC0.out); rintro e w' ⟨rfl, ⟨nd, rfl⟩⟩; refine ⟨_, rfl, ?_⟩))
          go_ret
          exact ⟨by first | rfl | (simp [errW_none, errW_some] <;> rfl) | (simp [*, errW_none, errW_some] <;> rfl), by repeat (first | (with_reducible first | exact HB.out | apply below_alloc | apply pw_below_drewN | apply below_drew1) | exact HB.out)⟩

end Go.Proofs.Ytkmpcmhkfnoeiaa.P
/- The longest path of a task graph, as plain functions, and what is known of it. Conditions: the edges lead from lower to higher nodes. -/
namespace Go.Proofs.Ytkmpcmhkfnoeiaa.Crit
open Go.RowKit Go.Proofs.Ytkmpcmhkfnoeiaa.P Go.Proofs.Ytkmpcmhkfnoeiaa.Base Go.Proofs.Ytkmpcmhkfnoeiaa.Gen Go.Proofs.Ytkmpcmhkfnoeiaa.Graph Go.Proofs.YtkmpcmhkfnoeiaaW.PrintWords Go.Proofs.YtkmpcmhkfnoeiaaW.PrintLast
def stp (out : List Int) (b : Int) (t : Int) (e : List Int) : Int := if rd e 1 = b then max t (rd out (rd e 0)) else t
def bst (out : List Int) (b : Int) (es : List (List Int)) (t : Int) : Int := es.foldl (stp out b) t
def ends (c : List Int) (es : List (List Int)) : Nat → List Int
  | 0 => []
  | n + 1 => ends c es n ++ [bst (ends c es n) (n : Int) es 0 + rd c (n : Int)]
def EV (c : List Int) (es : List (List Int)) (i : Nat) : Int := rd (ends c es (i + 1)) (i : Int)
def mxl (l : List Int) (t : Int) : Int := l.foldl max t
def lng (c : List Int) (es : List (List Int)) : Int := mxl (ends c es c.length) 0
def vl (c : List Int) : Int := c.foldl (· + ·) 0
def SumTo (c : List Int) : Nat → Int
  | 0 => 0
  | n + 1 => SumTo c n + rd c (n : Int)
theorem ends_len (c : List Int) (es : List (List Int)) (n : Nat) : (ends c es n).length = n := by
  induction n with
  | zero => rfl
  | succ n ih => simp [ends, ih]
theorem rd_app_lt (a b : List Int) (i : Nat) (h : i < a.length) : rd (a ++ b) (i : Int) = rd a (i : Int) := by
  rw [rd_at _ i (by simp; omega), rd_at _ i h, List.getElem_append_left h]
theorem rd_app_eq (a : List Int) (x : Int) (n : Nat) (h : a.length = n) : rd (a ++ [x]) (n : Int) = x := by
  subst h
  rw [rd_at _ _ (by simp)]
  simp
theorem ends_rd (c : List Int) (es : List (List Int)) (n i : Nat) (h : i < n) : rd (ends c es n) (i : Int) = EV c es i := by
  induction n with
  | zero => omega
  | succ n ih =>
    rcases Nat.lt_or_ge i n with h' | h'
    · rw [ends, rd_app_lt _ _ _ (by rw [ends_len]; exact h'), ih h']
    · obtain rfl : i = n := by omega
      rfl
theorem EV_eq (c : List Int) (es : List (List Int)) (n : Nat) : EV c es n = bst (ends c es n) (n : Int) es 0 + rd c (n : Int) := by
  unfold EV
  rw [ends]
  exact rd_app_eq _ _ _ (ends_len c es n)
theorem bst_init (out : List Int) (b : Int) (es : List (List Int)) : ∀ t, t ≤ bst out b es t := by
  induction es with
  | nil => intro t; exact Int.le_refl _
  | cons e es ih =>
    intro t
    refine Int.le_trans ?_ (ih _)
    unfold stp; split <;> omega
theorem bst_ge (out : List Int) (b : Int) (es : List (List Int)) : ∀ t, ∀ e ∈ es, rd e 1 = b → rd out (rd e 0) ≤ bst out b es t := by
  induction es with
  | nil => intro t e he; simp at he
  | cons e es ih =>
    intro t x hx hb
    rcases List.mem_cons.1 hx with rfl | hx
    · refine Int.le_trans ?_ (bst_init out b es _)
      unfold stp; rw [if_pos hb]; omega
    · exact ih _ x hx hb
theorem bst_le (out : List Int) (b M : Int) (es : List (List Int)) : ∀ t, t ≤ M → (∀ e ∈ es, rd e 1 = b → rd out (rd e 0) ≤ M) → bst out b es t ≤ M := by
  induction es with
  | nil => intro t h _; exact h
  | cons e es ih =>
    intro t h hh
    refine ih _ ?_ (fun x hx => hh x (List.mem_cons_of_mem _ hx))
    unfold stp
    split
    · rename_i hb
      have := hh e (List.mem_cons_self ..) hb
      omega
    · exact h
theorem mxl_init (l : List Int) : ∀ t, t ≤ mxl l t := by
  induction l with
  | nil => intro t; exact Int.le_refl _
  | cons a l ih => intro t; exact Int.le_trans (by omega) (ih _)
theorem mxl_ge (l : List Int) : ∀ t, ∀ x ∈ l, x ≤ mxl l t := by
  induction l with
  | nil => intro t x hx; simp at hx
  | cons a l ih =>
    intro t x hx
    rcases List.mem_cons.1 hx with rfl | hx
    · exact Int.le_trans (by omega) (mxl_init l _)
    · exact ih _ x hx
theorem mxl_le (l : List Int) (M : Int) : ∀ t, t ≤ M → (∀ x ∈ l, x ≤ M) → mxl l t ≤ M := by
  induction l with
  | nil => intro t h _; exact h
  | cons a l ih =>
    intro t h hh
    refine ih _ ?_ (fun x hx => hh x (List.mem_cons_of_mem _ hx))
    have := hh a (List.mem_cons_self ..)
    omega
theorem mxl_take (l : List Int) (i : Nat) (h : i < l.length) (t : Int) : mxl (l.take (i + 1)) t = max (mxl (l.take i) t) l[i] := by
  unfold mxl
  rw [List.take_succ_eq_append_getElem h, List.foldl_append]
  rfl
theorem vl_take (l : List Int) (i : Nat) (h : i < l.length) : vl (l.take (i + 1)) = vl (l.take i) + l[i] := by
  unfold vl
  rw [List.take_succ_eq_append_getElem h, List.foldl_append]
  rfl
theorem vl_sum (c : List Int) (n : Nat) (h : n ≤ c.length) : vl (c.take n) = SumTo c n := by
  induction n with
  | zero => rfl
  | succ n ih => rw [vl_take _ _ (by omega), ih (by omega), SumTo, rd_at]
theorem vl_eq (c : List Int) : vl c = SumTo c c.length := by
  have := vl_sum c c.length (Nat.le_refl _)
  rwa [List.take_length] at this
/-- The edges lead from lower to higher nodes, and the costs are positive. -/
def Up (m : Int) (es : List (List Int)) : Prop := ∀ e ∈ es, 0 ≤ rd e 0 ∧ rd e 0 < rd e 1 ∧ rd e 1 < m
def Pos (c : List Int) : Prop := ∀ i : Nat, i < c.length → 1 ≤ rd c (i : Int)
theorem gv_up {c : List Int} {es : List (List Int)} (h : GV c es) : Up c.length es := fun e he => (h.2.2.2 e he).2
theorem gv_pos {c : List Int} {es : List (List Int)} (h : GV c es) : Pos c := fun i hi => by
  rw [rd_at c i hi]
  exact (h.2.2.1 _ (List.getElem_mem hi)).1
theorem gv_cost {c : List Int} {es : List (List Int)} (h : GV c es) (i : Nat) (hi : i < c.length) : 1 ≤ rd c (i : Int) ∧ rd c (i : Int) ≤ 8 := by
  rw [rd_at c i hi]
  exact h.2.2.1 _ (List.getElem_mem hi)
theorem edge_nat {m : Int} {es : List (List Int)} (h : Up m es) {e : List Int} (he : e ∈ es) : ∃ a b : Nat, rd e 0 = (a : Int) ∧ rd e 1 = (b : Int) ∧ a < b ∧ (b : Int) < m := by
  have := h e he
  exact ⟨(rd e 0).toNat, (rd e 1).toNat, by omega, by omega, by omega, by omega⟩
theorem EV_ge (c : List Int) (es : List (List Int)) (n : Nat) : rd c (n : Int) ≤ EV c es n := by
  rw [EV_eq]
  have := bst_init (ends c es n) (n : Int) es 0
  omega
theorem EV_edge {c : List Int} {es : List (List Int)} {e : List Int} (he : e ∈ es) {a b : Nat} (ha : rd e 0 = (a : Int)) (hb : rd e 1 = (b : Int)) (hab : a < b) : EV c es a + rd c (b : Int) ≤ EV c es b := by
  rw [EV_eq c es b]
  have := bst_ge (ends c es b) (b : Int) es 0 e he hb
  rw [ha, ends_rd c es b a hab] at this
  omega
theorem lng_ge (c : List Int) (es : List (List Int)) (i : Nat) (h : i < c.length) : EV c es i ≤ lng c es := by
  rw [← ends_rd c es c.length i h, rd_at _ i (by rw [ends_len]; exact h)]
  exact mxl_ge _ _ _ (List.getElem_mem _)
theorem lng_le (c : List Int) (es : List (List Int)) (M : Int) (h0 : 0 ≤ M) (h : ∀ i, i < c.length → EV c es i ≤ M) : lng c es ≤ M := by
  refine mxl_le _ _ _ h0 (fun x hx => ?_)
  obtain ⟨i, hi, rfl⟩ := List.mem_iff_getElem.1 hx
  have hl := ends_len c es c.length
  have := h i (by omega)
  rwa [← ends_rd c es c.length i (by omega), rd_at _ i hi] at this
theorem lng_nonneg (c : List Int) (es : List (List Int)) : 0 ≤ lng c es := mxl_init _ _
theorem sum_mono {c : List Int} (hp : Pos c) : ∀ n m, n ≤ m → m ≤ c.length → SumTo c n ≤ SumTo c m := by
  intro n m
  induction m with
  | zero => intro h _; obtain rfl : n = 0 := by omega
            exact Int.le_refl _
  | succ m ih =>
    intro h hm
    rcases Nat.lt_or_ge n (m + 1) with h' | h'
    · have := ih (by omega) (by omega)
      have := hp m (by omega)
      rw [SumTo]; omega
    · obtain rfl : n = m + 1 := by omega
      exact Int.le_refl _
theorem EV_le_sum {c : List Int} {es : List (List Int)} (hu : Up c.length es) (hp : Pos c) : ∀ n, n < c.length → EV c es n ≤ SumTo c (n + 1) := by
  intro n
  induction n using Nat.strongRecOn with
  | ind n ih =>
    intro hn
    rw [EV_eq, SumTo]
    have : bst (ends c es n) (n : Int) es 0 ≤ SumTo c n := by
      refine bst_le _ _ _ _ _ ?_ (fun e he hb => ?_)
      · exact sum_mono hp 0 n (by omega) (by omega)
      · obtain ⟨a, b, ha, hb', hab, _⟩ := edge_nat hu he
        obtain rfl : b = n := by omega
        rw [ha, ends_rd c es b a hab]
        exact Int.le_trans (ih a hab (by omega)) (sum_mono hp _ _ (by omega) (by omega))
    omega
theorem lng_le_vl {c : List Int} {es : List (List Int)} (hu : Up c.length es) (hp : Pos c) : lng c es ≤ vl c := by
  rw [vl_eq]
  refine lng_le _ _ _ ?_ (fun i hi => ?_)
  · exact sum_mono hp 0 _ (by omega) (by omega)
  · exact Int.le_trans (EV_le_sum hu hp i hi) (sum_mono hp _ _ (by omega) (by omega))
/-- More edges never make it shorter. -/
theorem EV_mono {c : List Int} {es fs : List (List Int)} (hu : Up c.length fs) (hs : ∀ e ∈ es, e ∈ fs) : ∀ n, EV c es n ≤ EV c fs n := by
  intro n
  induction n using Nat.strongRecOn with
  | ind n ih =>
    rw [EV_eq, EV_eq]
    have : bst (ends c es n) (n : Int) es 0 ≤ bst (ends c fs n) (n : Int) fs 0 := by
      refine bst_le _ _ _ _ _ (bst_init ..) (fun e he hb => ?_)
      obtain ⟨a, b, ha, hb', hab, _⟩ := edge_nat hu (hs e he)
      obtain rfl : b = n := by omega
      have h1 := bst_ge (ends c fs b) (b : Int) fs 0 e (hs e he) hb
      rw [ha, ends_rd c fs b a hab] at h1
      rw [ha, ends_rd c es b a hab]
      exact Int.le_trans (ih a hab) h1
    omega
theorem lng_mono {c : List Int} {es fs : List (List Int)} (hu : Up c.length fs) (hs : ∀ e ∈ es, e ∈ fs) : lng c es ≤ lng c fs :=
  lng_le _ _ _ (lng_nonneg _ _) (fun i hi => Int.le_trans (EV_mono hu hs i) (lng_ge _ _ i hi))
theorem lng_none (c : List Int) : lng c [] = mxl c 0 := by
  have h : ∀ i, EV c [] i = rd c (i : Int) := by
    intro i
    rw [EV_eq]
    simp [bst]
  apply Int.le_antisymm
  · refine lng_le _ _ _ (mxl_init _ _) (fun i hi => ?_)
    rw [h, rd_at c i hi]
    exact mxl_ge _ _ _ (List.getElem_mem _)
  · refine mxl_le _ _ _ (lng_nonneg _ _) (fun x hx => ?_)
    obtain ⟨i, hi, rfl⟩ := List.mem_iff_getElem.1 hx
    rw [← rd_at c i hi, ← h]
    exact lng_ge _ _ i hi
theorem top_le {c : List Int} (es : List (List Int)) : mxl c 0 ≤ lng c es := by
  refine mxl_le _ _ _ (lng_nonneg _ _) (fun x hx => ?_)
  obtain ⟨i, hi, rfl⟩ := List.mem_iff_getElem.1 hx
  rw [← rd_at c i hi]
  exact Int.le_trans (EV_ge c es i) (lng_ge _ _ i hi)
theorem edge_le {c : List Int} {es : List (List Int)} (hu : Up c.length es) {e : List Int} (he : e ∈ es) : rd c (rd e 0) + rd c (rd e 1) ≤ lng c es := by
  obtain ⟨a, b, ha, hb, hab, hm⟩ := edge_nat hu he
  rw [ha, hb]
  have h1 := EV_edge (c := c) he ha hb hab
  have h2 := EV_ge c es a
  have h3 := lng_ge c es b (by omega)
  omega
end Go.Proofs.Ytkmpcmhkfnoeiaa.Crit
/- The volume, the critical path and Graham's bound of the program and of the reference are the plain ones. Condition: the rows are not too long. -/
namespace Go.Proofs.Ytkmpcmhkfnoeiaa.Crit
open Go.RowKit Go.Proofs.Ytkmpcmhkfnoeiaa.P Go.Proofs.Ytkmpcmhkfnoeiaa.Base Go.Proofs.Ytkmpcmhkfnoeiaa.Gen Go.Proofs.Ytkmpcmhkfnoeiaa.Graph Go.Proofs.YtkmpcmhkfnoeiaaW.PrintWords Go.Proofs.YtkmpcmhkfnoeiaaW.PrintLast
def VL (c : List Int) (es : List (List Int)) : Int := if GV c es then vl c else -1
def CP (c : List Int) (es : List (List Int)) : Int := if GV c es then lng c es else -1
theorem sum_bd {c : List Int} {es : List (List Int)} (h : GV c es) (n : Nat) (hn : n ≤ c.length) : 0 ≤ SumTo c n ∧ SumTo c n ≤ 8 * n := by
  induction n with
  | zero => simp [SumTo]
  | succ n ih =>
    have h1 := ih (by omega)
    have h2 := gv_cost h n (by omega)
    rw [SumTo]; omega
theorem vl_bd {c : List Int} {es : List (List Int)} (h : GV c es) : 0 ≤ vl c ∧ vl c ≤ 64 := by
  rw [vl_eq]
  have := sum_bd h c.length (Nat.le_refl _)
  have := h.1
  omega
theorem EV_bd {c : List Int} {es : List (List Int)} (h : GV c es) (i : Nat) (hi : i < c.length) : 1 ≤ EV c es i ∧ EV c es i ≤ 64 := by
  have h1 := EV_ge c es i
  have h2 := gv_cost h i hi
  have h3 := EV_le_sum (gv_up h) (gv_pos h) i hi
  have h4 := sum_bd h (i + 1) (by omega)
  have := h.1
  omega
theorem lng_bd {c : List Int} {es : List (List Int)} (h : GV c es) : 0 ≤ lng c es ∧ lng c es ≤ vl c := ⟨lng_nonneg _ _, lng_le_vl (gv_up h) (gv_pos h)⟩
theorem spec_vol_loop {c : List Int} {es : List (List Int)} (h : GV c es) : ∀ d i, i + d = c.length → Ev (fun k => spec_Volume.l0 k c (SumTo c i) (i : Int)) (vl c) := by
  intro d
  induction d with
  | zero =>
    intro i hi
    refine Ev.step (f := fun _ => some (vl c)) (fun k => ?_) (Ev.now _)
    simp only [spec_Volume.l0]
    rw [if_neg (by omega), vl_eq]
    congr 2
  | succ d ih =>
    intro i hi
    have hc := h.1
    have h1 := sum_bd h i (by omega)
    have h2 := gv_cost h i (by omega)
    refine Ev.step (fun k => ?_) (ih (i + 1) (by omega))
    simp only [spec_Volume.l0]
    rw [if_pos (by omega), if_pos (by omega), w64 (x := SumTo c i + rd c i) (by omega) (by omega), w64 (by omega) (by omega)]
    rfl
theorem spec_vol (c : List Int) (es : List (List Int)) : Ev (fun k => spec_Volume.f k c es) (VL c es) := by
  unfold spec_Volume.f
  refine Ev.bind (spec_gv c es) ?_
  by_cases h : GV c es
  · simp only [decide_eq_true h, if_true]
    unfold VL; rw [if_pos h]
    exact spec_vol_loop h c.length 0 (by omega)
  · simp only [decide_eq_false h]
    unfold VL; rw [if_neg h]
    exact Ev.now _
theorem impl_vol_f {c : List Int} {es : List (List Int)} (h : GV c es) : Ev (fun k => impl_volume.f k c) (vl c) := by
  have loop : ∀ d i, i + d = c.length → Ev (fun k => impl_volume.l0 k (SumTo c i) c (c.length : Int) (i : Int)) (vl c) := by
    intro d
    induction d with
    | zero =>
      intro i hi
      refine Ev.step (f := fun _ => some (vl c)) (fun k => ?_) (Ev.now _)
      simp only [impl_volume.l0]
      rw [if_neg (by omega), vl_eq]
      congr 2
    | succ d ih =>
      intro i hi
      have hc := h.1
      have h1 := sum_bd h i (by omega)
      have h2 := gv_cost h i (by omega)
      refine Ev.step (fun k => ?_) (ih (i + 1) (by omega))
      simp only [impl_volume.l0]
      rw [if_pos (by omega), if_pos (by omega), if_pos (by omega), w64 (x := SumTo c i + rd c i) (by omega) (by omega), w64 (by omega) (by omega)]
      rfl
  exact loop c.length 0 (by omega)
theorem impl_vol (c : List Int) (es : List (List Int)) (hc : c.length ≤ 2097152) (he : es.length ≤ 2097152) : Ev (fun k => impl_Volume.f k c es) (VL c es) := by
  unfold impl_Volume.f
  refine Ev.bind (impl_gv c es hc he) ?_
  by_cases h : GV c es
  · simp only [decide_eq_true h, if_true]
    unfold VL; rw [if_pos h]
    exact Ev.bind (impl_vol_f h) (Ev.now _)
  · simp only [decide_eq_false h]
    unfold VL; rw [if_neg h]
    exact Ev.now _
theorem bst_drop (out : List Int) (b : Int) (es : List (List Int)) (j : Nat) (h : j < es.length) (t : Int) : bst out b (es.drop j) t = bst out b (es.drop (j + 1)) (stp out b t es[j]) := by
  rw [List.drop_eq_getElem_cons h]
  rfl
theorem spec_ends {c : List Int} {es : List (List Int)} (h : GV c es) : Ev (fun k => spec_l22Ends.f k c es) (ends c es c.length) := by
  have hc := h.1
  have he := h.2.1
  have inner : ∀ (i : Nat), i < c.length → ∀ R, Ev (fun k => spec_l22Ends.l0 k c es (ends c es (i + 1)) ((i : Int) + 1)) R → ∀ d j t, j + d = es.length → bst (ends c es i) (i : Int) (es.drop j) t = bst (ends c es i) (i : Int) es 0 → Ev (fun k => spec_l22Ends.l1 k c es (ends c es i) (i : Int) t (j : Int)) R := by
    intro i hi R hR d
    have hb := EV_bd h i hi
    have hco := gv_cost h i hi
    have heq := EV_eq c es i
    induction d with
    | zero =>
      intro j t hj ht
      refine Ev.step (fun k => ?_) hR
      rw [List.drop_eq_nil_of_le (by omega)] at ht
      have ht : t = bst (ends c es i) (i : Int) es 0 := ht
      simp only [spec_l22Ends.l1]
      rw [if_neg (by omega), if_pos (by omega), if_pos (by omega), if_pos (by rw [ends_len]; omega), w64 (x := t + rd c i) (by omega) (by omega), w64 (by omega) (by omega), ht]
      rfl
    | succ d ih =>
      intro j t hj ht
      have hjl : j < es.length := by omega
      have hok := h.2.2.2 es[j] (List.getElem_mem hjl)
      unfold EdgeOk at hok
      rw [bst_drop _ _ _ _ hjl] at ht
      refine Ev.step (fun k => ?_) (ih (j + 1) _ (by omega) ht)
      simp only [spec_l22Ends.l1]
      rw [if_pos (by omega), if_pos (by omega), rd5_at es j hjl, if_pos (by omega), w64 (x := (j : Int) + 1) (by omega) (by omega)]
      unfold stp
      by_cases hb : rd es[j] 1 = (i : Int)
      · rw [if_pos hb, if_pos hb, if_pos (by omega), if_pos (by omega), if_pos (by rw [ends_len]; omega), mx_max]
        rfl
      · rw [if_neg hb, if_neg hb]
        rfl
  have outer : ∀ d i, i + d = c.length → Ev (fun k => spec_l22Ends.l0 k c es (ends c es i) (i : Int)) (ends c es c.length) := by
    intro d
    induction d with
    | zero =>
      intro i hi
      obtain rfl : i = c.length := by omega
      refine Ev.step (f := fun _ => some (ends c es c.length)) (fun k => ?_) (Ev.now _)
      simp only [spec_l22Ends.l0]
      rw [if_neg (by omega)]
    | succ d ih =>
      intro i hi
      refine Ev.step (fun k => ?_) (inner i (by omega) _ (ih (i + 1) (by omega)) es.length 0 0 (by omega) rfl)
      simp only [spec_l22Ends.l0]
      rw [if_pos (by omega)]
      rfl
  exact outer c.length 0 (by omega)
theorem spec_cp (c : List Int) (es : List (List Int)) : Ev (fun k => spec_CriticalPath.f k c es) (CP c es) := by
  unfold spec_CriticalPath.f
  refine Ev.bind (spec_gv c es) ?_
  by_cases h : GV c es
  · simp only [decide_eq_true h, if_true]
    unfold CP; rw [if_pos h]
    refine Ev.bind (spec_ends h) ?_
    have hl := ends_len c es c.length
    have hc := h.1
    have loop : ∀ d i, i + d = c.length → Ev (fun k => spec_CriticalPath.l0 k (mxl ((ends c es c.length).take i) 0) (ends c es c.length) (i : Int)) (lng c es) := by
      intro d
      induction d with
      | zero =>
        intro i hi
        refine Ev.step (f := fun _ => some (lng c es)) (fun k => ?_) (Ev.now _)
        simp only [spec_CriticalPath.l0]
        rw [if_neg (by omega), List.take_of_length_le (by omega)]
        rfl
      | succ d ih =>
        intro i hi
        refine Ev.step (fun k => ?_) (ih (i + 1) (by omega))
        simp only [spec_CriticalPath.l0]
        rw [if_pos (by omega), if_pos (by omega), w64 (by omega) (by omega), mx_max, mxl_take _ _ (by omega), rd_at _ i (by omega)]
        rfl
    exact loop c.length 0 (by omega)
  · simp only [decide_eq_false h]
    unfold CP; rw [if_neg h]
    exact Ev.now _
theorem rd_set_eq (l : List Int) (i : Nat) (x : Int) (h : i < l.length) : rd (l.set i x) (i : Int) = x := by
  rw [rd_at _ i (by simpa using h)]
  simp
theorem rd_set_ne (l : List Int) (i a : Nat) (x : Int) (h : a ≠ i) : rd (l.set i x) (a : Int) = rd l (a : Int) := by
  unfold rd
  rw [List.getD_eq_getElem?_getD, List.getD_eq_getElem?_getD, Int.toNat_natCast, List.getElem?_set_ne (by omega)]
/-- The program's row of ends: what is done, what is under way, nothing. -/
def Row (c : List Int) (es : List (List Int)) (i : Nat) (t : Int) (x : List Int) : Prop :=
  x.length = c.length ∧ (∀ a : Nat, a < i → rd x (a : Int) = EV c es a) ∧ rd x (i : Int) = t ∧ ∀ a : Nat, i < a → rd x (a : Int) = 0
theorem row_read {c : List Int} {es : List (List Int)} {i : Nat} {t : Int} {x : List Int} (h : Row c es i t x) {a : Nat} (ha : a < i) : rd x (a : Int) = rd (ends c es i) (a : Int) := by
  rw [h.2.1 a ha, ends_rd c es i a ha]
theorem row_set {c : List Int} {es : List (List Int)} {i : Nat} {t : Int} {x : List Int} (h : Row c es i t x) (hi : i < c.length) (u : Int) : Row c es i u (x.set i u) := by
  refine ⟨by simpa using h.1, fun a ha => ?_, rd_set_eq _ _ _ (by rw [h.1]; exact hi), fun a ha => ?_⟩
  · rw [rd_set_ne _ _ _ _ (by omega)]; exact h.2.1 a ha
  · rw [rd_set_ne _ _ _ _ (by omega)]; exact h.2.2.2 a ha
theorem row_next {c : List Int} {es : List (List Int)} {i : Nat} {x : List Int} (h : Row c es i (EV c es i) x) : Row c es (i + 1) 0 x := by
  refine ⟨h.1, fun a ha => ?_, h.2.2.2 (i + 1) (by omega), fun a ha => h.2.2.2 a (by omega)⟩
  by_cases e : a = i
  · subst e; exact h.2.2.1
  · exact h.2.1 a (by omega)
theorem row_zero (c : List Int) (es : List (List Int)) : Row c es 0 0 (List.replicate c.length 0) := by
  have hz : ∀ a : Nat, rd (List.replicate c.length 0) (a : Int) = 0 := by
    intro a
    unfold rd
    rw [List.getD_eq_getElem?_getD, Int.toNat_natCast, List.getElem?_replicate]
    split <;> rfl
  exact ⟨by simp, fun a ha => by omega, hz 0, fun a _ => hz a⟩
theorem impl_crit_f {c : List Int} {es : List (List Int)} (h : GV c es) : Ev (fun k => impl_critical.f k c es) (lng c es) := by
  have hc := h.1
  have he := h.2.1
  have hel := ends_len c es c.length
  have inner : ∀ (i : Nat), i < c.length → ∀ R g, (∀ x, Row c es (i + 1) 0 x → Ev (fun k => impl_critical.l0 k es x (max g (EV c es i)) c (c.length : Int) ((i : Int) + 1)) R) → ∀ d j t x, j + d = es.length → Row c es i t x → bst (ends c es i) (i : Int) (es.drop j) t = bst (ends c es i) (i : Int) es 0 → Ev (fun k => impl_critical.l1 k es x g (i : Int) (rd c (i : Int)) c (c.length : Int) (i : Int) es (es.length : Int) (j : Int)) R := by
    intro i hi R g hR d
    have hb := EV_bd h i hi
    have hco := gv_cost h i hi
    have heq := EV_eq c es i
    induction d with
    | zero =>
      intro j t x hj hx ht
      rw [List.drop_eq_nil_of_le (by omega)] at ht
      have ht : t = bst (ends c es i) (i : Int) es 0 := ht
      have hx1 := hx.1
      have hx2 := hx.2.2.1
      have hn : Row c es i (EV c es i) (x.set i (EV c es i)) := row_set hx hi _
      refine Ev.step (fun k => ?_) (hR _ (row_next hn))
      simp only [impl_critical.l1]
      rw [if_neg (by omega), if_pos (by omega), if_pos (by omega), Option.bind_some, hx2, w64 (x := t + rd c i) (by omega) (by omega), w64 (by omega) (by omega), show t + rd c (i : Int) = EV c es i by omega, Int.toNat_natCast, hn.2.2.1, mx_max]
    | succ d ih =>
      intro j t x hj hx ht
      have hjl : j < es.length := by omega
      have hok := h.2.2.2 es[j] (List.getElem_mem hjl)
      unfold EdgeOk at hok
      rw [bst_drop _ _ _ _ hjl] at ht
      have hx1 := hx.1
      by_cases hb : rd es[j] 1 = (i : Int)
      · have hx2 := hx.2.2.1
        obtain ⟨a, ha⟩ : ∃ a : Nat, rd es[j] 0 = (a : Int) := ⟨(rd es[j] 0).toNat, by omega⟩
        have e1 : stp (ends c es i) (i : Int) t es[j] = max t (rd x (a : Int)) := by
          unfold stp; rw [if_pos hb, ha, row_read hx (by omega)]
        rw [e1] at ht
        refine Ev.step (fun k => ?_) (ih (j + 1) _ _ (by omega) (row_set hx hi _) ht)
        simp only [impl_critical.l1]
        rw [if_pos (by omega), if_pos (by omega), if_pos (by omega), rd5_at es j hjl, if_pos (by omega), w64 (x := (j : Int) + 1) (by omega) (by omega), if_pos hb, if_pos (by omega), if_pos (by omega), if_pos (by omega), if_pos (by omega), if_pos (by omega), hx2, mx_max, ha, Int.toNat_natCast]
        rfl
      · have e1 : stp (ends c es i) (i : Int) t es[j] = t := by
          unfold stp; rw [if_neg hb]
        rw [e1] at ht
        refine Ev.step (fun k => ?_) (ih (j + 1) _ _ (by omega) hx ht)
        simp only [impl_critical.l1]
        rw [if_pos (by omega), if_pos (by omega), if_pos (by omega), rd5_at es j hjl, if_pos (by omega), w64 (x := (j : Int) + 1) (by omega) (by omega), if_neg hb]
        rfl
  have outer : ∀ d i x, i + d = c.length → Row c es i 0 x → Ev (fun k => impl_critical.l0 k es x (mxl ((ends c es c.length).take i) 0) c (c.length : Int) (i : Int)) (lng c es) := by
    intro d
    induction d with
    | zero =>
      intro i x hi hx
      refine Ev.step (f := fun _ => some (lng c es)) (fun k => ?_) (Ev.now _)
      simp only [impl_critical.l0]
      rw [if_neg (by omega), List.take_of_length_le (by omega)]
      rfl
    | succ d ih =>
      intro i x hi hx
      have hil : i < c.length := by omega
      refine Ev.step (fun k => ?_) (inner i hil _ (mxl ((ends c es c.length).take i) 0) (fun y hy => ?_) es.length 0 0 x (by omega) hx rfl)
      · simp only [impl_critical.l0]
        rw [if_pos (by omega), if_pos (by omega), if_pos (by omega)]
        rfl
      · have := ih (i + 1) y (by omega) hy
        rw [mxl_take _ _ (by omega), ← rd_at _ i (by omega), ends_rd c es c.length i hil] at this
        exact this
  have := outer c.length 0 _ (by omega) (row_zero c es)
  refine Ev.congr (fun k => ?_) this
  unfold impl_critical.f
  rw [if_pos (by omega), Int.toNat_natCast, if_pos (by omega)]
  rfl
theorem impl_cp (c : List Int) (es : List (List Int)) (hc : c.length ≤ 2097152) (he : es.length ≤ 2097152) : Ev (fun k => impl_CriticalPath.f k c es) (CP c es) := by
  unfold impl_CriticalPath.f
  refine Ev.bind (impl_gv c es hc he) ?_
  by_cases h : GV c es
  · simp only [decide_eq_true h, if_true]
    unfold CP; rw [if_pos h]
    exact Ev.bind (impl_crit_f h) (Ev.now _)
  · simp only [decide_eq_false h]
    unfold CP; rw [if_neg h]
    exact Ev.now _
end Go.Proofs.Ytkmpcmhkfnoeiaa.Crit
/- The critical path is at most the volume. No condition. -/
namespace Go.Proofs.Ytkmpcmhkfnoeiaa.Pure
open Go.RowKit Go.Proofs.Ytkmpcmhkfnoeiaa.P Go.Proofs.Ytkmpcmhkfnoeiaa.Base Go.Proofs.Ytkmpcmhkfnoeiaa.Gen Go.Proofs.YtkmpcmhkfnoeiaaW.PrintWords Go.Proofs.YtkmpcmhkfnoeiaaW.PrintLast
open Go.Proofs.Ytkmpcmhkfnoeiaa.Pb Go.Proofs.Ytkmpcmhkfnoeiaa.Alive Go.Proofs.Ytkmpcmhkfnoeiaa.Graph Go.Proofs.Ytkmpcmhkfnoeiaa.DrGraph Go.Proofs.Ytkmpcmhkfnoeiaa.Crit 

theorem FnCriticalPath : laws_FnCriticalPath.Pure := by
  intro l0 _ hl
  apply Tot.rounds
  unfold laws_FnCriticalPath.f
  refine Tot.ite (fun _ => Tot.ret _ rfl) (fun _ => ?_)
  unfold spec_DrawCriticalPath.f
  refine Tot.bind (P := fun r => r.1.length ≤ 20 ∧ r.2.length ≤ 20) (open_tot l0 hl.2 (fun s hs => Tot.bind (graph_tot s 0 9 hs (by omega) (by omega)) (fun r hr => Tot.ret _ ⟨hr.1, hr.2.1⟩))) ?_
  rintro ⟨c, es⟩ ⟨hc, he⟩
  simp only at hc he ⊢
  refine Tot.bind (Tot.val (impl_cp c es (by omega) (by omega))) ?_
  rintro _ rfl
  refine Tot.bind (Tot.val (impl_vol c es (by omega) (by omega))) ?_
  rintro _ rfl
  refine Tot.bind (Tot.val (spec_cp c es)) ?_
  rintro _ rfl
  refine Tot.yes rfl (Tot.bind (Tot.val (spec_vol c es)) ?_)
  rintro _ rfl
  refine Tot.step (fun k => by rw [laws_FnCriticalPath.j0]) (Tot.no (by simp) ?_)
  refine Tot.bind (Tot.val (spec_gv c es)) ?_
  rintro _ rfl
  by_cases hv : GV c es
  · refine Tot.yes (decide_eq_true hv) ?_
    have e1 : CP c es = lng c es := if_pos hv
    have e2 : VL c es = vl c := if_pos hv
    rw [e1, e2]
    have hb := lng_bd hv
    have hb2 := vl_bd hv
    have edges : ∀ d i, i + d = es.length → Tot (fun k => laws_FnCriticalPath.l1 k c es (lng c es) (vl c) (mxl c 0) (vl c) (i : Int)) (fun r => r = true) := by
      intro d
      induction d with
      | zero =>
        intro i hi
        refine Tot.step (fun k => by rw [laws_FnCriticalPath.l1]) (Tot.no (by omega) ?_)
        refine Tot.yes (top_le es) (Tot.yes hb.2 (Tot.yes rfl ?_))
        refine Tot.bind (Tot.val (impl_cp c [] (by omega) (by simp))) ?_
        rintro _ rfl
        refine Tot.ret _ ?_
        have : GV c [] := ⟨hv.1, by simp, hv.2.2.1, by simp⟩
        unfold CP
        rw [if_pos this, lng_none]
        simp
      | succ d ih =>
        intro i hi
        have hil : i < es.length := by omega
        have hok := hv.2.2.2 es[i] (List.getElem_mem hil)
        have hok2 := hok
        unfold EdgeOk at hok
        have hle := edge_le (gv_up hv) (List.getElem_mem hil)
        have g0 : 1 ≤ rd c (rd es[i] 0) ∧ rd c (rd es[i] 0) ≤ 8 := by
          have := gv_cost hv (rd es[i] 0).toNat (by omega)
          rwa [Int.toNat_of_nonneg (by omega)] at this
        have g1 : 1 ≤ rd c (rd es[i] 1) ∧ rd c (rd es[i] 1) ≤ 8 := by
          have := gv_cost hv (rd es[i] 1).toNat (by omega)
          rwa [Int.toNat_of_nonneg (by omega)] at this
        refine Tot.step (fun k => by rw [laws_FnCriticalPath.l1]) (Tot.yes (by omega) (Tot.yes (by omega) ?_))
        rw [rd5_at es i hil, w64 (x := (i : Int) + 1) (by omega) (by omega), w64 (x := rd c (rd es[i] 0) + rd c (rd es[i] 1)) (by omega) (by omega)]
        refine Tot.yes (by omega) (Tot.yes (by omega) (Tot.yes (by omega) (Tot.yes (by omega) (Tot.yes (by omega) (Tot.yes (by omega) (Tot.no (by omega) (Tot.yes (by omega) ?_)))))))
        rw [Int.toNat_natCast]
        refine Tot.bind (Tot.val (impl_cp c (es.take i) (by omega) (by rw [List.length_take]; omega))) ?_
        rintro _ rfl
        have hg : GV c (es.take i) := ⟨hv.1, by have := hv.2.1; rw [List.length_take]; omega, hv.2.2.1, fun e h => hv.2.2.2 e (List.mem_of_mem_take h)⟩
        have : CP c (es.take i) = lng c (es.take i) := if_pos hg
        rw [this]
        have := lng_mono (c := c) (es := es.take i) (gv_up hv) (fun e h => List.mem_of_mem_take h)
        exact Tot.no (by omega) (ih (i + 1) (by omega))
    have costs : ∀ d i, i + d = c.length → Tot (fun k => laws_FnCriticalPath.l0 k c es (lng c es) (vl c) (mxl (c.take i) 0) (SumTo c i) (i : Int)) (fun r => r = true) := by
      intro d
      induction d with
      | zero =>
        intro i hi
        refine Tot.step (fun k => by rw [laws_FnCriticalPath.l0]) (Tot.no (by omega) ?_)
        have := edges es.length 0 (by omega)
        rw [List.take_of_length_le (by omega), show i = c.length by omega, ← vl_eq]
        exact this
      | succ d ih =>
        intro i hi
        have h1 := sum_bd hv i (by omega)
        have h2 := gv_cost hv i (by omega)
        refine Tot.step (fun k => by rw [laws_FnCriticalPath.l0]) (Tot.yes (by omega) (Tot.yes (by omega) ?_))
        rw [w64 (x := (i : Int) + 1) (by omega) (by omega), w64 (x := SumTo c i + rd c i) (by omega) (by omega), mx_max]
        have := ih (i + 1) (by omega)
        rw [mxl_take _ _ (by omega), ← rd_at c i (by omega)] at this
        exact this
    exact costs c.length 0 (by omega)
  · have e1 : CP c es = -1 := if_neg hv
    have e2 : VL c es = -1 := if_neg hv
    rw [e1, e2]
    exact Tot.no (by simp [hv]) (Tot.yes rfl (Tot.yes rfl (Tot.bind0 alive_f (Tot.ret _ rfl))))
end Go.Proofs.Ytkmpcmhkfnoeiaa.Pure
/- Arguments of a law laid open: whatever reads as data of a type reads as a value of its kind.
   No condition. -/
namespace Go.Proofs.Ytkmpcmhkfnoeiaa.Opn
open Go.ChangeShapes Go.WideShapes Go.Deep Go.RowKit Go.Proofs.YtkmpcmhkfnoeiaaW.PrintWords
section
variable {H : Type} {enc : TypeId × Value → H} {P : Program} {W : World} {base : Nat} {spare : Nat → Bool} {held : Bool}

/-- Whatever reads as data of type t reads as a value of the kind d that is good. -/
def Opens {α : Type} (enc : TypeId × Value → H) (P : Program) (W : World) (base : Nat) (spare : Nat → Bool) (held : Bool) (t : TypeId) (d : Kd α) (G : α → Prop) : Prop :=
  ∀ (fuel : Nat) (cs : List Value) (x : DataW H × List MemPlace), DataW.trod enc P W base spare held fuel t cs = some x → ∃ a, d.K W a cs ∧ G a

theorem opens_int {t : TypeId} {k : IntKind} (hu : P.underlying t = some (.int k)) : Opens enc P W base spare held t (Kd.int k) (fun x => (Lit.int k x).wf = true) := by
  intro fuel cs x h
  obtain ⟨n, hc, _, hw⟩ := DataW.trod_int hu h
  exact ⟨n, hc, hw⟩
theorem list_of {α : Type} (m : Nat) (R : Nat → α → Prop) (h : ∀ i, i < m → ∃ a, R i a) : ∃ xs : List α, xs.length = m ∧ ∀ i a, xs[i]? = some a → R i a := by
  induction m with
  | zero => exact ⟨[], rfl, fun i a ha => by simp at ha⟩
  | succ m ih =>
    obtain ⟨xs, hl, hx⟩ := ih (fun i hi => h i (by omega))
    obtain ⟨a, ha⟩ := h m (by omega)
    refine ⟨xs ++ [a], by simp [hl], fun i b hb => ?_⟩
    rcases Nat.lt_or_ge i m with hi | hi
    · rw [List.getElem?_append_left (by omega)] at hb
      exact hx i b hb
    · have hi' : i = m := by
        have := (List.getElem?_eq_some_iff.1 hb).1
        simp at this
        omega
      subst hi'
      have : a = b := by simpa [hl] using hb
      subst this
      exact ha

/-- A slice of what opens. -/
theorem slice_row {α : Type} {t e : TypeId} {d : Kd α} {G : α → Prop} (hu : P.underlying t = some (.slice e)) (hC : P.cellsOf e = d.sz) (he : Opens enc P W base spare held e d G)
    {fuel : Nat} {A : Option Addr} {n cap : Nat} {x : DataW H × List MemPlace} (h : DataW.trod enc P W base spare held fuel t [.slice A n cap] = some x) :
    ∃ xs : List α, xs.length = n ∧ n ≤ cap ∧ n ≤ maxLen ∧ d.C W A xs.length xs ∧ ∀ y ∈ xs, G y := by
  rcases open_slice hu h with ⟨h0, _⟩ | ⟨a, len, c, m, k, D, Pl, hcs, _, hl, hm, hmm, _, hel⟩
  · simp only [List.cons.injEq, Value.slice.injEq, and_true] at h0
    obtain ⟨rfl, rfl, rfl⟩ := h0
    exact ⟨[], rfl, Nat.le_refl _, by simp [maxLen], Kd.C_nil d W, fun y hy => by simp at hy⟩
  · simp only [List.cons.injEq, Value.slice.injEq, and_true] at hcs
    obtain ⟨rfl, rfl, rfl⟩ := hcs
    have hle : n ≤ m := by rw [hmm]; split <;> omega
    obtain ⟨xs, hxl, hx⟩ := list_of (α := α) n (fun i y => G y ∧ ∃ cs', d.K W y cs' ∧ cs'.length = d.sz ∧ ∀ j, j < d.sz → W.cell? ((a.add (i * d.sz)).add j) = cs'[j]?) (by
      intro i hi
      obtain ⟨cs', hc, ht⟩ := hel i (by omega)
      obtain ⟨y, hK, hG⟩ := he _ _ _ ht
      rw [hC] at hc
      obtain ⟨_, hcl, hcc⟩ := World.cells?_some hc
      exact ⟨y, hG, cs', hK, hcl, hcc⟩)
    refine ⟨xs, hxl, hl, by omega, ⟨rfl, by simp only [maxLen] at hm; omega, fun hp => ⟨a, rfl, fun j p hj => ?_⟩⟩, fun y hy => ?_⟩
    · obtain ⟨_, cs', hK, hcl, hcc⟩ := hx j p hj
      refine ⟨cs', hcl, hK, fun i u hi => ?_⟩
      have hlt : i < d.sz := by
        have := (List.getElem?_eq_some_iff.1 hi).1
        omega
      rw [← Go.Deep.add_add, hcc i hlt, hi]
    · obtain ⟨i, hi, rfl⟩ := List.getElem_of_mem hy
      exact (hx i _ (List.getElem?_eq_getElem hi)).1
/-- The weight of a slice bounds its length. -/
theorem sized_row {t e : TypeId} {A : Option Addr} {n cap : Nat} {d : DataW H} {ps : List MemPlace} {ts : List TypeId} {ds : List (DataW H)} {j : Nat}
    (hsz : (DataW.weightsEach P ts ds).all (· ≤ reachBytes) = true) (ht : ts[j]? = some t) (hd : ds[j]? = some d) (hu : P.underlying t = some (.slice e)) {B : Nat} (hB : P.bytesOf e = B)
    (h : DataW.Trod enc P W base spare held t (.slice A n cap) d ps) : n * B ≤ 140737488351232 := by
  obtain ⟨fuel, hf⟩ := h
  have hf' : DataW.trod enc P W base spare held fuel t [.slice A n cap] = some (d, ps) := hf
  rcases open_slice hu hf' with ⟨h0, _⟩ | ⟨a, len, c, m, k, D, Pl, hcs, _, hl, hm, hmm, hx, hel⟩
  · simp only [List.cons.injEq, Value.slice.injEq, and_true] at h0
    obtain ⟨rfl, rfl, rfl⟩ := h0
    simp
  · simp only [List.cons.injEq, Value.slice.injEq, and_true] at hcs
    obtain ⟨rfl, rfl, rfl⟩ := hcs
    obtain ⟨hx, _⟩ := Prod.mk.inj hx
    subst hx
    have z := sized_slice hsz ht hd hu
    rw [hB] at z
    simp only [List.length_map, List.length_range] at z
    exact Nat.le_trans (Nat.mul_le_mul_right _ (by omega)) z
end
end Go.Proofs.Ytkmpcmhkfnoeiaa.Opn
/- The head of the translation: a cut, with nothing lifted. No condition. -/
namespace Go.Proofs.Ytkmpcmhkfnoeiaa.Head
open Go
def chars (l : List Nat) : List Char := l.map Char.ofNat
def w1 : List Nat := [104, 97, 114, 110, 101, 115, 115]
def w2 : List Nat := [98, 51, 101, 57, 53, 99, 48, 99, 53, 99, 48, 102, 56, 101, 53, 99, 99, 102, 102, 51, 56, 51, 55, 99, 98, 54, 57, 51, 102, 99, 102, 99, 56, 55, 101, 57, 99, 51, 54, 55, 51, 54, 57, 97, 98, 97, 48, 56, 49, 99, 55, 50, 51, 97, 97, 50, 55, 48, 99, 53, 49, 99, 55, 54]
def w3 : List Nat := [99, 117, 116]
def w4 : List Nat := [97, 116, 32, 108, 111, 111, 112, 46, 101, 120, 97, 109, 112, 108, 101, 47, 100, 101, 97, 100, 108, 105, 110, 101, 115, 99, 104, 101, 100, 117, 108, 101, 114, 47, 108, 97, 119, 115, 46, 70, 110, 69, 120, 97, 99, 116, 83, 117, 98, 116, 97, 115, 107, 87, 105, 110, 100, 111, 119, 32, 108, 111, 111, 112, 46, 101, 120, 97, 109, 112, 108, 101, 47, 100, 101, 97, 100, 108, 105, 110, 101, 115, 99, 104, 101, 100, 117, 108, 101, 114, 47, 108, 97, 119, 115, 46, 70, 110, 83, 117, 98, 116, 97, 115, 107, 87, 105, 110, 100, 111, 119, 32, 108, 111, 111, 112, 46, 101, 120, 97, 109, 112, 108, 101, 47, 100, 101, 97, 100, 108, 105, 110, 101, 115, 99, 104, 101, 100, 117, 108, 101, 114, 47, 108, 97, 119, 115, 46, 70, 110, 69, 120, 97, 99, 116, 67, 111, 110, 102, 111, 114, 109, 115, 32, 108, 111, 111, 112, 46, 101, 120, 97, 109, 112, 108, 101, 47, 100, 101, 97, 100, 108, 105, 110, 101, 115, 99, 104, 101, 100, 117, 108, 101, 114, 47, 108, 97, 119, 115, 46, 70, 110, 67, 111, 110, 102, 111, 114, 109, 115, 32, 108, 111, 111, 112, 46, 101, 120, 97, 109, 112, 108, 101, 47, 100, 101, 97, 100, 108, 105, 110, 101, 115, 99, 104, 101, 100, 117, 108, 101, 114, 47, 108, 97, 119, 115, 46, 70, 110, 69, 120, 97, 99, 116, 66, 97, 99, 107, 108, 111, 103, 115, 32, 108, 111, 111, 112, 46, 101, 120, 97, 109, 112, 108, 101, 47, 100, 101, 97, 100, 108, 105, 110, 101, 115, 99, 104, 101, 100, 117, 108, 101, 114, 47, 108, 97, 119, 115, 46, 70, 110, 66, 97, 99, 107, 108, 111, 103, 115, 32, 108, 111, 111, 112, 46, 101, 120, 97, 109, 112, 108, 101, 47, 100, 101, 97, 100, 108, 105, 110, 101, 115, 99, 104, 101, 100, 117, 108, 101, 114, 47, 108, 97, 119, 115, 46, 70, 110, 66, 97, 99, 107, 108, 111, 103, 83, 97, 102, 101, 32, 108, 111, 111, 112, 46, 101, 120, 97, 109, 112, 108, 101, 47, 100, 101, 97, 100, 108, 105, 110, 101, 115, 99, 104, 101, 100, 117, 108, 101, 114, 47, 108, 97, 119, 115, 46, 70, 110, 68, 101, 108, 97, 121, 83, 97, 102, 101, 32, 108, 111, 111, 112, 46, 101, 120, 97, 109, 112, 108, 101, 47, 100, 101, 97, 100, 108, 105, 110, 101, 115, 99, 104, 101, 100, 117, 108, 101, 114, 47, 108, 97, 119, 115, 46, 70, 110, 69, 120, 97, 99, 116, 71, 114, 97, 112, 104, 86, 97, 108, 105, 100, 32, 108, 111, 111, 112, 46, 101, 120, 97, 109, 112, 108, 101, 47, 100, 101, 97, 100, 108, 105, 110, 101, 115, 99, 104, 101, 100, 117, 108, 101, 114, 47, 108, 97, 119, 115, 46, 70, 110, 71, 114, 97, 112, 104, 86, 97, 108, 105, 100, 32, 108, 111, 111, 112, 46, 101, 120, 97, 109, 112, 108, 101, 47, 100, 101, 97, 100, 108, 105, 110, 101, 115, 99, 104, 101, 100, 117, 108, 101, 114, 47, 108, 97, 119, 115, 46, 70, 110, 69, 120, 97, 99, 116, 86, 111, 108, 117, 109, 101, 32, 108, 111, 111, 112, 46, 101, 120, 97, 109, 112, 108, 101, 47, 100, 101, 97, 100, 108, 105, 110, 101, 115, 99, 104, 101, 100, 117, 108, 101, 114, 47, 108, 97, 119, 115, 46, 70, 110, 69, 120, 97, 99, 116, 67, 114, 105, 116, 105, 99, 97, 108, 80, 97, 116, 104, 32, 108, 111, 111, 112, 46, 101, 120, 97, 109, 112, 108, 101, 47, 100, 101, 97, 100, 108, 105, 110, 101, 115, 99, 104, 101, 100, 117, 108, 101, 114, 47, 108, 97, 119, 115, 46, 70, 110, 67, 114, 105, 116, 105, 99, 97, 108, 80, 97, 116, 104, 32, 108, 111, 111, 112, 46, 101, 120, 97, 109, 112, 108, 101, 47, 100, 101, 97, 100, 108, 105, 110, 101, 115, 99, 104, 101, 100, 117, 108, 101, 114, 47, 108, 97, 119, 115, 46, 70, 110, 69, 120, 97, 99, 116, 77, 97, 107, 101, 115, 112, 97, 110, 66, 111, 117, 110, 100]
theorem io_eq : Try.prog.initOrder = String.ofList (chars (w1 ++ 32 :: (w2 ++ 32 :: (w3 ++ 32 :: w4)))) := by kernel_rfl
theorem io_list : Try.prog.initOrder.toList = chars (w1 ++ 32 :: (w2 ++ 32 :: (w3 ++ 32 :: w4))) := by rw [io_eq, String.toList_ofList]
theorem ws_one (c : Char) (r w : List Char) (ws : List (List Char)) (hc : c ≠ Char.ofNat 32) (h : wordsSigns r = w :: ws) : wordsSigns (c :: r) = (c :: w) :: ws := by
  have e : wordsSigns (c :: r) = match wordsSigns r with
    | w :: ws => (c :: w) :: ws
    | [] => [[c]] := by
    rw [wordsSigns]
    · rfl
    · exact hc
  rw [e, h]
theorem ws_word (w : List Char) (h : ∀ c ∈ w, c ≠ Char.ofNat 32) (r : List Char) : wordsSigns (w ++ Char.ofNat 32 :: r) = w :: wordsSigns r := by
  induction w with
  | nil => rfl
  | cons c w ih => exact ws_one _ _ _ _ (h c (by simp)) (ih (fun x hx => h x (by simp [hx])))
theorem ws_nat (w r : List Nat) (h : w.all (fun n => !(Char.ofNat n == Char.ofNat 32)) = true) : wordsSigns (chars (w ++ 32 :: r)) = chars w :: wordsSigns (chars r) := by
  have e : chars (w ++ 32 :: r) = chars w ++ Char.ofNat 32 :: chars r := by simp [chars]
  rw [e]
  refine ws_word _ (fun c hc => ?_) _
  obtain ⟨n, hn, rfl⟩ := List.mem_map.1 hc
  have := List.all_eq_true.1 h n hn
  simpa using this
theorem io_words : behindMainWord (wordsSigns Try.prog.initOrder.toList) = chars w3 :: wordsSigns (chars w4) := by
  rw [io_list, ws_nat _ _ (by kernel_rfl), ws_nat _ _ (by kernel_rfl), ws_nat _ _ (by kernel_rfl)]
  generalize wordsSigns (chars w4) = R
  kernel_rfl
theorem make_gen (P : Program) (c : List Char) (R : List (List Char)) (h : behindMainWord (wordsSigns P.initOrder.toList) = c :: R) (h1 : (c == "gc".toList || c == "spec".toList) = false) (h2 : (c == "cut".toList) = true) : P.make = some .cut := by
  unfold Program.make
  rw [h]
  simp only [h1, h2, Bool.true_or, if_true, Bool.false_eq_true, if_false]
theorem make : Try.prog.make = some .cut := make_gen _ _ _ io_words (by kernel_rfl) (by kernel_rfl)
theorem enter_gen (P : Program) (c : List Char) (R : List (List Char)) (h : behindMainWord (wordsSigns P.initOrder.toList) = c :: R) (h1 : ∀ R, stripLifts liftWords (c :: R) = ([], c :: R)) (h2 : (some c == some "cut".toList) = true)
    (h3 : P.laysLater = false) (h4 : P.bearsReflect = false) (h5 : P.doorFits [] = true) : P.mayEnter = true := by
  unfold Program.mayEnter
  rw [h]
  simp only [h1, h2, h3, h4, h5, List.head?_cons, Bool.not_false, Bool.or_true, Bool.and_true, List.contains_nil]
theorem enter : Try.prog.mayEnter = true := enter_gen _ _ _ io_words (fun R => by kernel_rfl) (by kernel_rfl) (by kernel_rfl) (by kernel_rfl) (by kernel_rfl)
theorem lifts : Try.prog.liftsFinal = false := by
  unfold Program.liftsFinal Program.headLifts
  simp only [io_words]
  generalize wordsSigns (chars w4) = R
  kernel_rfl
end Go.Proofs.Ytkmpcmhkfnoeiaa.Head
/- The law FnCriticalPath, proved: for every input the call returns true and each argument reads as it did. No condition. -/
namespace Go.Proofs.Ytkmpcmhkfnoeiaa.fnCriticalPath
open Go.ChangeShapes Go.WideShapes Go.ChangeAt Go.RowKit Go.Proofs.YtkmpcmhkfnoeiaaW.PrintWords Go.Proofs.Ytkmpcmhkfnoeiaa.P
open Go.ChangeMaps (open_string shut_string)
theorem own : ownKnob Try.prog.godebug = none := by kernel_rfl
theorem laidOut : laidOutB Try.prog = true := by kernel_rfl
set_option maxRecDepth 100000 in
theorem lifted (os : Os) (started : os.Started) (H : Type) (enc : TypeId × Value → H) :
    ReturnsInHanded {} Try.checked os 15 .any (Rows.fnCriticalPathSpec.pre6 enc Try.prog Try.f15 Rows.fnCriticalPathRow.domain false) (Rows.fnCriticalPathSpec.post enc Try.prog Try.f15 false true false false) := by
  refine returnsInHanded_of_change_sized (C := Try.checked) own started (by kernel_rfl) Try.func15
    (ChangeSpec.witness6 (enc := enc) (C := Try.checked) false ⟨#[], #[.slice none 0 0], []⟩ 8 (by kernel_rfl) (by kernel_rfl) (by kernel_rfl) (by kernel_rfl)) ?_
  intro W base args ds gs before hval0 hW hcnd hsz0 _
  have hsz : (DataW.weightsEach Try.prog (Try.f15.params.toList ++ Rows.fnCriticalPathSpec.plain.varTypes Try.prog) (ds ++ gs)).all (· ≤ reachBytes) = true := hsz0
  have hval : ∀ (j : Nat) t v, Try.f15.params[j]? = some t → args[j]? = some v → Value.okWide Try.prog W .any base t v := hval0
  have hW' := hW
  obtain ⟨p, q, hA0, hV, rfl, hfz, hnd⟩ := hW
  have hA : DataW.TrodAll enc Try.prog W 0 (fun _ => true) true Try.f15.params.toList args.toList ds p := hA0
  rw [Try.params15] at hA hval hsz
  obtain ⟨v0, vs0, d0, ds0, p0, q0, hargs, rfl, rfl, h0, r0⟩ := trodAll_cons hA
  obtain ⟨rfl, rfl, rfl⟩ := trodAll_nil r0
  obtain rfl : args = #[v0] := by cases args; simp_all
  obtain ⟨rfl, rfl⟩ := trodVars_none hV
  have k0 := h0
  have lt0 : ∀ x ∈ p0, x.block < W.heap.size := by obtain ⟨m, hm⟩ := k0; exact DataW.trod_lt m _ _ _ hm
  obtain ⟨A0, n0, c0, rfl⟩ := okWide_slice Try.underlying31 (hval 0 31 v0 rfl rfl)
  have y0 : n0 * 1 ≤ 140737488351232 := Opn.sized_row hsz (j := 0) (t := 31) rfl rfl Try.underlying31 (by kernel_rfl) h0
  obtain ⟨l0, rfl, hc0, hm0, hr0, hg0⟩ : ∃ xs : List (Int), xs.length = n0 ∧ n0 ≤ c0 ∧ n0 ≤ maxLen ∧ Kd.C (Kd.int .u8) W A0 xs.length xs ∧ ∀ y0 ∈ xs, (Lit.int .u8 y0).wf = true := by
    obtain ⟨fuel, hf⟩ := h0
    exact Opn.slice_row Try.underlying31 (by kernel_rfl) (Opn.opens_int Try.underlying5) hf
  obtain ⟨k, hk⟩ := Pure.FnCriticalPath l0 y0 ⟨hm0, hg0⟩
  clear hA0 hval0 hsz0 hsz
  refine (laws_FnCriticalPath.calls k A0 c0 l0 true W hr0 hc0 hk).mono fun e W' ⟨he, hd⟩ => ?_
  have bel := hd
  subst he
  exact ⟨_, rfl, _, _, _, [], _, [], hW', trodAll_mk1 (shut_bool Try.underlying4 _), (trodAll_cons_mk (Below.trod laidOut (by kernel_rfl) (of_decide_eq_true (by kernel_rfl)) k0 bel lt0) trodAll_mk0), rfl, bel.frame _, fun h => by cases h⟩
theorem closed : joinedFacts Try.prog 15 Try.f15 Rows.fnCriticalPathSpec Rows.fnCriticalPathRow = true := by
  simp only [joinedFacts, Head.enter, Head.lifts, Head.make]
  kernel_rfl
theorem named : Try.prog.funcNamed Rows.fnCriticalPathRow.func = some 15 := by kernel_rfl
theorem wrapped : Try.f15.isWrapper Try.prog Rows.fnCriticalPathRow.wrapper Rows.fnCriticalPathRow.mainSum := by unfold Func.isWrapper; first | (rw [if_pos (by decide +kernel)]; kernel_rfl) | (rw [if_neg (by decide +kernel)]; exact ⟨rfl, rfl⟩)
theorem over : Rows.fnCriticalPathRow.holds Try.pinned (OpenSpec.ofChange Rows.fnCriticalPathSpec) :=
  OpenClaim.holds_of_wide 15 Try.f15 rfl rfl rfl rfl rfl rfl rfl ⟨rfl, rfl, rfl, rfl, rfl⟩ rfl rfl rfl rfl rfl named Try.func15 closed
    (of_decide_eq_true (by kernel_rfl)) wrapped
    (fun os started H enc _ => lifted os started H enc)
theorem proved : Rows.FnCriticalPathSaid := over
#print axioms proved
end Go.Proofs.Ytkmpcmhkfnoeiaa.fnCriticalPath
namespace Go.Proofs.Ytkmpcmhkfnoeiaa
/-- The row, under a short name, for the claim. -/
theorem fnCriticalPath_holds : Rows.FnCriticalPathSaid := fnCriticalPath.proved
end Go.Proofs.Ytkmpcmhkfnoeiaa
