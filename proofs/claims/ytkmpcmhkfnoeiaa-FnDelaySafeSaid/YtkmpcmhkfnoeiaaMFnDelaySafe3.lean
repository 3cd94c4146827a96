/- The law FnDelaySafe for every input, part 3 of its proof: what the program's functions answer, and the plain law. No condition. -/
import Derived.Test.YtkmpcmhkfnoeiaaMFnDelaySafe1
import Derived.Test.YtkmpcmhkfnoeiaaMFnDelaySafe2
import Derived.Test.YtkmpcmhkfnoeiaaWMore
import Derived.Laws.BitsLemmas
import Derived.Test.YtkmpcmhkfnoeiaaWWords
import Derived.SizedLaws
import Derived.ChangeSlices
import Derived.ChangeArms
import Derived.WideShapes
import Derived.Deep.Slices
import Derived.OpenShut
import Derived.Test.YtkmpcmhkfnoeiaaRows
import Derived.JoinedOf
import Derived.KernelRfl
import Derived.WalkKit
import Derived.ProofKit
import Derived.ShutString
import Derived.ChangeOld
import Derived.Below
-- Laid by a program of this work.
namespace Go.Proofs.Ytkmpcmhkfnoeiaa.P
open Go.RowKit Go.Proofs.YtkmpcmhkfnoeiaaW.PrintWords Go.Proofs.YtkmpcmhkfnoeiaaW.PrintLast Go.Proofs.YtkmpcmhkfnoeiaaW.PrintMore
attribute [local go_sem] max2_int min2_int max_two min_two max_three min_three max_four min_four   -- for this text's walks alone
set_option linter.unusedVariables false
set_option linter.unusedSimpArgs false

/-! ### laws_FnDelaySafe: function 10 -/
mutual
def laws_FnDelaySafe.j0 : Nat → List Int → List Int → Int → Bool → Option (Bool)
  | 0, _, _, _, _ => none
  | k + 1, x5, x6, x7, x39 => if x39 = true then ((laws_alive.f).bind fun t591 => (some t591)) else (laws_FnDelaySafe.l0 k x5 x6 x7 0)
def laws_FnDelaySafe.l0 : Nat → List Int → List Int → Int → Int → Option (Bool)
  | 0, _, _, _, _ => none
  | k + 1, x5, x6, x7, x8 => if (wrap64 (x8 + x7)) < (x6.length : Int) then (laws_FnDelaySafe.l1 k x5 x6 x7 x8 0 (wrap64 (x8 + 1))) else (some true)
def laws_FnDelaySafe.l1 : Nat → List Int → List Int → Int → Int → Int → Int → Option (Bool)
  | 0, _, _, _, _, _, _ => none
  | k + 1, x5, x6, x7, x8, x9, x10 => if x10 ≤ (wrap64 (x8 + x7)) then (if 0 ≤ x10 then (if x10 < (x5.length : Int) then (laws_FnDelaySafe.l1 k x5 x6 x7 x8 (wrap64 (x9 + (rd x5 x10))) (wrap64 (x10 + 1))) else (none)) else (none)) else (if 0 ≤ (wrap64 (x8 + x7)) then (if (wrap64 (x8 + x7)) < (x6.length : Int) then (if (rd x6 (wrap64 (x8 + x7))) > x9 then (some false) else (laws_FnDelaySafe.l0 k x5 x6 x7 (wrap64 (x8 + 1)))) else (none)) else (none))
end
def laws_FnDelaySafe.f (k : Nat) (l0 : List Int) : Option (Bool) := if (l0.length : Int) > 1048576 then (some true) else ((spec_DrawTraffic.f k l0).bind fun bt573 => ((impl_Backlogs.f k bt573.2.2.1 bt573.2.2.2.1 bt573.2.2.2.2).bind fun t582 => ((spec_Backlogs.f k bt573.2.2.1 bt573.2.2.2.1 bt573.2.2.2.2).bind fun t585 => ((laws_sameInts.f k t582 t585).bind fun t588 => (if t588 = true then ((impl_DelayBound.f bt573.1 bt573.2.1 bt573.2.2.1 bt573.2.2.2.1).bind fun t589 => (if t589 < 0 then (laws_FnDelaySafe.j0 k bt573.2.2.2.2 t582 t589 true) else ((impl_Conforms.f k bt573.1 bt573.2.1 bt573.2.2.2.2).bind fun t590 => (laws_FnDelaySafe.j0 k bt573.2.2.2.2 t582 t589 (!t590))))) else (some false))))))
theorem laws_FnDelaySafe.mono_l : ∀ k, (∀ y0 y1 y2 y3, LeO (laws_FnDelaySafe.j0 k y0 y1 y2 y3) (laws_FnDelaySafe.j0 (k + 1) y0 y1 y2 y3)) ∧ (∀ y0 y1 y2 y3, LeO (laws_FnDelaySafe.l0 k y0 y1 y2 y3) (laws_FnDelaySafe.l0 (k + 1) y0 y1 y2 y3)) ∧ (∀ y0 y1 y2 y3 y4 y5, LeO (laws_FnDelaySafe.l1 k y0 y1 y2 y3 y4 y5) (laws_FnDelaySafe.l1 (k + 1) y0 y1 y2 y3 y4 y5))
  | 0 => ⟨fun _ _ _ _ r h => by simp [laws_FnDelaySafe.j0] at h, fun _ _ _ _ r h => by simp [laws_FnDelaySafe.l0] at h, fun _ _ _ _ _ _ r h => by simp [laws_FnDelaySafe.l1] at h⟩
  | k + 1 => by
    obtain ⟨ih0, ih1, ih2⟩ := laws_FnDelaySafe.mono_l k
    refine ⟨?_, ?_, ?_⟩
    · intro y0 y1 y2 y3
      unfold laws_FnDelaySafe.j0
      repeat' first
      | (with_reducible exact ih0 _ _ _ _)
      | (with_reducible exact ih1 _ _ _ _)
      | (with_reducible exact ih2 _ _ _ _ _ _)
      | (with_reducible exact impl_Backlogs.mono _ _ _ _)
      | (with_reducible exact impl_Conforms.mono _ _ _ _)
      | (with_reducible exact laws_sameInts.mono _ _ _)
      | (with_reducible exact spec_Backlogs.mono _ _ _ _)
      | (with_reducible exact spec_DrawTraffic.mono _ _)
      | (with_reducible exact LeO.refl _)
      | (with_reducible exact LeO.none _)
      | (with_reducible refine LeO.ite ?_ ?_)
      | (with_reducible refine LeO.bind ?_ (fun _ => ?_))
      | exact ih0 _ _ _ _
      | exact ih1 _ _ _ _
      | exact ih2 _ _ _ _ _ _
      | exact impl_Backlogs.mono _ _ _ _
      | exact impl_Conforms.mono _ _ _ _
      | exact laws_sameInts.mono _ _ _
      | exact spec_Backlogs.mono _ _ _ _
      | exact spec_DrawTraffic.mono _ _
      | exact LeO.none _
      | refine LeO.ite ?_ ?_
      | refine LeO.bind ?_ (fun _ => ?_)
    · intro y0 y1 y2 y3
      unfold laws_FnDelaySafe.l0
      repeat' first
      | (with_reducible exact ih0 _ _ _ _)
      | (with_reducible exact ih1 _ _ _ _)
      | (with_reducible exact ih2 _ _ _ _ _ _)
      | (with_reducible exact impl_Backlogs.mono _ _ _ _)
      | (with_reducible exact impl_Conforms.mono _ _ _ _)
      | (with_reducible exact laws_sameInts.mono _ _ _)
      | (with_reducible exact spec_Backlogs.mono _ _ _ _)
      | (with_reducible exact spec_DrawTraffic.mono _ _)
      | (with_reducible exact LeO.refl _)
      | (with_reducible exact LeO.none _)
      | (with_reducible refine LeO.ite ?_ ?_)
      | (with_reducible refine LeO.bind ?_ (fun _ => ?_))
      | exact ih0 _ _ _ _
      | exact ih1 _ _ _ _
      | exact ih2 _ _ _ _ _ _
      | exact impl_Backlogs.mono _ _ _ _
      | exact impl_Conforms.mono _ _ _ _
      | exact laws_sameInts.mono _ _ _
      | exact spec_Backlogs.mono _ _ _ _
      | exact spec_DrawTraffic.mono _ _
      | exact LeO.none _
      | refine LeO.ite ?_ ?_
      | refine LeO.bind ?_ (fun _ => ?_)
    · intro y0 y1 y2 y3 y4 y5
      unfold laws_FnDelaySafe.l1
      repeat' first
      | (with_reducible exact ih0 _ _ _ _)
      | (with_reducible exact ih1 _ _ _ _)
      | (with_reducible exact ih2 _ _ _ _ _ _)
      | (with_reducible exact impl_Backlogs.mono _ _ _ _)
      | (with_reducible exact impl_Conforms.mono _ _ _ _)
      | (with_reducible exact laws_sameInts.mono _ _ _)
      | (with_reducible exact spec_Backlogs.mono _ _ _ _)
      | (with_reducible exact spec_DrawTraffic.mono _ _)
      | (with_reducible exact LeO.refl _)
      | (with_reducible exact LeO.none _)
      | (with_reducible refine LeO.ite ?_ ?_)
      | (with_reducible refine LeO.bind ?_ (fun _ => ?_))
      | exact ih0 _ _ _ _
      | exact ih1 _ _ _ _
      | exact ih2 _ _ _ _ _ _
      | exact impl_Backlogs.mono _ _ _ _
      | exact impl_Conforms.mono _ _ _ _
      | exact laws_sameInts.mono _ _ _
      | exact spec_Backlogs.mono _ _ _ _
      | exact spec_DrawTraffic.mono _ _
      | exact LeO.none _
      | refine LeO.ite ?_ ?_
      | refine LeO.bind ?_ (fun _ => ?_)
theorem laws_FnDelaySafe.mono : ∀ a0 k, LeO (laws_FnDelaySafe.f k a0) (laws_FnDelaySafe.f (k + 1) a0) := by
  intro a0 k
  obtain ⟨ih0, ih1, ih2⟩ := laws_FnDelaySafe.mono_l k
  unfold laws_FnDelaySafe.f
  repeat' first
      | (with_reducible exact ih0 _ _ _ _)
      | (with_reducible exact ih1 _ _ _ _)
      | (with_reducible exact ih2 _ _ _ _ _ _)
      | (with_reducible exact impl_Backlogs.mono _ _ _ _)
      | (with_reducible exact impl_Conforms.mono _ _ _ _)
      | (with_reducible exact laws_sameInts.mono _ _ _)
      | (with_reducible exact spec_Backlogs.mono _ _ _ _)
      | (with_reducible exact spec_DrawTraffic.mono _ _)
      | (with_reducible exact LeO.refl _)
      | (with_reducible exact LeO.none _)
      | (with_reducible refine LeO.ite ?_ ?_)
      | (with_reducible refine LeO.bind ?_ (fun _ => ?_))
      | exact ih0 _ _ _ _
      | exact ih1 _ _ _ _
      | exact ih2 _ _ _ _ _ _
      | exact impl_Backlogs.mono _ _ _ _
      | exact impl_Conforms.mono _ _ _ _
      | exact laws_sameInts.mono _ _ _
      | exact spec_Backlogs.mono _ _ _ _
      | exact spec_DrawTraffic.mono _ _
      | exact LeO.none _
      | refine LeO.ite ?_ ?_
      | refine LeO.bind ?_ (fun _ => ?_)
set_option maxHeartbeats 8000000 in
set_option maxRecDepth 100000 in
theorem laws_FnDelaySafe.calls (k : Nat) (A0 : Option Addr) (c0 : Nat) (l0 : List Int) (r : Bool) (w : World) (hr0 : Kd.C (Kd.int .u8) w A0 l0.length l0) (hc0 : l0.length ≤ c0) (h : laws_FnDelaySafe.f k l0 = some r) :
    Calls Try.prog 10 #[.slice A0 l0.length c0] w fun e w' => e = .returned (.bool r) ∧ Below w.heap.size w w' := by
  have hu41 := Try.underlying41
  have hu51 := Try.underlying51
  have HR0 := Aside0.mk hr0
  have HC0 := Aside0.mk hc0
  clear hr0 hc0
  have HB := Aside0.mk (Below.refl w.heap.size w)
  have H : (if (l0.length : Int) > 1048576 then (some true) else ((spec_DrawTraffic.f k l0).bind fun bt573 => ((impl_Backlogs.f k bt573.2.2.1 bt573.2.2.2.1 bt573.2.2.2.2).bind fun t582 => ((spec_Backlogs.f k bt573.2.2.1 bt573.2.2.2.1 bt573.2.2.2.2).bind fun t585 => ((laws_sameInts.f k t582 t585).bind fun t588 => (if t588 = true then ((impl_DelayBound.f bt573.1 bt573.2.1 bt573.2.2.1 bt573.2.2.2.1).bind fun t589 => (if t589 < 0 then (laws_FnDelaySafe.j0 k bt573.2.2.2.2 t582 t589 true) else ((impl_Conforms.f k bt573.1 bt573.2.1 bt573.2.2.2.2).bind fun t590 => (laws_FnDelaySafe.j0 k bt573.2.2.2.2 t582 t589 (!t590))))) else (some false))))))) = some r := h
  clear h
  by_cases c2 : (l0.length : Int) > 1048576
  · rw [if_pos c2] at H
    have c2b0 : decide (1048576 < (l0.length : Int)) = true := decide_eq_true c2
    have c2b1 : decide (1048576 < l0.length) = true := decide_eq_true (by omega)
    clear c2
    obtain rfl := Option.some.inj H
    go_enter Try.func10, Try.ntmps10
    go_wp2
    go_ret
    exact ⟨by first | rfl | (simp [errW_none, errW_some] <;> rfl) | (simp [*, errW_none, errW_some] <;> rfl), by repeat (first | (with_reducible first | exact HB.out | apply below_alloc | apply pw_below_drewN | apply below_drew1) | exact HB.out)⟩
  · rw [if_neg c2] at H
    have c2b0 : decide (1048576 < (l0.length : Int)) = false := decide_eq_false c2
    have c2b1 : decide (1048576 < l0.length) = false := decide_eq_false (by omega)
    clear c2
    replace H := Option.bind_eq_some_iff.mp H
    obtain ⟨⟨t573, t574, t575, t576, t577⟩, A30, H⟩ := H
    replace H : ((impl_Backlogs.f k t575 t576 t577).bind fun t582 => ((spec_Backlogs.f k t575 t576 t577).bind fun t585 => ((laws_sameInts.f k t582 t585).bind fun t588 => (if t588 = true then ((impl_DelayBound.f t573 t574 t575 t576).bind fun t589 => (if t589 < 0 then (laws_FnDelaySafe.j0 k t577 t582 t589 true) else ((impl_Conforms.f k t573 t574 t577).bind fun t590 => (laws_FnDelaySafe.j0 k t577 t582 t589 (!t590))))) else (some false))))) = some r := H
    have A3 := Aside0.mk A30
    clear A30
    replace H := Option.bind_eq_some_iff.mp H
    obtain ⟨t582, A40, H⟩ := H
    replace H : ((spec_Backlogs.f k t575 t576 t577).bind fun t585 => ((laws_sameInts.f k t582 t585).bind fun t588 => (if t588 = true then ((impl_DelayBound.f t573 t574 t575 t576).bind fun t589 => (if t589 < 0 then (laws_FnDelaySafe.j0 k t577 t582 t589 true) else ((impl_Conforms.f k t573 t574 t577).bind fun t590 => (laws_FnDelaySafe.j0 k t577 t582 t589 (!t590))))) else (some false)))) = some r := H
    have A4 := Aside0.mk A40
    clear A40
    replace H := Option.bind_eq_some_iff.mp H
    obtain ⟨t585, A50, H⟩ := H
    replace H : ((laws_sameInts.f k t582 t585).bind fun t588 => (if t588 = true then ((impl_DelayBound.f t573 t574 t575 t576).bind fun t589 => (if t589 < 0 then (laws_FnDelaySafe.j0 k t577 t582 t589 true) else ((impl_Conforms.f k t573 t574 t577).bind fun t590 => (laws_FnDelaySafe.j0 k t577 t582 t589 (!t590))))) else (some false))) = some r := H
    have A5 := Aside0.mk A50
    clear A50
    replace H := Option.bind_eq_some_iff.mp H
    obtain ⟨t588, A60, H⟩ := H
    replace H : (if t588 = true then ((impl_DelayBound.f t573 t574 t575 t576).bind fun t589 => (if t589 < 0 then (laws_FnDelaySafe.j0 k t577 t582 t589 true) else ((impl_Conforms.f k t573 t574 t577).bind fun t590 => (laws_FnDelaySafe.j0 k t577 t582 t589 (!t590))))) else (some false)) = some r := H
    have A6 := Aside0.mk A60
    clear A60
    by_cases c7 : t588 = true
    · subst c7
      have H1 : ((impl_DelayBound.f t573 t574 t575 t576).bind fun t589 => (if t589 < 0 then (laws_FnDelaySafe.j0 k t577 t582 t589 true) else ((impl_Conforms.f k t573 t574 t577).bind fun t590 => (laws_FnDelaySafe.j0 k t577 t582 t589 (!t590))))) = some r := by rw [if_pos rfl] at H; exact H
      clear H
      have H := H1
      clear H1
      replace H := Option.bind_eq_some_iff.mp H
      obtain ⟨t589, A80, H⟩ := H
      replace H : (if t589 < 0 then (laws_FnDelaySafe.j0 k t577 t582 t589 true) else ((impl_Conforms.f k t573 t574 t577).bind fun t590 => (laws_FnDelaySafe.j0 k t577 t582 t589 (!t590)))) = some r := H
      have A8 := Aside0.mk A80
      clear A80
      have HC9 := Aside0.mk H
      clear H
      go_enter Try.func10, Try.ntmps10
      go_upto_region 8 with (first | ((with_reducible refine gate_callee (f := 37) rfl ?_); refine goesL_ (some 16) rfl rfl Try.func37 (by kernel_rfl) rfl #[.slice A0 l0.length c0] rfl (by (try simp only [List.map_toArray, List.map_cons, List.map_nil]); first | done | rfl | (simp only [List.length_drop, List.length_take]; rfl)) ?_; (with_reducible refine (spec_DrawTraffic.calls k _ _ l0 t573 t574 t575 t576 t577 _ ?side1 ?side2 A3.out).mono ?_); (case side1 => repeat (first | exact HR0.out | (with_reducible refine Kd.C_alloc ?_ _) | (with_reducible refine Kd.C_drewN ?_ _) | (with_reducible refine Kd.C_drew ?_))); (case side2 => exact HC0.out); rintro e w10 ⟨v578, rfl, ho0, hb⟩; refine ⟨_, rfl, ?_⟩; have n0_ := Aside0.mk (Kd.R_lower ho0 (below_size (by repeat (first | (with_reducible first | exact HB.out | apply below_alloc | apply pw_below_drewN | apply below_drew1) | exact HB.out)))); have n1_ := Aside0.mk (below_step (by repeat (first | (with_reducible first | exact HB.out | apply below_alloc | apply pw_below_drewN | apply below_drew1) | exact HB.out)) hb); clear HB; have HO579 := n0_; have HB := n1_; clear n0_ n1_; (try clear hb); (try clear hb2); (try clear hk); (try clear hi); (try clear ho0)) | ((with_reducible refine gate_dst (N := 3) rfl ?_); refine box_event ?hg (N := 3) ?hd (cs := #[.int .i64 0, .int .i64 0]) (t := 41) ?hr ?_; (case hd => rfl); (case hg => rfl); (case hr => first | (go_simp; done) | (go_simp; rfl)); intro gb580 hg w11 hbox hb; have n0_ := Aside0.mk (Kd.R_below (by (with_reducible repeat (first | apply Kd.R_alloc | apply Kd.R_drewN | apply Kd.R_drew)); exact HO579.out) hb); have n1_ := Aside0.mk (below_step (by repeat (first | (with_reducible first | exact HB.out | apply below_alloc | apply pw_below_drewN | apply below_drew1) | exact HB.out)) hb); have n2_ := Aside0.mk (hbox); have n3_ := Aside0.mk ((by rw [hg]; exact (below_size (by repeat (first | (with_reducible first | exact HB.out | apply below_alloc | apply pw_below_drewN | apply below_drew1) | exact HB.out))) : w.heap.size ≤ gb580)); have n4_ := Aside0.mk ((by rw [hg]; exact (below_size (by repeat (first | (with_reducible first | exact HB.out | apply below_alloc | apply pw_below_drewN | apply below_drew1) | exact HB.out))) : w.heap.size ≤ gb580)); clear HO579; clear HB; have HO579 := n0_; have HB := n1_; have BK580 := n2_; have GW580 := n3_; have GE580 := n4_; clear n0_ n1_ n2_ n3_ n4_; clear hb hbox hg) | ((with_reducible refine gate_dst (N := 4) rfl ?_); refine box_event ?hg (N := 4) ?hd (cs := #[.int .i64 0, .int .i64 0]) (t := 51) ?hr ?_; (case hd => rfl); (case hg => rfl); (case hr => first | (go_simp; done) | (go_simp; rfl)); intro gb581 hg w12 hbox hb; have n0_ := Aside0.mk (Kd.R_below (by (with_reducible repeat (first | apply Kd.R_alloc | apply Kd.R_drewN | apply Kd.R_drew)); exact HO579.out) hb); have n1_ := Aside0.mk (blk_below (g := gb580) (o := .cells #[.int .i64 0, .int .i64 0] 41 (0, 0)) (by (with_reducible repeat (first | refine blk_drewN ?_ _ | refine blk_drew ?_ | refine blk_alloc ?_ _)); exact BK580.out) hb); have n2_ := Aside0.mk (below_step (by repeat (first | (with_reducible first | exact HB.out | apply below_alloc | apply pw_below_drewN | apply below_drew1 | refine below_set ?_ GE580.out) | exact HB.out)) hb); have n3_ := Aside0.mk (hbox); have n4_ := Aside0.mk ((by rw [hg]; exact (below_size (by repeat (first | (with_reducible first | exact HB.out | apply below_alloc | apply pw_below_drewN | apply below_drew1 | refine below_set ?_ GE580.out) | exact HB.out))) : w.heap.size ≤ gb581)); have n5_ := Aside0.mk ((by rw [hg]; exact (below_size (by repeat (first | (with_reducible first | exact HB.out | apply below_alloc | apply pw_below_drewN | apply below_drew1 | refine below_set ?_ GE580.out) | exact HB.out))) : w.heap.size ≤ gb581)); have n6_ := Aside0.mk ((by rw [hg]; exact Nat.ne_of_lt (blk_lt (g := gb580) (o := .cells #[.int .i64 0, .int .i64 0] 41 (0, 0)) (by (with_reducible repeat (first | refine blk_drewN ?_ _ | refine blk_drew ?_ | refine blk_alloc ?_ _)); exact BK580.out)) : gb580 ≠ gb581)); have n7_ := Aside0.mk ((by rw [hg]; exact Nat.ne_of_gt (blk_lt (g := gb580) (o := .cells #[.int .i64 0, .int .i64 0] 41 (0, 0)) (by (with_reducible repeat (first | refine blk_drewN ?_ _ | refine blk_drew ?_ | refine blk_alloc ?_ _)); exact BK580.out)) : gb581 ≠ gb580)); clear HO579; clear BK580; clear HB; have HO579 := n0_; have BK580 := n1_; have HB := n2_; have BK581 := n3_; have GW581 := n4_; have GE581 := n5_; have NB580_581 := n6_; have NB581_580 := n7_; clear n0_ n1_ n2_ n3_ n4_ n5_ n6_ n7_; clear hb hbox hg; have hnb13 := NB580_581.out; have hnc13 := NB581_580.out; have hcz14_0 : w12.cell? ⟨gb580, 0, none⟩ = some (.int .i64 0) := (blk_cell BK580.out 0).trans rfl; have hcz14_1 : w12.cell? ⟨gb580, 1, none⟩ = some (.int .i64 0) := (blk_cell BK580.out 1).trans rfl; have hfz14_0 := blk_frozen BK580.out 0; have hfz14_1 := blk_frozen BK580.out 1; have hcz15_0 : w12.cell? ⟨gb581, 0, none⟩ = some (.int .i64 0) := (blk_cell BK581.out 0).trans rfl; have hcz15_1 : w12.cell? ⟨gb581, 1, none⟩ = some (.int .i64 0) := (blk_cell BK581.out 1).trans rfl; have hfz15_0 := blk_frozen BK581.out 0; have hfz15_1 := blk_frozen BK581.out 1; obtain ⟨Ao16, co16, eo16⟩ := Kd.R_slice HO579.out; subst eo16) | ((with_reducible refine gate_callee (f := 32) rfl ?_); refine goesL_ (some 22) rfl rfl Try.func32 (by kernel_rfl) rfl #[.agg #[.int .i64 t575, .int .i64 t576], .slice Ao16 t577.length co16] rfl (by (try simp only [List.map_toArray, List.map_cons, List.map_nil]); first | done | rfl | (simp only [List.length_drop, List.length_take]; rfl)) ?_; (with_reducible refine (impl_Backlogs.calls k t575 t576 _ _ t577 t582 _ ?side1 ?side2 A4.out).mono ?_); (case side1 => refine (Kd.R_reads' (e := 3) (base := w.heap.size) (ok := fun k_ => True) (n := t577.length) (c := co16) ?_).2.2; exact (by (with_reducible repeat (first | apply Kd.R_alloc | apply Kd.R_drewN | apply Kd.R_drew)); exact (Kd.R_mono (Kd.R_mono (Kd.R_far (p := ⟨gb581, 1, none⟩) (Kd.R_far (p := ⟨gb581, 0, none⟩) (Kd.R_far (p := ⟨gb580, 1, none⟩) (Kd.R_far (p := ⟨gb580, 0, none⟩) (Kd.R_types (Kd.R_types HO579.out BK580.out (by decide)) BK581.out (by decide)) (fun _ hk => hk.1.2) (.int .i64 t573)) (fun _ hk => hk.1.2) (.int .i64 t574)) (fun _ hk => hk.2) (.int .i64 t575)) (fun _ hk => hk.2) (.int .i64 t576)) (fun _ h_ => h_.1)) (fun _ h_ => h_.1)))); (case side2 => exact (Kd.R_reads' HO579.out).2.1); rintro e w17 ⟨v583, rfl, ho0, hb⟩; refine ⟨_, rfl, ?_⟩; have n0_ := Aside0.mk (Kd.R_elder' (by (with_reducible repeat (first | apply Kd.R_alloc | apply Kd.R_drewN | apply Kd.R_drew)); exact (Kd.R_mono (Kd.R_mono (Kd.R_far (p := ⟨gb581, 1, none⟩) (Kd.R_far (p := ⟨gb581, 0, none⟩) (Kd.R_far (p := ⟨gb580, 1, none⟩) (Kd.R_far (p := ⟨gb580, 0, none⟩) (Kd.R_types (Kd.R_types HO579.out BK580.out (by decide)) BK581.out (by decide)) (fun _ hk => hk.1.2) (.int .i64 t573)) (fun _ hk => hk.1.2) (.int .i64 t574)) (fun _ hk => hk.2) (.int .i64 t575)) (fun _ hk => hk.2) (.int .i64 t576)) (fun _ h_ => h_.1)) (fun _ h_ => h_.1))) (Kd.R_base ho0) hb); have n1_ := Aside0.mk (Kd.R_lower (Kd.R_new' ho0 (Kd.R_lt (by (with_reducible repeat (first | apply Kd.R_alloc | apply Kd.R_drewN | apply Kd.R_drew)); exact (Kd.R_mono (Kd.R_mono (Kd.R_far (p := ⟨gb581, 1, none⟩) (Kd.R_far (p := ⟨gb581, 0, none⟩) (Kd.R_far (p := ⟨gb580, 1, none⟩) (Kd.R_far (p := ⟨gb580, 0, none⟩) (Kd.R_types (Kd.R_types HO579.out BK580.out (by decide)) BK581.out (by decide)) (fun _ hk => hk.1.2) (.int .i64 t573)) (fun _ hk => hk.1.2) (.int .i64 t574)) (fun _ hk => hk.2) (.int .i64 t575)) (fun _ hk => hk.2) (.int .i64 t576)) (fun _ h_ => h_.1)) (fun _ h_ => h_.1))))) (below_size (by repeat (first | (with_reducible first | exact HB.out | apply below_alloc | apply pw_below_drewN | apply below_drew1 | refine below_set ?_ GE580.out | refine below_set ?_ GE581.out) | exact HB.out)))); have n2_ := Aside0.mk (blk_below (g := gb580) (o := .cells #[.int .i64 t573, .int .i64 t574] 41 (0, 0)) (by (with_reducible repeat (first | refine blk_drewN ?_ _ | refine blk_drew ?_ | refine blk_alloc ?_ _)); refine blk_far ?_ NB580_581.out _; (with_reducible repeat (first | refine blk_drewN ?_ _ | refine blk_drew ?_ | refine blk_alloc ?_ _)); refine blk_far ?_ NB580_581.out _; (with_reducible repeat (first | refine blk_drewN ?_ _ | refine blk_drew ?_ | refine blk_alloc ?_ _)); refine blk_put (cs := #[.int .i64 t573, .int .i64 0]) ?_ 1 _ rfl; (with_reducible repeat (first | refine blk_drewN ?_ _ | refine blk_drew ?_ | refine blk_alloc ?_ _)); refine blk_put (cs := #[.int .i64 0, .int .i64 0]) ?_ 0 _ rfl; (with_reducible repeat (first | refine blk_drewN ?_ _ | refine blk_drew ?_ | refine blk_alloc ?_ _)); exact BK580.out) hb); have n3_ := Aside0.mk (blk_below (g := gb581) (o := .cells #[.int .i64 t575, .int .i64 t576] 51 (0, 0)) (by (with_reducible repeat (first | refine blk_drewN ?_ _ | refine blk_drew ?_ | refine blk_alloc ?_ _)); refine blk_put (cs := #[.int .i64 t575, .int .i64 0]) ?_ 1 _ rfl; (with_reducible repeat (first | refine blk_drewN ?_ _ | refine blk_drew ?_ | refine blk_alloc ?_ _)); refine blk_put (cs := #[.int .i64 0, .int .i64 0]) ?_ 0 _ rfl; (with_reducible repeat (first | refine blk_drewN ?_ _ | refine blk_drew ?_ | refine blk_alloc ?_ _)); refine blk_far ?_ NB581_580.out _; (with_reducible repeat (first | refine blk_drewN ?_ _ | refine blk_drew ?_ | refine blk_alloc ?_ _)); refine blk_far ?_ NB581_580.out _; (with_reducible repeat (first | refine blk_drewN ?_ _ | refine blk_drew ?_ | refine blk_alloc ?_ _)); exact BK581.out) hb); have n4_ := Aside0.mk (below_step (by repeat (first | (with_reducible first | exact HB.out | apply below_alloc | apply pw_below_drewN | apply below_drew1 | refine below_set ?_ GE580.out | refine below_set ?_ GE581.out) | exact HB.out)) hb); clear HO579; clear BK580; clear BK581; clear HB; have HO579 := n0_; have HO584 := n1_; have BK580 := n2_; have BK581 := n3_; have HB := n4_; clear n0_ n1_ n2_ n3_ n4_; (try clear hb); (try clear hb2); (try clear hk); (try clear hi); (try clear ho0); have hcz18_0 : w17.cell? ⟨gb581, 0, none⟩ = some (.int .i64 t575) := (blk_cell BK581.out 0).trans rfl; have hcz18_1 : w17.cell? ⟨gb581, 1, none⟩ = some (.int .i64 t576) := (blk_cell BK581.out 1).trans rfl; have hfz18_0 := blk_frozen BK581.out 0; have hfz18_1 := blk_frozen BK581.out 1) | ((with_reducible refine gate_callee (f := 30) rfl ?_); refine goesL_ (some 26) rfl rfl Try.func30 (by kernel_rfl) rfl #[.agg #[.int .i64 t575, .int .i64 t576], .slice Ao16 t577.length co16] rfl (by (try simp only [List.map_toArray, List.map_cons, List.map_nil]); first | done | rfl | (simp only [List.length_drop, List.length_take]; rfl)) ?_; (with_reducible refine (spec_Backlogs.calls k t575 t576 _ _ t577 t585 _ ?side1 ?side2 A5.out).mono ?_); (case side1 => repeat (first | exact (Kd.R_reads' HO579.out).2.2 | (with_reducible refine Kd.C_alloc ?_ _) | (with_reducible refine Kd.C_drewN ?_ _) | (with_reducible refine Kd.C_drew ?_))); (case side2 => exact (Kd.R_reads' HO579.out).2.1); rintro e w19 ⟨v586, rfl, ho0, hb⟩; refine ⟨_, rfl, ?_⟩; have n0_ := Aside0.mk (Kd.R_elder' (by (with_reducible repeat (first | apply Kd.R_alloc | apply Kd.R_drewN | apply Kd.R_drew)); exact HO579.out) (Kd.R_base ho0) hb); have n1_ := Aside0.mk (Kd.R_elder' (by (with_reducible repeat (first | apply Kd.R_alloc | apply Kd.R_drewN | apply Kd.R_drew)); exact HO584.out) (Kd.R_base ho0) hb); have n2_ := Aside0.mk (Kd.R_lower (Kd.R_new' (Kd.R_new' ho0 (Kd.R_lt (by (with_reducible repeat (first | apply Kd.R_alloc | apply Kd.R_drewN | apply Kd.R_drew)); exact HO579.out))) (Kd.R_lt (by (with_reducible repeat (first | apply Kd.R_alloc | apply Kd.R_drewN | apply Kd.R_drew)); exact HO584.out))) (below_size (by repeat (first | (with_reducible first | exact HB.out | apply below_alloc | apply pw_below_drewN | apply below_drew1 | refine below_set ?_ GE580.out | refine below_set ?_ GE581.out) | exact HB.out)))); have n3_ := Aside0.mk (blk_below (g := gb580) (o := .cells #[.int .i64 t573, .int .i64 t574] 41 (0, 0)) (by (with_reducible repeat (first | refine blk_drewN ?_ _ | refine blk_drew ?_ | refine blk_alloc ?_ _)); exact BK580.out) hb); have n4_ := Aside0.mk (blk_below (g := gb581) (o := .cells #[.int .i64 t575, .int .i64 t576] 51 (0, 0)) (by (with_reducible repeat (first | refine blk_drewN ?_ _ | refine blk_drew ?_ | refine blk_alloc ?_ _)); exact BK581.out) hb); have n5_ := Aside0.mk (below_step (by repeat (first | (with_reducible first | exact HB.out | apply below_alloc | apply pw_below_drewN | apply below_drew1 | refine below_set ?_ GE580.out | refine below_set ?_ GE581.out) | exact HB.out)) hb); clear HO579; clear HO584; clear BK580; clear BK581; clear HB; have HO579 := n0_; have HO584 := n1_; have HO587 := n2_; have BK580 := n3_; have BK581 := n4_; have HB := n5_; clear n0_ n1_ n2_ n3_ n4_ n5_; (try clear hb); (try clear hb2); (try clear hk); (try clear hi); (try clear ho0); obtain ⟨Ao20, co20, eo20⟩ := Kd.R_slice HO584.out; subst eo20; obtain ⟨Ao21, co21, eo21⟩ := Kd.R_slice HO587.out; subst eo21) | ((with_reducible refine gate_callee (f := 36) rfl ?_); refine goesL_ (some 27) rfl rfl Try.func36 (by kernel_rfl) rfl #[.slice Ao20 t582.length co20, .slice Ao21 t585.length co21] rfl (by (try simp only [List.map_toArray, List.map_cons, List.map_nil]); first | done | rfl | (simp only [List.length_drop, List.length_take]; rfl)) ?_; (with_reducible refine (laws_sameInts.calls k _ _ t582 _ _ t585 true _ ?side1 ?side2 ?side3 ?side4 A6.out).mono ?_); (case side1 => repeat (first | exact (Kd.R_reads' HO584.out).2.2 | (with_reducible refine Kd.C_alloc ?_ _) | (with_reducible refine Kd.C_drewN ?_ _) | (with_reducible refine Kd.C_drew ?_))); (case side2 => exact (Kd.R_reads' HO584.out).2.1); (case side3 => repeat (first | exact (Kd.R_reads' HO587.out).2.2 | (with_reducible refine Kd.C_alloc ?_ _) | (with_reducible refine Kd.C_drewN ?_ _) | (with_reducible refine Kd.C_drew ?_))); (case side4 => exact (Kd.R_reads' HO587.out).2.1); rintro e w' ⟨rfl, ⟨nd, rfl⟩⟩; refine ⟨_, rfl, ?_⟩; have hcz22_0 : w19.cell? ⟨gb580, 0, none⟩ = some (.int .i64 t573) := (blk_cell BK580.out 0).trans rfl; have hcz22_1 : w19.cell? ⟨gb580, 1, none⟩ = some (.int .i64 t574) := (blk_cell BK580.out 1).trans rfl; have hfz22_0 := blk_frozen BK580.out 0; have hfz22_1 := blk_frozen BK580.out 1; have hcz23_0 : w19.cell? ⟨gb581, 0, none⟩ = some (.int .i64 t575) := (blk_cell BK581.out 0).trans rfl; have hcz23_1 : w19.cell? ⟨gb581, 1, none⟩ = some (.int .i64 t576) := (blk_cell BK581.out 1).trans rfl; have hfz23_0 := blk_frozen BK581.out 0; have hfz23_1 := blk_frozen BK581.out 1) | ((with_reducible refine gate_callee (f := 39) rfl ?_); refine goesL_ (some 31) rfl rfl Try.func39 (by kernel_rfl) rfl #[.agg #[.int .i64 t573, .int .i64 t574], .agg #[.int .i64 t575, .int .i64 t576]] rfl (by (try simp only [List.map_toArray, List.map_cons, List.map_nil]); first | done | rfl | (simp only [List.length_drop, List.length_take]; rfl)) ?_; (with_reducible refine (impl_DelayBound.calls t573 t574 t575 t576 t589 _ A8.out).mono ?_); rintro e w24 ⟨rfl, hb⟩; refine ⟨_, rfl, ?_⟩; have n0_ := Aside0.mk (Kd.R_below (by (with_reducible repeat (first | apply Kd.R_alloc | apply Kd.R_drewN | apply Kd.R_drew)); exact HO579.out) hb); have n1_ := Aside0.mk (Kd.R_below (by (with_reducible repeat (first | apply Kd.R_alloc | apply Kd.R_drewN | apply Kd.R_drew)); exact HO584.out) hb); have n2_ := Aside0.mk (Kd.R_below (by (with_reducible repeat (first | apply Kd.R_alloc | apply Kd.R_drewN | apply Kd.R_drew)); exact HO587.out) hb); have n3_ := Aside0.mk (blk_below (g := gb580) (o := .cells #[.int .i64 t573, .int .i64 t574] 41 (0, 0)) (by (with_reducible repeat (first | refine blk_drewN ?_ _ | refine blk_drew ?_ | refine blk_alloc ?_ _)); exact BK580.out) hb); have n4_ := Aside0.mk (blk_below (g := gb581) (o := .cells #[.int .i64 t575, .int .i64 t576] 51 (0, 0)) (by (with_reducible repeat (first | refine blk_drewN ?_ _ | refine blk_drew ?_ | refine blk_alloc ?_ _)); exact BK581.out) hb); have n5_ := Aside0.mk (below_step (by repeat (first | (with_reducible first | exact HB.out | apply below_alloc | apply pw_below_drewN | apply below_drew1 | refine below_set ?_ GE580.out | refine below_set ?_ GE581.out) | exact HB.out)) hb); clear HO579; clear HO584; clear HO587; clear BK580; clear BK581; clear HB; have HO579 := n0_; have HO584 := n1_; have HO587 := n2_; have BK580 := n3_; have BK581 := n4_; have HB := n5_; clear n0_ n1_ n2_ n3_ n4_ n5_; (try clear hb); (try clear hb2); (try clear hk); (try clear hi)))
      (try simp only [Act.put, List.setIfInBounds_toArray, List.set_cons_zero, List.set_cons_succ])
      go_cut [39] (fun v39 wc => ∃ (kq : Nat) (x39_8 : Bool), v39 = .bool x39_8 ∧ Aside0 (laws_FnDelaySafe.j0 kq t577 t582 t589 x39_8 = some r) ∧ Aside0 (kq ≤ k) ∧ Aside0 (Kd.R (Kd.int .i64) 3 wc w.heap.size (fun k_ => some k_ ≠ ((.slice Ao20 t582.length co20) : Value).ownBlock) (.slice Ao16 t577.length co16) t577) ∧ Aside0 (Kd.R (Kd.int .i64) 3 wc w.heap.size (fun k_ => some k_ ≠ ((.slice Ao16 t577.length co16) : Value).ownBlock) (.slice Ao20 t582.length co20) t582) ∧ Aside0 (wc.heap[gb580]? = some (.cells #[.int .i64 t573, .int .i64 t574] 41 (0, 0))) ∧ Aside0 (wc.heap[gb581]? = some (.cells #[.int .i64 t575, .int .i64 t576] 51 (0, 0))) ∧ Aside0 (Below w.heap.size w wc))
      case first =>
        have H := HC9.out
        clear HC9
        by_cases c25 : t589 < 0
        · rw [if_pos c25] at H
          have c25b0 : decide (t589 < 0) = true := decide_eq_true c25
          clear c25
          (first | rw [c25b0] | (simp only [i64_w, i32_w]; rw [c25b0]) | skip)
          have H' := Aside0.mk H
          clear H
          go_wp2
          go_meet
          case rel => exact ⟨_, (true), (by first | rfl | (simp; done) | (simp [*]; done)), H', ⟨by first | omega | exact Nat.le_refl _⟩, ⟨by (with_reducible repeat (first | apply Kd.R_alloc | apply Kd.R_drewN | apply Kd.R_drew)); exact Kd.R_mono HO579.out (fun _ hk => hk.1.2)⟩, ⟨by (with_reducible repeat (first | apply Kd.R_alloc | apply Kd.R_drewN | apply Kd.R_drew)); exact Kd.R_mono HO584.out (fun _ hk => hk.1.2)⟩, ⟨by (with_reducible repeat (first | refine blk_drewN ?_ _ | refine blk_drew ?_ | refine blk_alloc ?_ _)); exact BK580.out⟩, ⟨by (with_reducible repeat (first | refine blk_drewN ?_ _ | refine blk_drew ?_ | refine blk_alloc ?_ _)); exact BK581.out⟩, ⟨by repeat (first | (with_reducible first | exact HB.out | apply below_alloc | apply pw_below_drewN | apply below_drew1 | refine below_set ?_ GE580.out | refine below_set ?_ GE581.out) | exact HB.out)⟩⟩
        · rw [if_neg c25] at H
          have c25b0 : decide (t589 < 0) = false := decide_eq_false c25
          clear c25
          (first | rw [c25b0] | (simp only [i64_w, i32_w]; rw [c25b0]) | skip)
          replace H := Option.bind_eq_some_iff.mp H
          obtain ⟨t590, A260, H⟩ := H
          replace H : (laws_FnDelaySafe.j0 k t577 t582 t589 (!t590)) = some r := H
          have A26 := Aside0.mk A260
          clear A260
          have H' := Aside0.mk H
          clear H
          have hnb27 := NB580_581.out
          have hnc27 := NB581_580.out
          have hcz28_0 : w24.cell? ⟨gb580, 0, none⟩ = some (.int .i64 t573) := (blk_cell BK580.out 0).trans rfl
          have hcz28_1 : w24.cell? ⟨gb580, 1, none⟩ = some (.int .i64 t574) := (blk_cell BK580.out 1).trans rfl
          have hfz28_0 := blk_frozen BK580.out 0
          have hfz28_1 := blk_frozen BK580.out 1
          go_wp2_with (first | (go_at_call 27; (with_reducible refine (impl_Conforms.calls k t573 t574 _ _ t577 t590 _ ?side1 ?side2 A26.out).mono ?_); (case side1 => repeat (first | exact (Kd.R_reads' HO579.out).2.2 | (with_reducible refine Kd.C_alloc ?_ _) | (with_reducible refine Kd.C_drewN ?_ _) | (with_reducible refine Kd.C_drew ?_))); (case side2 => exact (Kd.R_reads' HO579.out).2.1); rintro e w29 ⟨rfl, hb⟩; have n0_ := Aside0.mk (Kd.R_below (by (with_reducible repeat (first | apply Kd.R_alloc | apply Kd.R_drewN | apply Kd.R_drew)); exact HO579.out) hb); have n1_ := Aside0.mk (Kd.R_below (by (with_reducible repeat (first | apply Kd.R_alloc | apply Kd.R_drewN | apply Kd.R_drew)); exact HO584.out) hb); have n2_ := Aside0.mk (Kd.R_below (by (with_reducible repeat (first | apply Kd.R_alloc | apply Kd.R_drewN | apply Kd.R_drew)); exact HO587.out) hb); have n3_ := Aside0.mk (blk_below (g := gb580) (o := .cells #[.int .i64 t573, .int .i64 t574] 41 (0, 0)) (by (with_reducible repeat (first | refine blk_drewN ?_ _ | refine blk_drew ?_ | refine blk_alloc ?_ _)); exact BK580.out) hb); have n4_ := Aside0.mk (blk_below (g := gb581) (o := .cells #[.int .i64 t575, .int .i64 t576] 51 (0, 0)) (by (with_reducible repeat (first | refine blk_drewN ?_ _ | refine blk_drew ?_ | refine blk_alloc ?_ _)); exact BK581.out) hb); have n5_ := Aside0.mk (below_step (by repeat (first | (with_reducible first | exact HB.out | apply below_alloc | apply pw_below_drewN | apply below_drew1 | refine below_set ?_ GE580.out | refine below_set ?_ GE581.out) | exact HB.out)) hb); clear HO579; clear HO584; clear HO587; clear BK580; clear BK581; clear HB; have HO579 := n0_; have HO584 := n1_; have HO587 := n2_; have BK580 := n3_; have BK581 := n4_; have HB := n5_; clear n0_ n1_ n2_ n3_ n4_ n5_; (try clear hb); (try clear hb2); (try clear hk); (try clear hi)))
          go_meet
          case rel => exact ⟨_, (!t590), (by first | rfl | (simp; done) | (simp [*]; done)), H', ⟨by first | omega | exact Nat.le_refl _⟩, ⟨by (with_reducible repeat (first | apply Kd.R_alloc | apply Kd.R_drewN | apply Kd.R_drew)); exact Kd.R_mono HO579.out (fun _ hk => hk.1.2)⟩, ⟨by (with_reducible repeat (first | apply Kd.R_alloc | apply Kd.R_drewN | apply Kd.R_drew)); exact Kd.R_mono HO584.out (fun _ hk => hk.1.2)⟩, ⟨by (with_reducible repeat (first | refine blk_drewN ?_ _ | refine blk_drew ?_ | refine blk_alloc ?_ _)); exact BK580.out⟩, ⟨by (with_reducible repeat (first | refine blk_drewN ?_ _ | refine blk_drew ?_ | refine blk_alloc ?_ _)); exact BK581.out⟩, ⟨by repeat (first | (with_reducible first | exact HB.out | apply below_alloc | apply pw_below_drewN | apply below_drew1 | refine below_set ?_ GE580.out | refine below_set ?_ GE581.out) | exact HB.out)⟩⟩
      case rest =>
        clear HC9
        try clear c1
        try clear c2
        try clear c2b0
        try clear c2b1
        try clear p2
        try clear c3
        try clear c7
        try clear c10
        try clear c13
        try clear c25
        try clear c25b0
        try clear c27
        try clear hcz14_0
        try clear hcz14_1
        try clear hcz15_0
        try clear hcz15_1
        try clear hcz18_0
        try clear hcz18_1
        try clear hcz22_0
        try clear hcz22_1
        try clear hcz23_0
        try clear hcz23_1
        try clear hcz28_0
        try clear hcz28_1
        try clear hfz14_0
        try clear hfz14_1
        try clear hfz15_0
        try clear hfz15_1
        try clear hfz18_0
        try clear hfz18_1
        try clear hfz22_0
        try clear hfz22_1
        try clear hfz23_0
        try clear hfz23_1
        try clear hfz28_0
        try clear hfz28_1
        obtain ⟨kq, x39_8, rfl, HA, HJ8, HO_5, HO_6, BK580, BK581, HB⟩ := hcut
        cases kq with
        | zero => exact absurd HA.out (by simp [laws_FnDelaySafe.j0])
        | succ kj8 =>
          have H := HA.out
          clear HA
          simp only [laws_FnDelaySafe.j0] at H
          by_cases c30 : x39_8 = true
          · subst c30
            have H1 : ((laws_alive.f).bind fun t591 => (some t591)) = some r := by rw [if_pos rfl] at H; exact H
            clear H
            have H := H1
            clear H1
            replace H := Option.bind_eq_some_iff.mp H
            obtain ⟨t591, A310, H⟩ := H
            replace H : (some t591) = some r := H
            have A31 := Aside0.mk A310
            clear A310
            obtain rfl := Option.some.inj H
            go_wp2_with (first | ((with_reducible refine gate_callee (f := 23) rfl ?_); refine goesL_ (some 40) rfl rfl Try.func23 (by kernel_rfl) rfl #[] rfl (by (try simp only [List.map_toArray, List.map_cons, List.map_nil]); first | done | rfl | (simp only [List.length_drop, List.length_take]; rfl)) ?_; (with_reducible refine (laws_alive.calls  t591 _ A31.out).mono ?_); rintro e w32 ⟨rfl, hb⟩; refine ⟨_, rfl, ?_⟩; have n0_ := Aside0.mk (Kd.R_below (by (with_reducible repeat (first | apply Kd.R_alloc | apply Kd.R_drewN | apply Kd.R_drew)); exact HO_5.out) hb); have n1_ := Aside0.mk (Kd.R_below (by (with_reducible repeat (first | apply Kd.R_alloc | apply Kd.R_drewN | apply Kd.R_drew)); exact HO_6.out) hb); have n2_ := Aside0.mk (blk_below (g := gb580) (o := .cells #[.int .i64 t573, .int .i64 t574] 41 (0, 0)) (by (with_reducible repeat (first | refine blk_drewN ?_ _ | refine blk_drew ?_ | refine blk_alloc ?_ _)); exact BK580.out) hb); have n3_ := Aside0.mk (blk_below (g := gb581) (o := .cells #[.int .i64 t575, .int .i64 t576] 51 (0, 0)) (by (with_reducible repeat (first | refine blk_drewN ?_ _ | refine blk_drew ?_ | refine blk_alloc ?_ _)); exact BK581.out) hb); have n4_ := Aside0.mk (below_step (by repeat (first | (with_reducible first | exact HB.out | apply below_alloc | apply pw_below_drewN | apply below_drew1 | refine below_set ?_ GE580.out | refine below_set ?_ GE581.out) | exact HB.out)) hb); clear HO_5; clear HO_6; clear BK580; clear BK581; clear HB; have HO_5 := n0_; have HO_6 := n1_; have BK580 := n2_; have BK581 := n3_; have HB := n4_; clear n0_ n1_ n2_ n3_ n4_; (try clear hb); (try clear hb2); (try clear hk); (try clear hi)))
            go_ret
            exact ⟨by first | rfl | (simp [errW_none, errW_some] <;> rfl) | (simp [*, errW_none, errW_some] <;> rfl), by repeat (first | (with_reducible first | exact HB.out | apply below_alloc | apply pw_below_drewN | apply below_drew1 | refine below_set ?_ GE580.out | refine below_set ?_ GE581.out) | exact HB.out)⟩
          · replace c30 := Bool.eq_false_iff.mpr c30
            subst c30
            have H1 : (laws_FnDelaySafe.l0 kj8 t577 t582 t589 0) = some r := by rw [if_neg (show ¬ (false = true) by decide)] at H; exact H
            clear H
            have H := H1
            clear H1
            have H' := Aside0.mk H
            clear H
            go_wp2
            go_loopg [8] kj8 (fun kq v8 w' => ∃ (x8_2 : Int), v8 = .int .i64 x8_2 ∧ Aside0 (laws_FnDelaySafe.l0 kq t577 t582 t589 x8_2 = some r) ∧ Aside0 (kq ≤ kj8) ∧ Aside0 (Kd.R (Kd.int .i64) 3 w' w.heap.size (fun k_ => some k_ ≠ ((.slice Ao20 t582.length co20) : Value).ownBlock) (.slice Ao16 t577.length co16) t577) ∧ Aside0 (Kd.R (Kd.int .i64) 3 w' w.heap.size (fun k_ => some k_ ≠ ((.slice Ao16 t577.length co16) : Value).ownBlock) (.slice Ao20 t582.length co20) t582) ∧ Aside0 (w'.heap[gb580]? = some (.cells #[.int .i64 t573, .int .i64 t574] 41 (0, 0))) ∧ Aside0 (w'.heap[gb581]? = some (.cells #[.int .i64 t575, .int .i64 t576] 51 (0, 0))) ∧ Aside0 (Below w.heap.size w w'))
            case atStart => exact ⟨(0), (by first | rfl | (simp; done) | (simp [*]; done)), H', ⟨Nat.le_refl _⟩, ⟨by (with_reducible repeat (first | apply Kd.R_alloc | apply Kd.R_drewN | apply Kd.R_drew)); exact HO_5.out⟩, ⟨by (with_reducible repeat (first | apply Kd.R_alloc | apply Kd.R_drewN | apply Kd.R_drew)); exact HO_6.out⟩, ⟨by (with_reducible repeat (first | refine blk_drewN ?_ _ | refine blk_drew ?_ | refine blk_alloc ?_ _)); exact BK580.out⟩, ⟨by (with_reducible repeat (first | refine blk_drewN ?_ _ | refine blk_drew ?_ | refine blk_alloc ?_ _)); exact BK581.out⟩, ⟨by repeat (first | (with_reducible first | exact HB.out | apply below_alloc | apply pw_below_drewN | apply below_drew1 | refine below_set ?_ GE580.out | refine below_set ?_ GE581.out) | exact HB.out)⟩⟩
            case round =>
              clear H'
              try clear c1
              try clear c2
              try clear c2b0
              try clear c2b1
              try clear p2
              try clear c3
              try clear c7
              try clear c10
              try clear c13
              try clear c23
              try clear c25
              try clear c25b0
              try clear c27
              try clear c30
              try clear c32
              try clear hcz14_0
              try clear hcz14_1
              try clear hcz15_0
              try clear hcz15_1
              try clear hcz18_0
              try clear hcz18_1
              try clear hcz22_0
              try clear hcz22_1
              try clear hcz23_0
              try clear hcz23_1
              try clear hcz28_0
              try clear hcz28_1
              try clear hfz14_0
              try clear hfz14_1
              try clear hfz15_0
              try clear hfz15_1
              try clear hfz18_0
              try clear hfz18_1
              try clear hfz22_0
              try clear hfz22_1
              try clear hfz23_0
              try clear hfz23_1
              try clear hfz28_0
              try clear hfz28_1
              try clear p2
              obtain ⟨x8_2, rfl, HA, HK2, HO_5, HO_6, BK580, BK581, HB⟩ := hrel
              cases gk with
              | zero => exact absurd HA.out (by simp [laws_FnDelaySafe.l0])
              | succ k2 =>
                have H := HA.out
                clear HA
                simp only [laws_FnDelaySafe.l0] at H
                by_cases c33 : (wrap64 (x8_2 + t589)) < (t582.length : Int)
                · rw [if_pos c33] at H
                  have c33b0 : decide ((wrap64 (x8_2 + t589)) < (t582.length : Int)) = true := decide_eq_true c33
                  clear c33
                  have H' := Aside0.mk H
                  clear H
                  go_wp2
                  go_loopg [9, 10] k2 (fun kq v9 v10 w' => ∃ (x9_3 : Int) (x10_3 : Int), v9 = .int .i64 x9_3 ∧ v10 = .int .i64 x10_3 ∧ Aside0 (laws_FnDelaySafe.l1 kq t577 t582 t589 x8_2 x9_3 x10_3 = some r) ∧ Aside0 (kq ≤ k2) ∧ Aside0 (Kd.R (Kd.int .i64) 3 w' w.heap.size (fun k_ => some k_ ≠ ((.slice Ao20 t582.length co20) : Value).ownBlock) (.slice Ao16 t577.length co16) t577) ∧ Aside0 (Kd.R (Kd.int .i64) 3 w' w.heap.size (fun k_ => some k_ ≠ ((.slice Ao16 t577.length co16) : Value).ownBlock) (.slice Ao20 t582.length co20) t582) ∧ Aside0 (w'.heap[gb580]? = some (.cells #[.int .i64 t573, .int .i64 t574] 41 (0, 0))) ∧ Aside0 (w'.heap[gb581]? = some (.cells #[.int .i64 t575, .int .i64 t576] 51 (0, 0))) ∧ Aside0 (Below w.heap.size w w'))
                  case atStart => exact ⟨(0), (wrap64 (x8_2 + 1)), (by first | rfl | (simp; done) | (simp [*]; done)), (by first | rfl | (simp; done) | (simp [*]; done)), H', ⟨Nat.le_refl _⟩, ⟨by (with_reducible repeat (first | apply Kd.R_alloc | apply Kd.R_drewN | apply Kd.R_drew)); exact HO_5.out⟩, ⟨by (with_reducible repeat (first | apply Kd.R_alloc | apply Kd.R_drewN | apply Kd.R_drew)); exact HO_6.out⟩, ⟨by (with_reducible repeat (first | refine blk_drewN ?_ _ | refine blk_drew ?_ | refine blk_alloc ?_ _)); exact BK580.out⟩, ⟨by (with_reducible repeat (first | refine blk_drewN ?_ _ | refine blk_drew ?_ | refine blk_alloc ?_ _)); exact BK581.out⟩, ⟨by repeat (first | (with_reducible first | exact HB.out | apply below_alloc | apply pw_below_drewN | apply below_drew1 | refine below_set ?_ GE580.out | refine below_set ?_ GE581.out) | exact HB.out)⟩⟩
                  case round =>
                    clear H'
                    try clear c1
                    try clear c2
                    try clear c2b0
                    try clear c2b1
                    try clear p2
                    try clear c3
                    try clear p6
                    try clear c7
                    try clear c10
                    try clear c13
                    try clear c23
                    try clear c25
                    try clear c25b0
                    try clear c27
                    try clear c30
                    try clear c32
                    try clear c33
                    try clear c33b0
                    try clear hcz14_0
                    try clear hcz14_1
                    try clear hcz15_0
                    try clear hcz15_1
                    try clear hcz18_0
                    try clear hcz18_1
                    try clear hcz22_0
                    try clear hcz22_1
                    try clear hcz23_0
                    try clear hcz23_1
                    try clear hcz28_0
                    try clear hcz28_1
                    try clear hfz14_0
                    try clear hfz14_1
                    try clear hfz15_0
                    try clear hfz15_1
                    try clear hfz18_0
                    try clear hfz18_1
                    try clear hfz22_0
                    try clear hfz22_1
                    try clear hfz23_0
                    try clear hfz23_1
                    try clear hfz28_0
                    try clear hfz28_1
                    try clear p2
                    obtain ⟨x9_3, x10_3, rfl, rfl, HA, HK3, HO_5, HO_6, BK580, BK581, HB⟩ := hrel
                    cases gk with
                    | zero => exact absurd HA.out (by simp [laws_FnDelaySafe.l1])
                    | succ k3 =>
                      have H := HA.out
                      clear HA
                      simp only [laws_FnDelaySafe.l1] at H
                      by_cases c34 : x10_3 ≤ (wrap64 (x8_2 + t589))
                      · rw [if_pos c34] at H
                        have c34b0 : decide (x10_3 ≤ (wrap64 (x8_2 + t589))) = true := decide_eq_true c34
                        clear c34
                        by_cases c35 : 0 ≤ x10_3
                        · rw [if_pos c35] at H
                          have c35b0 : decide (0 ≤ x10_3) = true := decide_eq_true c35
                          clear c35
                          by_cases c36 : x10_3 < (t577.length : Int)
                          · rw [if_pos c36] at H
                            have c36b0 : decide (x10_3 < (t577.length : Int)) = true := decide_eq_true c36
                            clear c36
                            have H' := Aside0.mk H
                            clear H
                            have p592 : 0 ≤ (x10_3 : Int) := of_decide_eq_true (by first | (with_reducible assumption) | assumption)
                            have q592 : x10_3 < (t577.length : Int) := of_decide_eq_true (by first | (with_reducible assumption) | assumption)
                            obtain ⟨ad592, e592, hx592_0⟩ := Kd.at_int (Kd.R_reads' HO_5.out).2.2 x10_3 p592 q592
                            cases e592
                            replace p592 := eq_true p592
                            replace q592 := eq_true q592
                            go_wp2
                            go_roundg k3
                            case measure => have := HJ8.out; have := HK2.out; have := HK3.out; omega
                            case rel => exact ⟨(wrap64 (x9_3 + (rd t577 x10_3))), (wrap64 (x10_3 + 1)), (by first | rfl | (simp; done) | (simp [*]; done)), (by first | rfl | (simp; done) | (simp [*]; done)), H', ⟨by have := HJ8.out; have := HK2.out; have := HK3.out; omega⟩, ⟨by (with_reducible repeat (first | apply Kd.R_alloc | apply Kd.R_drewN | apply Kd.R_drew)); exact HO_5.out⟩, ⟨by (with_reducible repeat (first | apply Kd.R_alloc | apply Kd.R_drewN | apply Kd.R_drew)); exact HO_6.out⟩, ⟨by (with_reducible repeat (first | refine blk_drewN ?_ _ | refine blk_drew ?_ | refine blk_alloc ?_ _)); exact BK580.out⟩, ⟨by (with_reducible repeat (first | refine blk_drewN ?_ _ | refine blk_drew ?_ | refine blk_alloc ?_ _)); exact BK581.out⟩, ⟨by repeat (first | (with_reducible first | exact HB.out | apply below_alloc | apply pw_below_drewN | apply below_drew1 | refine below_set ?_ GE580.out | refine below_set ?_ GE581.out) | exact HB.out)⟩⟩
                          · rw [if_neg c36] at H
                            exact absurd H (by simp)
                        · rw [if_neg c35] at H
                          exact absurd H (by simp)
                      · rw [if_neg c34] at H
                        have c34b0 : decide (x10_3 ≤ (wrap64 (x8_2 + t589))) = false := decide_eq_false c34
                        clear c34
                        obtain ⟨ji37, hji37⟩ : ∃ j_ : Int, (wrap64 (x8_2 + t589)) = j_ := ⟨_, rfl⟩
                        replace H : (if 0 ≤ (ji37) then (if (ji37) < (t582.length : Int) then (if (rd t582 (ji37)) > x9_3 then (some false) else (laws_FnDelaySafe.l0 k3 t577 t582 t589 (wrap64 (x8_2 + 1)))) else (none)) else (none)) = some r := by first | (rw [hji37] at H; exact H) | (simp only [hji37] at H ⊢; exact H)
                        (try rw [hji37] at c33b0)
                        (try rw [hji37] at c34b0)
                        have hji37w : (IntKind.i64.wrap (x8_2 + t589)) = ji37 := (i64_w _).trans hji37
                        by_cases c38 : 0 ≤ (ji37)
                        · rw [if_pos c38] at H
                          have c38b0 : decide (0 ≤ (ji37)) = true := decide_eq_true c38
                          clear c38
                          by_cases c39 : (ji37) < (t582.length : Int)
                          · rw [if_pos c39] at H
                            have c39b0 : decide ((ji37) < (t582.length : Int)) = true := decide_eq_true c39
                            clear c39
                            by_cases c40 : (rd t582 (ji37)) > x9_3
                            · rw [if_pos c40] at H
                              have c40b0 : decide (x9_3 < (rd t582 (ji37))) = true := decide_eq_true c40
                              clear c40
                              obtain rfl := Option.some.inj H
                              have p593 : 0 ≤ ((ji37) : Int) := of_decide_eq_true (by first | (with_reducible assumption) | assumption)
                              have q593 : (ji37) < (t582.length : Int) := of_decide_eq_true (by first | (with_reducible assumption) | assumption)
                              obtain ⟨ad593, e593, hx593_0⟩ := Kd.at_int (Kd.R_reads' HO_6.out).2.2 (ji37) p593 q593
                              cases e593
                              replace p593 := eq_true p593
                              replace q593 := eq_true q593
                              go_wp2
                              go_ret
                              exact ⟨by first | rfl | (simp [errW_none, errW_some] <;> rfl) | (simp only [← hji37]; first | rfl | (simp [errW_none, errW_some] <;> rfl)) | (simp [*, errW_none, errW_some] <;> rfl), by repeat (first | (with_reducible first | exact HB.out | apply below_alloc | apply pw_below_drewN | apply below_drew1 | refine below_set ?_ GE580.out | refine below_set ?_ GE581.out) | exact HB.out)⟩
                            · rw [if_neg c40] at H
                              have c40b0 : decide (x9_3 < (rd t582 (ji37))) = false := decide_eq_false c40
                              clear c40
                              have H' := Aside0.mk H
                              clear H
                              have p593 : 0 ≤ ((ji37) : Int) := of_decide_eq_true (by first | (with_reducible assumption) | assumption)
                              have q593 : (ji37) < (t582.length : Int) := of_decide_eq_true (by first | (with_reducible assumption) | assumption)
                              obtain ⟨ad593, e593, hx593_0⟩ := Kd.at_int (Kd.R_reads' HO_6.out).2.2 (ji37) p593 q593
                              cases e593
                              replace p593 := eq_true p593
                              replace q593 := eq_true q593
                              go_wp2
                              go_roundg k3
                              case measure => have := HJ8.out; have := HK2.out; have := HK3.out; omega
                              case rel => exact ⟨(wrap64 (x8_2 + 1)), (by first | rfl | (simp; done) | (simp [*]; done)), H', ⟨by have := HJ8.out; have := HK2.out; have := HK3.out; omega⟩, ⟨by (with_reducible repeat (first | apply Kd.R_alloc | apply Kd.R_drewN | apply Kd.R_drew)); exact HO_5.out⟩, ⟨by (with_reducible repeat (first | apply Kd.R_alloc | apply Kd.R_drewN | apply Kd.R_drew)); exact HO_6.out⟩, ⟨by (with_reducible repeat (first | refine blk_drewN ?_ _ | refine blk_drew ?_ | refine blk_alloc ?_ _)); exact BK580.out⟩, ⟨by (with_reducible repeat (first | refine blk_drewN ?_ _ | refine blk_drew ?_ | refine blk_alloc ?_ _)); exact BK581.out⟩, ⟨by repeat (first | (with_reducible first | exact HB.out | apply below_alloc | apply pw_below_drewN | apply below_drew1 | refine below_set ?_ GE580.out | refine below_set ?_ GE581.out) | exact HB.out)⟩⟩
                          · rw [if_neg c39] at H
                            exact absurd H (by simp)
                        · rw [if_neg c38] at H
                          exact absurd H (by simp)
                · rw [if_neg c33] at H
                  have c33b0 : decide ((wrap64 (x8_2 + t589)) < (t582.length : Int)) = false := decide_eq_false c33
                  clear c33
                  obtain rfl := Option.some.inj H
                  go_wp2
                  go_ret
                  exact ⟨by first | rfl | (simp [errW_none, errW_some] <;> rfl) | (simp [*, errW_none, errW_some] <;> rfl), by repeat (first | (with_reducible first | exact HB.out | apply below_alloc | apply pw_below_drewN | apply below_drew1 | refine below_set ?_ GE580.out | refine below_set ?_ GE581.out) | exact HB.out)⟩
    · replace c7 := Bool.eq_false_iff.mpr c7
      subst c7
      have H1 : (some false) = some r := by rw [if_neg (show ¬ (false = true) by decide)] at H; exact H
      clear H
      have H := H1
      clear H1
      obtain rfl := Option.some.inj H
      go_enter Try.func10, Try.ntmps10
      go_wp2_with (first | ((with_reducible refine gate_callee (f := 37) rfl ?_); refine goesL_ (some 16) rfl rfl Try.func37 (by kernel_rfl) rfl #[.slice A0 l0.length c0] rfl (by (try simp only [List.map_toArray, List.map_cons, List.map_nil]); first | done | rfl | (simp only [List.length_drop, List.length_take]; rfl)) ?_; (with_reducible refine (spec_DrawTraffic.calls k _ _ l0 t573 t574 t575 t576 t577 _ ?side1 ?side2 A3.out).mono ?_); (case side1 => repeat (first | exact HR0.out | (with_reducible refine Kd.C_alloc ?_ _) | (with_reducible refine Kd.C_drewN ?_ _) | (with_reducible refine Kd.C_drew ?_))); (case side2 => exact HC0.out); rintro e w41 ⟨v578, rfl, ho0, hb⟩; refine ⟨_, rfl, ?_⟩; have n0_ := Aside0.mk (Kd.R_lower ho0 (below_size (by repeat (first | (with_reducible first | exact HB.out | apply below_alloc | apply pw_below_drewN | apply below_drew1) | exact HB.out)))); have n1_ := Aside0.mk (below_step (by repeat (first | (with_reducible first | exact HB.out | apply below_alloc | apply pw_below_drewN | apply below_drew1) | exact HB.out)) hb); clear HB; have HO579 := n0_; have HB := n1_; clear n0_ n1_; (try clear hb); (try clear hb2); (try clear hk); (try clear hi); (try clear ho0)) | ((with_reducible refine gate_dst (N := 3) rfl ?_); refine box_event ?hg (N := 3) ?hd (cs := #[.int .i64 0, .int .i64 0]) (t := 41) ?hr ?_; (case hd => rfl); (case hg => rfl); (case hr => first | (go_simp; done) | (go_simp; rfl)); intro gb580 hg w42 hbox hb; have n0_ := Aside0.mk (Kd.R_below (by (with_reducible repeat (first | apply Kd.R_alloc | apply Kd.R_drewN | apply Kd.R_drew)); exact HO579.out) hb); have n1_ := Aside0.mk (below_step (by repeat (first | (with_reducible first | exact HB.out | apply below_alloc | apply pw_below_drewN | apply below_drew1) | exact HB.out)) hb); have n2_ := Aside0.mk (hbox); have n3_ := Aside0.mk ((by rw [hg]; exact (below_size (by repeat (first | (with_reducible first | exact HB.out | apply below_alloc | apply pw_below_drewN | apply below_drew1) | exact HB.out))) : w.heap.size ≤ gb580)); have n4_ := Aside0.mk ((by rw [hg]; exact (below_size (by repeat (first | (with_reducible first | exact HB.out | apply below_alloc | apply pw_below_drewN | apply below_drew1) | exact HB.out))) : w.heap.size ≤ gb580)); clear HO579; clear HB; have HO579 := n0_; have HB := n1_; have BK580 := n2_; have GW580 := n3_; have GE580 := n4_; clear n0_ n1_ n2_ n3_ n4_; clear hb hbox hg) | ((with_reducible refine gate_dst (N := 4) rfl ?_); refine box_event ?hg (N := 4) ?hd (cs := #[.int .i64 0, .int .i64 0]) (t := 51) ?hr ?_; (case hd => rfl); (case hg => rfl); (case hr => first | (go_simp; done) | (go_simp; rfl)); intro gb581 hg w43 hbox hb; have n0_ := Aside0.mk (Kd.R_below (by (with_reducible repeat (first | apply Kd.R_alloc | apply Kd.R_drewN | apply Kd.R_drew)); exact HO579.out) hb); have n1_ := Aside0.mk (blk_below (g := gb580) (o := .cells #[.int .i64 0, .int .i64 0] 41 (0, 0)) (by (with_reducible repeat (first | refine blk_drewN ?_ _ | refine blk_drew ?_ | refine blk_alloc ?_ _)); exact BK580.out) hb); have n2_ := Aside0.mk (below_step (by repeat (first | (with_reducible first | exact HB.out | apply below_alloc | apply pw_below_drewN | apply below_drew1 | refine below_set ?_ GE580.out) | exact HB.out)) hb); have n3_ := Aside0.mk (hbox); have n4_ := Aside0.mk ((by rw [hg]; exact (below_size (by repeat (first | (with_reducible first | exact HB.out | apply below_alloc | apply pw_below_drewN | apply below_drew1 | refine below_set ?_ GE580.out) | exact HB.out))) : w.heap.size ≤ gb581)); have n5_ := Aside0.mk ((by rw [hg]; exact (below_size (by repeat (first | (with_reducible first | exact HB.out | apply below_alloc | apply pw_below_drewN | apply below_drew1 | refine below_set ?_ GE580.out) | exact HB.out))) : w.heap.size ≤ gb581)); have n6_ := Aside0.mk ((by rw [hg]; exact Nat.ne_of_lt (blk_lt (g := gb580) (o := .cells #[.int .i64 0, .int .i64 0] 41 (0, 0)) (by (with_reducible repeat (first | refine blk_drewN ?_ _ | refine blk_drew ?_ | refine blk_alloc ?_ _)); exact BK580.out)) : gb580 ≠ gb581)); have n7_ := Aside0.mk ((by rw [hg]; exact Nat.ne_of_gt (blk_lt (g := gb580) (o := .cells #[.int .i64 0, .int .i64 0] 41 (0, 0)) (by (with_reducible repeat (first | refine blk_drewN ?_ _ | refine blk_drew ?_ | refine blk_alloc ?_ _)); exact BK580.out)) : gb581 ≠ gb580)); clear HO579; clear BK580; clear HB; have HO579 := n0_; have BK580 := n1_; have HB := n2_; have BK581 := n3_; have GW581 := n4_; have GE581 := n5_; have NB580_581 := n6_; have NB581_580 := n7_; clear n0_ n1_ n2_ n3_ n4_ n5_ n6_ n7_; clear hb hbox hg; have hnb44 := NB580_581.out; have hnc44 := NB581_580.out; have hcz45_0 : w43.cell? ⟨gb580, 0, none⟩ = some (.int .i64 0) := (blk_cell BK580.out 0).trans rfl; have hcz45_1 : w43.cell? ⟨gb580, 1, none⟩ = some (.int .i64 0) := (blk_cell BK580.out 1).trans rfl; have hfz45_0 := blk_frozen BK580.out 0; have hfz45_1 := blk_frozen BK580.out 1; have hcz46_0 : w43.cell? ⟨gb581, 0, none⟩ = some (.int .i64 0) := (blk_cell BK581.out 0).trans rfl; have hcz46_1 : w43.cell? ⟨gb581, 1, none⟩ = some (.int .i64 0) := (blk_cell BK581.out 1).trans rfl; have hfz46_0 := blk_frozen BK581.out 0; have hfz46_1 := blk_frozen BK581.out 1; obtain ⟨Ao47, co47, eo47⟩ := Kd.R_slice HO579.out; subst eo47) | ((with_reducible refine gate_callee (f := 32) rfl ?_); refine goesL_ (some 22) rfl rfl Try.func32 (by kernel_rfl) rfl #[.agg #[.int .i64 t575, .int .i64 t576], .slice Ao47 t577.length co47] rfl (by (try simp only [List.map_toArray, List.map_cons, List.map_nil]); first | done | rfl | (simp only [List.length_drop, List.length_take]; rfl)) ?_; (with_reducible refine (impl_Backlogs.calls k t575 t576 _ _ t577 t582 _ ?side1 ?side2 A4.out).mono ?_); (case side1 => refine (Kd.R_reads' (e := 3) (base := w.heap.size) (ok := fun k_ => True) (n := t577.length) (c := co47) ?_).2.2; exact (by (with_reducible repeat (first | apply Kd.R_alloc | apply Kd.R_drewN | apply Kd.R_drew)); exact (Kd.R_mono (Kd.R_mono (Kd.R_far (p := ⟨gb581, 1, none⟩) (Kd.R_far (p := ⟨gb581, 0, none⟩) (Kd.R_far (p := ⟨gb580, 1, none⟩) (Kd.R_far (p := ⟨gb580, 0, none⟩) (Kd.R_types (Kd.R_types HO579.out BK580.out (by decide)) BK581.out (by decide)) (fun _ hk => hk.1.2) (.int .i64 t573)) (fun _ hk => hk.1.2) (.int .i64 t574)) (fun _ hk => hk.2) (.int .i64 t575)) (fun _ hk => hk.2) (.int .i64 t576)) (fun _ h_ => h_.1)) (fun _ h_ => h_.1)))); (case side2 => exact (Kd.R_reads' HO579.out).2.1); rintro e w48 ⟨v583, rfl, ho0, hb⟩; refine ⟨_, rfl, ?_⟩; have n0_ := Aside0.mk (Kd.R_elder' (by (with_reducible repeat (first | apply Kd.R_alloc | apply Kd.R_drewN | apply Kd.R_drew)); exact (Kd.R_mono (Kd.R_mono (Kd.R_far (p := ⟨gb581, 1, none⟩) (Kd.R_far (p := ⟨gb581, 0, none⟩) (Kd.R_far (p := ⟨gb580, 1, none⟩) (Kd.R_far (p := ⟨gb580, 0, none⟩) (Kd.R_types (Kd.R_types HO579.out BK580.out (by decide)) BK581.out (by decide)) (fun _ hk => hk.1.2) (.int .i64 t573)) (fun _ hk => hk.1.2) (.int .i64 t574)) (fun _ hk => hk.2) (.int .i64 t575)) (fun _ hk => hk.2) (.int .i64 t576)) (fun _ h_ => h_.1)) (fun _ h_ => h_.1))) (Kd.R_base ho0) hb); have n1_ := Aside0.mk (Kd.R_lower (Kd.R_new' ho0 (Kd.R_lt (by (with_reducible repeat (first | apply Kd.R_alloc | apply Kd.R_drewN | apply Kd.R_drew)); exact (Kd.R_mono (Kd.R_mono (Kd.R_far (p := ⟨gb581, 1, none⟩) (Kd.R_far (p := ⟨gb581, 0, none⟩) (Kd.R_far (p := ⟨gb580, 1, none⟩) (Kd.R_far (p := ⟨gb580, 0, none⟩) (Kd.R_types (Kd.R_types HO579.out BK580.out (by decide)) BK581.out (by decide)) (fun _ hk => hk.1.2) (.int .i64 t573)) (fun _ hk => hk.1.2) (.int .i64 t574)) (fun _ hk => hk.2) (.int .i64 t575)) (fun _ hk => hk.2) (.int .i64 t576)) (fun _ h_ => h_.1)) (fun _ h_ => h_.1))))) (below_size (by repeat (first | (with_reducible first | exact HB.out | apply below_alloc | apply pw_below_drewN | apply below_drew1 | refine below_set ?_ GE580.out | refine below_set ?_ GE581.out) | exact HB.out)))); have n2_ := Aside0.mk (blk_below (g := gb580) (o := .cells #[.int .i64 t573, .int .i64 t574] 41 (0, 0)) (by (with_reducible repeat (first | refine blk_drewN ?_ _ | refine blk_drew ?_ | refine blk_alloc ?_ _)); refine blk_far ?_ NB580_581.out _; (with_reducible repeat (first | refine blk_drewN ?_ _ | refine blk_drew ?_ | refine blk_alloc ?_ _)); refine blk_far ?_ NB580_581.out _; (with_reducible repeat (first | refine blk_drewN ?_ _ | refine blk_drew ?_ | refine blk_alloc ?_ _)); refine blk_put (cs := #[.int .i64 t573, .int .i64 0]) ?_ 1 _ rfl; (with_reducible repeat (first | refine blk_drewN ?_ _ | refine blk_drew ?_ | refine blk_alloc ?_ _)); refine blk_put (cs := #[.int .i64 0, .int .i64 0]) ?_ 0 _ rfl; (with_reducible repeat (first | refine blk_drewN ?_ _ | refine blk_drew ?_ | refine blk_alloc ?_ _)); exact BK580.out) hb); have n3_ := Aside0.mk (blk_below (g := gb581) (o := .cells #[.int .i64 t575, .int .i64 t576] 51 (0, 0)) (by (with_reducible repeat (first | refine blk_drewN ?_ _ | refine blk_drew ?_ | refine blk_alloc ?_ _)); refine blk_put (cs := #[.int .i64 t575, .int .i64 0]) ?_ 1 _ rfl; (with_reducible repeat (first | refine blk_drewN ?_ _ | refine blk_drew ?_ | refine blk_alloc ?_ _)); refine blk_put (cs := #[.int .i64 0, .int .i64 0]) ?_ 0 _ rfl; (with_reducible repeat (first | refine blk_drewN ?_ _ | refine blk_drew ?_ | refine blk_alloc ?_ _)); refine blk_far ?_ NB581_580.out _; (with_reducible repeat (first | refine blk_drewN ?_ _ | refine blk_drew ?_ | refine blk_alloc ?_ _)); refine blk_far ?_ NB581_580.out _; (with_reducible repeat (first | refine blk_drewN ?_ _ | refine blk_drew ?_ | refine blk_alloc ?_ _)); exact BK581.out) hb); have n4_ := Aside0.mk (below_step (by repeat (first | (with_reducible first | exact HB.out | apply below_alloc | apply pw_below_drewN | apply below_drew1 | refine below_set ?_ GE580.out | refine below_set ?_ GE581.out) | exact HB.out)) hb); clear HO579; clear BK580; clear BK581; clear HB; have HO579 := n0_; have HO584 := n1_; have BK580 := n2_; have BK581 := n3_; have HB := n4_; clear n0_ n1_ n2_ n3_ n4_; (try clear hb); (try clear hb2); (try clear hk); (try clear hi); (try clear ho0); have hcz49_0 : w48.cell? ⟨gb581, 0, none⟩ = some (.int .i64 t575) := (blk_cell BK581.out 0).trans rfl; have hcz49_1 : w48.cell? ⟨gb581, 1, none⟩ = some (.int .i64 t576) := (blk_cell BK581.out 1).trans rfl; have hfz49_0 := blk_frozen BK581.out 0; have hfz49_1 := blk_frozen BK581.out 1) | ((with_reducible refine gate_callee (f := 30) rfl ?_); refine goesL_ (some 26) rfl rfl Try.func30 (by kernel_rfl) rfl #[.agg #[.int .i64 t575, .int .i64 t576], .slice Ao47 t577.length co47] rfl (by (try simp only [List.map_toArray, List.map_cons, List.map_nil]); first | done | rfl | (simp only [List.length_drop, List.length_take]; rfl)) ?_; (with_reducible refine (spec_Backlogs.calls k t575 t576 _ _ t577 t585 _ ?side1 ?side2 A5.out).mono ?_); (case side1 => repeat (first | exact (Kd.R_reads' HO579.out).2.2 | (with_reducible refine Kd.C_alloc ?_ _) | (with_reducible refine Kd.C_drewN ?_ _) | (with_reducible refine Kd.C_drew ?_))); (case side2 => exact (Kd.R_reads' HO579.out).2.1); rintro e w50 ⟨v586, rfl, ho0, hb⟩; refine ⟨_, rfl, ?_⟩; have n0_ := Aside0.mk (Kd.R_elder' (by (with_reducible repeat (first | apply Kd.R_alloc | apply Kd.R_drewN | apply Kd.R_drew)); exact HO579.out) (Kd.R_base ho0) hb); have n1_ := Aside0.mk (Kd.R_elder' (by (with_reducible repeat (first | apply Kd.R_alloc | apply Kd.R_drewN | apply Kd.R_drew)); exact HO584.out) (Kd.R_base ho0) hb); have n2_ := Aside0.mk (Kd.R_lower (Kd.R_new' (Kd.R_new' ho0 (Kd.R_lt (by (with_reducible repeat (first | apply Kd.R_alloc | apply Kd.R_drewN | apply Kd.R_drew)); exact HO579.out))) (Kd.R_lt (by (with_reducible repeat (first | apply Kd.R_alloc | apply Kd.R_drewN | apply Kd.R_drew)); exact HO584.out))) (below_size (by repeat (first | (with_reducible first | exact HB.out | apply below_alloc | apply pw_below_drewN | apply below_drew1 | refine below_set ?_ GE580.out | refine below_set ?_ GE581.out) | exact HB.out)))); have n3_ := Aside0.mk (blk_below (g := gb580) (o := .cells #[.int .i64 t573, .int .i64 t574] 41 (0, 0)) (by (with_reducible repeat (first | refine blk_drewN ?_ _ | refine blk_drew ?_ | refine blk_alloc ?_ _)); exact BK580.out) hb); have n4_ := Aside0.mk (blk_below (g := gb581) (o := .cells #[.int .i64 t575, .int .i64 t576] 51 (0, 0)) (by (with_reducible repeat (first | refine blk_drewN ?_ _ | refine blk_drew ?_ | refine blk_alloc ?_ _)); exact BK581.out) hb); have n5_ := Aside0.mk (below_step (by repeat (first | (with_reducible first | exact HB.out | apply below_alloc | apply pw_below_drewN | apply below_drew1 | refine below_set ?_ GE580.out | refine below_set ?_ GE581.out) | exact HB.out)) hb); clear HO579; clear HO584; clear BK580; clear BK581; clear HB; have HO579 := n0_; have HO584 := n1_; have HO587 := n2_; have BK580 := n3_; have BK581 := n4_; have HB := n5_; clear n0_ n1_ n2_ n3_ n4_ n5_; (try clear hb); (try clear hb2); (try clear hk); (try clear hi); (try clear ho0); obtain ⟨Ao51, co51, eo51⟩ := Kd.R_slice HO584.out; subst eo51; obtain ⟨Ao52, co52, eo52⟩ := Kd.R_slice HO587.out; subst eo52) | ((with_reducible refine gate_callee (f := 36) rfl ?_); refine goesL_ (some 27) rfl rfl Try.func36 (by kernel_rfl) rfl #[.slice Ao51 t582.length co51, .slice Ao52 t585.length co52] rfl (by (try simp only [List.map_toArray, List.map_cons, List.map_nil]); first | done | rfl | (simp only [List.length_drop, List.length_take]; rfl)) ?_; (with_reducible refine (laws_sameInts.calls k _ _ t582 _ _ t585 false _ ?side1 ?side2 ?side3 ?side4 A6.out).mono ?_); (case side1 => repeat (first | exact (Kd.R_reads' HO584.out).2.2 | (with_reducible refine Kd.C_alloc ?_ _) | (with_reducible refine Kd.C_drewN ?_ _) | (with_reducible refine Kd.C_drew ?_))); (case side2 => exact (Kd.R_reads' HO584.out).2.1); (case side3 => repeat (first | exact (Kd.R_reads' HO587.out).2.2 | (with_reducible refine Kd.C_alloc ?_ _) | (with_reducible refine Kd.C_drewN ?_ _) | (with_reducible refine Kd.C_drew ?_))); (case side4 => exact (Kd.R_reads' HO587.out).2.1); rintro e w' ⟨rfl, ⟨nd, rfl⟩⟩; refine ⟨_, rfl, ?_⟩))
      go_ret
      exact ⟨by first | rfl | (simp [errW_none, errW_some] <;> rfl) | (simp [*, errW_none, errW_some] <;> rfl), by repeat (first | (with_reducible first | exact HB.out | apply below_alloc | apply pw_below_drewN | apply below_drew1 | refine below_set ?_ GE580.out | refine below_set ?_ GE581.out) | exact HB.out)⟩

/-- The one pure statement of laws_FnDelaySafe. -/
def laws_FnDelaySafe.Pure : Prop := ∀ (l0 : List Int), l0.length * 1 ≤ 140737488351232 → (l0.length ≤ maxLen ∧ ∀ y0 ∈ l0, (Lit.int .u8 y0).wf = true) → ∃ k, laws_FnDelaySafe.f k l0 = some true

end Go.Proofs.Ytkmpcmhkfnoeiaa.P
/- Small laws that all proofs of this seat use. No condition. -/
namespace Go.Proofs.Ytkmpcmhkfnoeiaa.Base
open Go.RowKit Go.Proofs.Ytkmpcmhkfnoeiaa.P Go.Proofs.YtkmpcmhkfnoeiaaW.PrintWords Go.Proofs.YtkmpcmhkfnoeiaaW.PrintLast Go.Proofs.YtkmpcmhkfnoeiaaW.PrintMore
theorem w64 {x : Int} (h0 : -9223372036854775808 ≤ x) (h1 : x < 9223372036854775808) : wrap64 x = x := by unfold wrap64; omega
theorem mul_bd {a b A B : Int} (ha : 0 ≤ a) (hA : a ≤ A) (hb : 0 ≤ b) (hB : b ≤ B) : 0 ≤ a * b ∧ a * b ≤ A * B :=
  ⟨Int.mul_nonneg ha hb, Int.mul_le_mul hA hB hb (by omega)⟩
theorem in_f (a b c : Int) : impl_in.f a b c = some (decide (b ≤ a ∧ a ≤ c)) := by
  unfold impl_in.f
  by_cases h : a ≥ b
  · rw [if_pos h]; simp [show b ≤ a from h]
  · rw [if_neg h]; simp [show ¬ b ≤ a from h]
theorem l1In_f (a b c : Int) : spec_l1In.f a b c = some (decide (b ≤ a ∧ a ≤ c)) := by
  unfold spec_l1In.f
  by_cases h : a ≥ b
  · rw [if_pos h]; simp [show b ≤ a from h]
  · rw [if_neg h]; simp [show ¬ b ≤ a from h]
theorem and_two (p q : Prop) [Decidable p] [Decidable q] : (if decide p = true then some (decide q) else some false) = some (decide (p ∧ q)) := by
  by_cases hp : p <;> by_cases hq : q <;> simp [hp, hq]
theorem and_bind {α : Type} (p : Prop) [Decidable p] (x y : Option α) : (some (decide p)).bind (fun t => if t = true then x else y) = if p then x else y := by
  by_cases hp : p <;> simp [hp]
theorem mn_min (a b : Int) : mn a b = min a b := by unfold mn; omega
theorem mx_max (a b : Int) : mx a b = max a b := by unfold mx; omega
theorem tdiv_pos {a b : Int} (h : 0 ≤ a) : Int.tdiv a b = a / b := Int.tdiv_eq_ediv_of_nonneg h
theorem tmod_pos {a b : Int} (h : 0 ≤ a) : Int.tmod a b = a % b := Int.tmod_eq_emod_of_nonneg h
theorem wf64 {x : Int} (h : (Lit.int .i64 x).wf = true) : -9223372036854775808 ≤ x ∧ x < 9223372036854775808 := by
  simp [Lit.wf, IntKind.min, IntKind.max, IntKind.bits, IntKind.signed] at h
  omega
end Go.Proofs.Ytkmpcmhkfnoeiaa.Base
/- Runs that end, whatever the number of rounds from some number on; loops over a row. No condition. -/
namespace Go.Proofs.Ytkmpcmhkfnoeiaa.Gen
open Go.RowKit Go.Proofs.YtkmpcmhkfnoeiaaW.PrintWords Go.Proofs.YtkmpcmhkfnoeiaaW.PrintLast

/-- From some number of rounds on the run ends in one answer, and the answer is good. -/
def Tot {α : Type} (g : Nat → Option α) (P : α → Prop) : Prop := ∃ r, Ev g r ∧ P r
theorem Tot.ret {α : Type} {P : α → Prop} (a : α) (h : P a) : Tot (fun _ => some a) P := ⟨a, Ev.now a, h⟩
theorem Tot.of_eq {α : Type} {P : α → Prop} {g : Nat → Option α} {a : α} (e : ∀ k, g k = some a) (h : P a) : Tot g P := ⟨a, ⟨0, fun k _ => e k⟩, h⟩
theorem Tot.mono {α : Type} {P Q : α → Prop} {g : Nat → Option α} (h : Tot g P) (hpq : ∀ a, P a → Q a) : Tot g Q := by
  obtain ⟨r, h1, h2⟩ := h
  exact ⟨r, h1, hpq r h2⟩
theorem Tot.congr {α : Type} {P : α → Prop} {g f : Nat → Option α} (e : ∀ k, g k = f k) (h : Tot f P) : Tot g P := by
  have : g = f := funext e
  rw [this]; exact h
theorem Tot.step {α : Type} {P : α → Prop} {g f : Nat → Option α} (e : ∀ k, g (k + 1) = f k) (h : Tot f P) : Tot g P := by
  obtain ⟨r, h1, h2⟩ := h
  exact ⟨r, Ev.step e h1, h2⟩
theorem Tot.bind {α β : Type} {P : α → Prop} {Q : β → Prop} {g : Nat → Option α} {f : Nat → α → Option β} (h : Tot g P) (hf : ∀ a, P a → Tot (fun k => f k a) Q) : Tot (fun k => (g k).bind (f k)) Q := by
  obtain ⟨r, h1, h2⟩ := h
  obtain ⟨q, h3, h4⟩ := hf r h2
  exact ⟨q, Ev.bind h1 h3, h4⟩
/-- A call without rounds. -/
theorem Tot.bind0 {α β : Type} {Q : β → Prop} {g : Option α} {f : Nat → α → Option β} {a : α} (h : g = some a) (hf : Tot (fun k => f k a) Q) : Tot (fun k => g.bind (f k)) Q := by
  subst h; exact hf
theorem Tot.yes {α : Type} {P : α → Prop} {c : Prop} [Decidable c] {g f : Nat → Option α} (hc : c) (h : Tot g P) : Tot (fun k => if c then g k else f k) P := by
  simp only [if_pos hc]; exact h
theorem Tot.no {α : Type} {P : α → Prop} {c : Prop} [Decidable c] {g f : Nat → Option α} (hc : ¬ c) (h : Tot f P) : Tot (fun k => if c then g k else f k) P := by
  simp only [if_neg hc]; exact h
theorem Tot.ite {α : Type} {P : α → Prop} {c : Prop} [Decidable c] {g f : Nat → Option α} (h1 : c → Tot g P) (h2 : ¬ c → Tot f P) : Tot (fun k => if c then g k else f k) P := by
  by_cases hc : c
  · exact Tot.yes hc (h1 hc)
  · exact Tot.no hc (h2 hc)
theorem Tot.rounds {g : Nat → Option Bool} (h : Tot g (fun r => r = true)) : ∃ k, g k = some true := by
  obtain ⟨r, h1, rfl⟩ := h
  exact h1.rounds
theorem Tot.rounds0 {g : Option Bool} (h : Tot (fun _ => g) (fun r => r = true)) : g = some true := by
  obtain ⟨k, hk⟩ := h.rounds
  exact hk
/-- What a run answers, and how it was found. -/
theorem Tot.val {α : Type} {g : Nat → Option α} {a : α} (h : Ev g a) : Tot g (fun r => r = a) := ⟨a, h, rfl⟩
theorem Tot.ev {α : Type} {g : Nat → Option α} {a : α} (h : Tot g (fun r => r = a)) : Ev g a := by
  obtain ⟨r, h1, rfl⟩ := h
  exact h1
/-- A loop with a counter: 'Inv i s' at the head of round i, n rounds. -/
theorem Tot.loop {σ ρ : Type} {P : ρ → Prop} (F : Nat → Nat → σ → Option ρ) (n : Nat) (Inv : Nat → σ → Prop)
    (hstep : ∀ i s, i < n → Inv i s → (∀ s', Inv (i + 1) s' → Tot (fun k => F k (i + 1) s') P) → Tot (fun k => F k i s) P)
    (hend : ∀ s, Inv n s → Tot (fun k => F k n s) P) : ∀ i s, i ≤ n → Inv i s → Tot (fun k => F k i s) P := by
  have key : ∀ d i s, i + d = n → Inv i s → Tot (fun k => F k i s) P := by
    intro d
    induction d with
    | zero => intro i s hi h; obtain rfl : i = n := by omega
              exact hend s h
    | succ d ih => intro i s hi h; exact hstep i s (by omega) h (fun s' hs' => ih (i + 1) s' (by omega) hs')
  intro i s hi h
  exact key (n - i) i s (by omega) h
/-- A loop with a measure. -/
theorem Tot.meas {σ ρ : Type} {P : ρ → Prop} (F : Nat → σ → Option ρ) (Inv : σ → Prop) (m : σ → Nat)
    (hstep : ∀ s, Inv s → (∀ s', Inv s' → m s' < m s → Tot (fun k => F k s') P) → Tot (fun k => F k s) P) : ∀ s, Inv s → Tot (fun k => F k s) P := by
  have key : ∀ d s, m s < d → Inv s → Tot (fun k => F k s) P := by
    intro d
    induction d with
    | zero => intro s hd; omega
    | succ d ih => intro s hd h; exact hstep s h (fun s' hs' hm => ih s' (by omega) hs')
  intro s h
  exact key (m s + 1) s (by omega) h
theorem rdOf_at {α : Type} (d : α) (xs : List α) (i : Nat) (h : i < xs.length) : rdOf d xs (i : Int) = xs[i] := by
  unfold rdOf
  rw [List.getD_eq_getElem?_getD, Int.toNat_natCast, List.getElem?_eq_getElem h]
  rfl
theorem rd_at (xs : List Int) (i : Nat) (h : i < xs.length) : rd xs (i : Int) = xs[i] := by
  unfold rd
  rw [List.getD_eq_getElem?_getD, Int.toNat_natCast, List.getElem?_eq_getElem h]
  rfl
/-- A row that is filled from the left, element by element. -/
theorem fill_step {β : Type} (acc tgt : List β) (i : Nat) (hl : acc.length = tgt.length) (h : acc.take i = tgt.take i) (hi : i < tgt.length) : (acc.set i tgt[i]).take (i + 1) = tgt.take (i + 1) := by
  rw [List.take_succ_eq_append_getElem (by simpa [hl] using hi), List.take_succ_eq_append_getElem hi]
  rw [List.take_set_of_le (Nat.le_refl i), h]
  simp
/-- A copy: 'out[i] = c(a[i])' from 0 on. -/
theorem Tot.copy {β : Type} (F : Nat → List β → Int → Option (List β)) (tgt : List β) (z : β)
    (hstep : ∀ k acc (i : Nat) (h : i < tgt.length), acc.length = tgt.length → F (k + 1) acc (i : Int) = F k (acc.set i tgt[i]) ((i : Int) + 1))
    (hend : ∀ k acc, acc.length = tgt.length → F (k + 1) acc (tgt.length : Int) = some acc) : Tot (fun k => F k (List.replicate tgt.length z) 0) (fun r => r = tgt) := by
  have key : ∀ d (i : Nat) acc, i + d = tgt.length → acc.length = tgt.length → acc.take i = tgt.take i → Tot (fun k => F k acc (i : Int)) (fun r => r = tgt) := by
    intro d
    induction d with
    | zero =>
      intro i acc hi hl ht
      obtain rfl : i = tgt.length := by omega
      refine Tot.step (f := fun _ => some acc) (fun k => hend k acc hl) (Tot.ret _ ?_)
      rw [List.take_length, ← hl, List.take_length] at ht
      exact ht
    | succ d ih =>
      intro i acc hi hl ht
      have hlt : i < tgt.length := by omega
      refine Tot.step (fun k => hstep k acc i hlt hl) ?_
      have := ih (i + 1) (acc.set i tgt[i]) (by omega) (by simpa using hl) (fill_step acc tgt i hl ht hlt)
      simpa using this
  simpa using key tgt.length 0 (List.replicate tgt.length z) (by omega) (by simp) (by simp)
/-- A walk that only looks. -/
theorem Tot.look {ρ : Type} {r : ρ} (F : Nat → Int → Option ρ) (n : Nat) (hstep : ∀ k (i : Nat), i < n → F (k + 1) (i : Int) = F k ((i : Int) + 1)) (hend : ∀ k, F (k + 1) (n : Int) = some r) : Tot (fun k => F k 0) (fun q => q = r) := by
  have key : ∀ d (i : Nat), i + d = n → Tot (fun k => F k (i : Int)) (fun q => q = r) := by
    intro d
    induction d with
    | zero => intro i hi; obtain rfl : i = n := by omega
              exact Tot.step (f := fun _ => some r) (fun k => hend k) (Tot.ret _ rfl)
    | succ d ih => intro i hi; exact Tot.step (fun k => hstep k i (by omega)) (by simpa using ih (i + 1) (by omega))
  simpa using key n 0 (by omega)
/-- 'append' in a loop, element by element. -/
theorem Tot.collect {β : Type} (F : Nat → List β → Int → Option (List β)) (tgt : List β)
    (hstep : ∀ k (i : Nat) (h : i < tgt.length), F (k + 1) (tgt.take i) (i : Int) = F k (tgt.take i ++ [tgt[i]]) ((i : Int) + 1))
    (hend : ∀ k, F (k + 1) tgt (tgt.length : Int) = some tgt) : Tot (fun k => F k [] 0) (fun r => r = tgt) := by
  have key : ∀ d (i : Nat), i + d = tgt.length → Tot (fun k => F k (tgt.take i) (i : Int)) (fun r => r = tgt) := by
    intro d
    induction d with
    | zero =>
      intro i hi
      obtain rfl : i = tgt.length := by omega
      rw [List.take_length]
      exact Tot.step (f := fun _ => some tgt) (fun k => hend k) (Tot.ret _ rfl)
    | succ d ih =>
      intro i hi
      have hlt : i < tgt.length := by omega
      refine Tot.step (fun k => hstep k i hlt) ?_
      rw [← List.take_succ_eq_append_getElem hlt]
      simpa using ih (i + 1) (by omega)
  simpa using key tgt.length 0 (by omega)
end Go.Proofs.Ytkmpcmhkfnoeiaa.Gen
/- The reader of a code: what a pick tells. Conditions: the code's bytes are bytes, at most 2000 of them; the place is small. -/
namespace Go.Proofs.Ytkmpcmhkfnoeiaa.Pb
open Go.RowKit Go.Proofs.Ytkmpcmhkfnoeiaa.P Go.Proofs.Ytkmpcmhkfnoeiaa.Gen Go.Proofs.Ytkmpcmhkfnoeiaa.Base Go.Proofs.YtkmpcmhkfnoeiaaW.PrintWords Go.Proofs.YtkmpcmhkfnoeiaaW.PrintLast

theorem xor_ok (x y : Int) (hx : 0 ≤ x) (hx1 : x < 4611686018427387904) (hy : 0 ≤ y) (hy1 : y < 4611686018427387904) : 0 ≤ Go.bits .xor .i64 x y := by
  obtain ⟨a, rfl⟩ := Int.eq_ofNat_of_zero_le hx
  obtain ⟨b, rfl⟩ := Int.eq_ofNat_of_zero_le hy
  have ha : a < 2 ^ 62 := by have e : (2 : Nat) ^ 62 = 4611686018427387904 := by decide
                             omega
  have hb : b < 2 ^ 62 := by have e : (2 : Nat) ^ 62 = 4611686018427387904 := by decide
                             omega
  have ha' : a % 2 ^ 64 = a := Nat.mod_eq_of_lt (by omega)
  have hb' : b % 2 ^ 64 = b := Nat.mod_eq_of_lt (by omega)
  have hx := Nat.xor_lt_two_pow ha hb
  simp only [Go.bits]
  rw [show IntKind.i64.bits = 64 from rfl]
  rw [BitVec.toNat_xor, BitVec.ofInt_natCast, BitVec.ofInt_natCast, BitVec.toNat_ofNat, BitVec.toNat_ofNat, ha', hb', IntKind.wrap_i64]
  have e : (2 : Nat) ^ 62 = 4611686018427387904 := by decide
  omega
/-- The bytes of a code. -/
def Bytes (s : List Int) : Prop := s.length ≤ 2000 ∧ ∀ x ∈ s, 0 ≤ x ∧ x ≤ 255
theorem Bytes.rd {s : List Int} (h : Bytes s) (i : Int) : 0 ≤ rd s i ∧ rd s i ≤ 255 := by
  unfold Go.Proofs.YtkmpcmhkfnoeiaaW.PrintWords.rd
  rw [List.getD_eq_getElem?_getD]
  rcases Nat.lt_or_ge i.toNat s.length with hi | hi
  · rw [List.getElem?_eq_getElem hi]
    exact h.2 _ (List.getElem_mem hi)
  · rw [List.getElem?_eq_none hi]
    simp
theorem u8_wf {x : Int} (h : (Lit.int .u8 x).wf = true) : 0 ≤ x ∧ x ≤ 255 := by
  simp [Lit.wf, IntKind.min, IntKind.max, IntKind.bits, IntKind.signed] at h
  omega
theorem tmod_ok (a n : Int) (ha : 0 ≤ a) (hn : 1 ≤ n) : 0 ≤ Int.tmod a n ∧ Int.tmod a n < n := by
  rw [Int.tmod_eq_emod_of_nonneg ha]
  exact ⟨Int.emod_nonneg _ (by omega), Int.emod_lt_of_pos _ (by omega)⟩
theorem tdiv_ok (a n : Int) (ha : 0 ≤ a) (hn : 1 ≤ n) : 0 ≤ Int.tdiv a n ∧ Int.tdiv a n ≤ a := by
  rw [Int.tdiv_eq_ediv_of_nonneg ha]
  exact ⟨Int.ediv_nonneg ha (by omega), Int.ediv_le_self _ ha⟩
/-- One pick: at every number of rounds but 0. -/
theorem pick_at (k : Nat) (s : List Int) (p n : Int) (hs : Bytes s) (hp : 0 ≤ p) (hp2 : p ≤ 1000000000) :
    ∃ r, spec_l20Rd_pick.f (k + 1) s p n = some (r, p + 1) ∧ 0 ≤ r ∧ (1 ≤ n → r < n) := by
  unfold spec_l20Rd_pick.f
  rw [w64 (x := p + 1) (by omega) (by omega)]
  by_cases hn : n < 1
  · rw [if_pos hn]
    exact ⟨0, by simp [spec_l20Rd_pick.j0], Int.le_refl _, fun h => by omega⟩
  · rw [if_neg hn]
    by_cases h0 : (s.length : Int) = 0
    · refine ⟨0, ?_, Int.le_refl _, fun h => by omega⟩
      simp only [spec_l20Rd_pick.j0]
      rw [if_pos (by simpa using h0)]
    · simp only [spec_l20Rd_pick.j0]
      rw [if_neg (by simpa using h0)]
      have hl := hs.1
      rw [w64 (x := p + 1 - 1) (by omega) (by omega), show p + 1 - 1 = p by omega]
      by_cases h1 : p < (s.length : Int)
      · have hb := hs.rd p
        rw [if_pos h1, if_pos hp, if_neg (by omega), w64 (x := rd s p) (by omega) (by omega)]
        have ht := tmod_ok (rd s p) n hb.1 (by omega)
        exact ⟨_, rfl, ht.1, fun _ => ht.2⟩
      · rw [if_neg h1, if_neg h0]
        have m0 := tmod_ok p (s.length : Int) hp (by omega)
        rw [if_pos m0.1, if_pos m0.2]
        rw [w64 (x := p * 7) (by omega) (by omega), w64 (x := p * 7 + 3) (by omega) (by omega)]
        have m1 := tmod_ok (p * 7 + 3) (s.length : Int) (by omega) (by omega)
        rw [if_pos m1.1, if_pos m1.2, if_neg (by omega)]
        have b0 := hs.rd (Int.tmod p (s.length : Int))
        have b1 := hs.rd (Int.tmod (p * 7 + 3) (s.length : Int))
        have d0 := tdiv_ok p (s.length : Int) hp (by omega)
        generalize rd s (Int.tmod p (s.length : Int)) = x at b0 ⊢
        generalize rd s (Int.tmod (p * 7 + 3) (s.length : Int)) = y at b1 ⊢
        generalize Int.tdiv p (s.length : Int) = q at d0 ⊢
        rw [w64 (x := x) (by omega) (by omega), w64 (x := y) (by omega) (by omega), w64 (x := q) (by omega) (by omega)]
        rw [w64 (x := x * 131) (by omega) (by omega), w64 (x := y * 1117) (by omega) (by omega), w64 (x := p * 29) (by omega) (by omega), w64 (x := q * 53) (by omega) (by omega)]
        rw [w64 (x := x * 131 + y * 1117) (by omega) (by omega), w64 (x := x * 131 + y * 1117 + p * 29) (by omega) (by omega), w64 (x := x * 131 + y * 1117 + p * 29 + q * 53) (by omega) (by omega)]
        have e0 := tdiv_ok (x * 131 + y * 1117 + p * 29 + q * 53) 64 (by omega) (by omega)
        rw [w64 (x := Int.tdiv (x * 131 + y * 1117 + p * 29 + q * 53) 64) (by omega) (by omega)]
        have hx := xor_ok (x * 131 + y * 1117 + p * 29 + q * 53) (Int.tdiv (x * 131 + y * 1117 + p * 29 + q * 53) 64) (by omega) (by omega) e0.1 (by omega)
        have ht := tmod_ok _ n hx (by omega)
        exact ⟨_, rfl, ht.1, fun _ => ht.2⟩
theorem odd_at (k : Nat) (s : List Int) (p n : Int) (hs : Bytes s) (hp : 0 ≤ p) (hp2 : p ≤ 1000000000) :
    ∃ b q, spec_l20Rd_odd.f (k + 1) s p n = some (b, q) ∧ p ≤ q ∧ q ≤ p + 1 := by
  unfold spec_l20Rd_odd.f
  by_cases hn : n > 0
  · rw [if_pos hn]
    obtain ⟨r, hr, _⟩ := pick_at k s p n hs hp hp2
    rw [hr]
    exact ⟨_, _, rfl, by show p ≤ p + 1; omega, Int.le_refl _⟩
  · rw [if_neg hn]
    exact ⟨_, _, rfl, by omega, by omega⟩
theorem open_at (l : List Int) (hl : ∀ x ∈ l, (Lit.int .u8 x).wf = true) : ∃ s, spec_l20Open.f l = some (s, 0) ∧ Bytes s := by
  unfold spec_l20Open.f
  by_cases h : (l.length : Int) > 2000
  · rw [if_pos h, if_pos (by omega)]
    exact ⟨_, rfl, by rw [List.length_take]; omega, fun x hx => u8_wf (hl x (List.mem_of_mem_take hx))⟩
  · rw [if_neg h]
    exact ⟨_, rfl, by omega, fun x hx => u8_wf (hl x hx)⟩
/-- A place of the reader that is small. -/
def At (p q : Int) (c : Int) : Prop := p ≤ q ∧ q ≤ p + c
theorem pick_tot (s : List Int) (p n : Int) (hs : Bytes s) (hp : 0 ≤ p) (hp2 : p ≤ 1000000000) : Tot (fun k => spec_l20Rd_pick.f k s p n) (fun r => r.2 = p + 1 ∧ 0 ≤ r.1 ∧ (1 ≤ n → r.1 < n)) := by
  obtain ⟨r, hr, h0, h1⟩ := pick_at 0 s p n hs hp hp2
  refine ⟨(r, p + 1), ⟨1, fun k hk => ?_⟩, rfl, h0, h1⟩
  obtain ⟨j, rfl⟩ : ∃ j, k = j + 1 := ⟨k - 1, by omega⟩
  obtain ⟨r', hr', h0', h1'⟩ := pick_at j s p n hs hp hp2
  have hm := at_rounds (g := fun k => spec_l20Rd_pick.f k s p n) (fun k => spec_l20Rd_pick.mono _ _ _ k) (show 1 ≤ j + 1 by omega) hr
  exact hm
theorem odd_tot (s : List Int) (p n : Int) (hs : Bytes s) (hp : 0 ≤ p) (hp2 : p ≤ 1000000000) : Tot (fun k => spec_l20Rd_odd.f k s p n) (fun r => p ≤ r.2 ∧ r.2 ≤ p + 1) := by
  unfold spec_l20Rd_odd.f
  refine Tot.ite (fun _ => ?_) (fun _ => Tot.ret _ ⟨Int.le_refl _, by omega⟩)
  refine Tot.bind (pick_tot s p n hs hp hp2) ?_
  rintro ⟨a, q⟩ ⟨rfl, _, _⟩
  exact Tot.ret _ ⟨by show p ≤ p + 1; omega, Int.le_refl _⟩
theorem open_tot {β : Type} {Q : β → Prop} (l : List Int) (hl : ∀ x ∈ l, (Lit.int .u8 x).wf = true) {f : Nat → List Int × Int → Option β} (hf : ∀ s, Bytes s → Tot (fun k => f k (s, 0)) Q) : Tot (fun k => (spec_l20Open.f l).bind (f k)) Q := by
  obtain ⟨s, hs, hb⟩ := open_at l hl
  exact Tot.bind0 hs (hf s hb)
theorem some_bind {α β : Type} {Q : β → Prop} (a : α) {f : Nat → α → Option β} (h : Tot (fun k => f k a) Q) : Tot (fun k => (some a).bind (f k)) Q := h
theorem rd_mem {xs : List Int} {i : Int} (h0 : 0 ≤ i) (h1 : i < (xs.length : Int)) : rd xs i ∈ xs := by
  unfold Go.Proofs.YtkmpcmhkfnoeiaaW.PrintWords.rd
  have : i.toNat < xs.length := by omega
  rw [List.getD_eq_getElem?_getD, List.getElem?_eq_getElem this]
  exact List.getElem_mem this
end Go.Proofs.Ytkmpcmhkfnoeiaa.Pb
/- The library is alive. No condition. -/
namespace Go.Proofs.Ytkmpcmhkfnoeiaa.Alive
open Go.RowKit Go.Proofs.Ytkmpcmhkfnoeiaa.P Go.Proofs.Ytkmpcmhkfnoeiaa.Base Go.Proofs.YtkmpcmhkfnoeiaaW.PrintWords Go.Proofs.YtkmpcmhkfnoeiaaW.PrintLast
def TV (c d p : Int) : Prop := 1 ≤ c ∧ c ≤ 8 ∧ c ≤ d ∧ d ≤ p ∧ p ≤ 12
instance (c d p : Int) : Decidable (TV c d p) := by unfold TV; infer_instance
theorem task_f (c d p : Int) : impl_TaskValid.f c d p = some (decide (TV c d p)) := by
  unfold impl_TaskValid.f
  rw [in_f, in_f, and_bind, and_bind]
  by_cases h1 : 1 ≤ c ∧ c ≤ 8
  · by_cases h2 : c ≤ d ∧ d ≤ p
    · rw [if_pos h1, if_pos h2]; congr 1; rw [decide_eq_decide]; unfold TV; omega
    · rw [if_pos h1, if_neg h2]; congr 1; symm; rw [decide_eq_false_iff_not]; unfold TV; omega
  · rw [if_neg h1]; congr 1; symm; rw [decide_eq_false_iff_not]; unfold TV; omega
theorem alive_f : laws_alive.f = some true := by
  unfold laws_alive.f
  rw [task_f]; rfl
end Go.Proofs.Ytkmpcmhkfnoeiaa.Alive
/- A row is the same as itself. Condition: it is not too long. -/
namespace Go.Proofs.Ytkmpcmhkfnoeiaa.Same
open Go.RowKit Go.Proofs.Ytkmpcmhkfnoeiaa.P Go.Proofs.Ytkmpcmhkfnoeiaa.Base Go.Proofs.Ytkmpcmhkfnoeiaa.Gen Go.Proofs.YtkmpcmhkfnoeiaaW.PrintWords Go.Proofs.YtkmpcmhkfnoeiaaW.PrintLast
theorem same_tot (l : List Int) (hl : l.length ≤ 1048576) : Tot (fun k => laws_sameInts.f k l l) (fun r => r = true) := by
  have h := Tot.look (r := true) (fun k i => laws_sameInts.l0 k l l i) l.length (fun k i h => by
    simp only [laws_sameInts.l0]
    rw [if_pos (by omega), if_pos (by omega), if_pos (by omega), if_pos (by first | trivial | rfl), w64 (by omega) (by omega)]) (fun k => by
    simp only [laws_sameInts.l0]
    rw [if_neg (by omega)])
  refine Tot.congr (fun k => ?_) h
  unfold laws_sameInts.f
  rw [if_pos rfl]
end Go.Proofs.Ytkmpcmhkfnoeiaa.Same
-- Laid by a program of this work.
namespace Go.Proofs.Ytkmpcmhkfnoeiaa.P
open Go.RowKit Go.Proofs.YtkmpcmhkfnoeiaaW.PrintWords Go.Proofs.YtkmpcmhkfnoeiaaW.PrintLast Go.Proofs.YtkmpcmhkfnoeiaaW.PrintMore
attribute [local go_sem] max2_int min2_int max_two min_two max_three min_three max_four min_four   -- for this text's walks alone
set_option linter.unusedVariables false
set_option linter.unusedSimpArgs false

/-! ### spec_FlowValid: function 62 -/
def spec_FlowValid.f (a0_0 : Int) (a0_1 : Int) : Option (Bool) := (spec_l1In.f a0_0 0 20).bind fun t261 => (if t261 = true then ((spec_l1In.f a0_1 0 20).bind fun t262 => (some t262)) else (some false))
set_option maxHeartbeats 8000000 in
set_option maxRecDepth 100000 in
theorem spec_FlowValid.calls (a0_0 : Int) (a0_1 : Int) (r : Bool) (w : World) (h : spec_FlowValid.f a0_0 a0_1 = some r) :
    Calls Try.prog 62 #[.agg #[.int .i64 a0_0, .int .i64 a0_1]] w fun e w' => e = .returned (.bool r) ∧ Below w.heap.size w w' := by
  have hu41 := Try.underlying41
  have HB := Aside0.mk (Below.refl w.heap.size w)
  have H : ((spec_l1In.f a0_0 0 20).bind fun t261 => (if t261 = true then ((spec_l1In.f a0_1 0 20).bind fun t262 => (some t262)) else (some false))) = some r := h
  clear h
  replace H := Option.bind_eq_some_iff.mp H
  obtain ⟨t261, A20, H⟩ := H
  replace H : (if t261 = true then ((spec_l1In.f a0_1 0 20).bind fun t262 => (some t262)) else (some false)) = some r := H
  have A2 := Aside0.mk A20
  clear A20
  by_cases c3 : t261 = true
  · subst c3
    have H1 : ((spec_l1In.f a0_1 0 20).bind fun t262 => (some t262)) = some r := by rw [if_pos rfl] at H; exact H
    clear H
    have H := H1
    clear H1
    replace H := Option.bind_eq_some_iff.mp H
    obtain ⟨t262, A40, H⟩ := H
    replace H : (some t262) = some r := H
    have A4 := Aside0.mk A40
    clear A40
    obtain rfl := Option.some.inj H
    go_enter Try.func62, Try.ntmps62
    go_wp2_with (first | ((with_reducible refine gate_dst (N := 1) rfl ?_); refine box_event ?hg (N := 1) ?hd (cs := #[.int .i64 a0_0, .int .i64 a0_1]) (t := 41) ?hr ?_; (case hd => rfl); (case hg => rfl); (case hr => first | (go_simp; done) | (go_simp; rfl)); intro gb260 hg w5 hbox hb; have n0_ := Aside0.mk (below_step (by repeat (first | (with_reducible first | exact HB.out | apply below_alloc | apply pw_below_drewN | apply below_drew1) | exact HB.out)) hb); have n1_ := Aside0.mk (hbox); have n2_ := Aside0.mk ((by rw [hg]; exact (below_size (by repeat (first | (with_reducible first | exact HB.out | apply below_alloc | apply pw_below_drewN | apply below_drew1) | exact HB.out))) : w.heap.size ≤ gb260)); have n3_ := Aside0.mk ((by rw [hg]; exact (below_size (by repeat (first | (with_reducible first | exact HB.out | apply below_alloc | apply pw_below_drewN | apply below_drew1) | exact HB.out))) : w.heap.size ≤ gb260)); clear HB; have HB := n0_; have BK260 := n1_; have GW260 := n2_; have GE260 := n3_; clear n0_ n1_ n2_ n3_; clear hb hbox hg; have hcz6_0 : w5.cell? ⟨gb260, 0, none⟩ = some (.int .i64 a0_0) := (blk_cell BK260.out 0).trans rfl; have hcz6_1 : w5.cell? ⟨gb260, 1, none⟩ = some (.int .i64 a0_1) := (blk_cell BK260.out 1).trans rfl; have hfz6_0 := blk_frozen BK260.out 0; have hfz6_1 := blk_frozen BK260.out 1) | ((with_reducible refine gate_callee (f := 53) rfl ?_); refine goesL_ (some 5) rfl rfl Try.func53 (by kernel_rfl) rfl #[.int .i64 a0_0, .int .i64 0, .int .i64 20] rfl (by (try simp only [List.map_toArray, List.map_cons, List.map_nil]); first | done | rfl | (simp only [List.length_drop, List.length_take]; rfl)) ?_; (with_reducible refine (spec_l1In.calls a0_0 0 20 true _ A2.out).mono ?_); rintro e w' ⟨rfl, ⟨nd, rfl⟩⟩; refine ⟨_, rfl, ?_⟩) | (go_at_call 53; (with_reducible refine (spec_l1In.calls a0_1 0 20 t262 _ A4.out).mono ?_); rintro e w' ⟨rfl, ⟨nd, rfl⟩⟩))
    go_ret
    exact ⟨by first | rfl | (simp [errW_none, errW_some] <;> rfl) | (simp [*, errW_none, errW_some] <;> rfl), by repeat (first | (with_reducible first | exact HB.out | apply below_alloc | apply pw_below_drewN | apply below_drew1 | refine below_set ?_ GE260.out) | exact HB.out)⟩
  · replace c3 := Bool.eq_false_iff.mpr c3
    subst c3
    have H1 : (some false) = some r := by rw [if_neg (show ¬ (false = true) by decide)] at H; exact H
    clear H
    have H := H1
    clear H1
    obtain rfl := Option.some.inj H
    go_enter Try.func62, Try.ntmps62
    go_wp2_with (first | ((with_reducible refine gate_dst (N := 1) rfl ?_); refine box_event ?hg (N := 1) ?hd (cs := #[.int .i64 a0_0, .int .i64 a0_1]) (t := 41) ?hr ?_; (case hd => rfl); (case hg => rfl); (case hr => first | (go_simp; done) | (go_simp; rfl)); intro gb260 hg w7 hbox hb; have n0_ := Aside0.mk (below_step (by repeat (first | (with_reducible first | exact HB.out | apply below_alloc | apply pw_below_drewN | apply below_drew1) | exact HB.out)) hb); have n1_ := Aside0.mk (hbox); have n2_ := Aside0.mk ((by rw [hg]; exact (below_size (by repeat (first | (with_reducible first | exact HB.out | apply below_alloc | apply pw_below_drewN | apply below_drew1) | exact HB.out))) : w.heap.size ≤ gb260)); have n3_ := Aside0.mk ((by rw [hg]; exact (below_size (by repeat (first | (with_reducible first | exact HB.out | apply below_alloc | apply pw_below_drewN | apply below_drew1) | exact HB.out))) : w.heap.size ≤ gb260)); clear HB; have HB := n0_; have BK260 := n1_; have GW260 := n2_; have GE260 := n3_; clear n0_ n1_ n2_ n3_; clear hb hbox hg; have hcz8_0 : w7.cell? ⟨gb260, 0, none⟩ = some (.int .i64 a0_0) := (blk_cell BK260.out 0).trans rfl; have hcz8_1 : w7.cell? ⟨gb260, 1, none⟩ = some (.int .i64 a0_1) := (blk_cell BK260.out 1).trans rfl; have hfz8_0 := blk_frozen BK260.out 0; have hfz8_1 := blk_frozen BK260.out 1) | ((with_reducible refine gate_callee (f := 53) rfl ?_); refine goesL_ (some 5) rfl rfl Try.func53 (by kernel_rfl) rfl #[.int .i64 a0_0, .int .i64 0, .int .i64 20] rfl (by (try simp only [List.map_toArray, List.map_cons, List.map_nil]); first | done | rfl | (simp only [List.length_drop, List.length_take]; rfl)) ?_; (with_reducible refine (spec_l1In.calls a0_0 0 20 false _ A2.out).mono ?_); rintro e w' ⟨rfl, ⟨nd, rfl⟩⟩; refine ⟨_, rfl, ?_⟩))
    go_ret
    exact ⟨by first | rfl | (simp [errW_none, errW_some] <;> rfl) | (simp [*, errW_none, errW_some] <;> rfl), by repeat (first | (with_reducible first | exact HB.out | apply below_alloc | apply pw_below_drewN | apply below_drew1 | refine below_set ?_ GE260.out) | exact HB.out)⟩

end Go.Proofs.Ytkmpcmhkfnoeiaa.P
-- Laid by a program of this work.
namespace Go.Proofs.Ytkmpcmhkfnoeiaa.P
open Go.RowKit Go.Proofs.YtkmpcmhkfnoeiaaW.PrintWords Go.Proofs.YtkmpcmhkfnoeiaaW.PrintLast Go.Proofs.YtkmpcmhkfnoeiaaW.PrintMore
attribute [local go_sem] max2_int min2_int max_two min_two max_three min_three max_four min_four   -- for this text's walks alone
set_option linter.unusedVariables false
set_option linter.unusedSimpArgs false

/-! ### impl_BacklogBound: function 38 -/
def impl_BacklogBound.f (a0_0 : Int) (a0_1 : Int) (a1_0 : Int) (a1_1 : Int) : Option (Int) := (impl_served.f a0_0 a0_1 a1_0 a1_1).bind fun t548 => (if t548 = true then (some (wrap64 (a0_0 + (wrap64 (a0_1 * a1_0))))) else (some (-1)))
set_option maxHeartbeats 8000000 in
set_option maxRecDepth 100000 in
theorem impl_BacklogBound.calls (a0_0 : Int) (a0_1 : Int) (a1_0 : Int) (a1_1 : Int) (r : Int) (w : World) (h : impl_BacklogBound.f a0_0 a0_1 a1_0 a1_1 = some r) :
    Calls Try.prog 38 #[.agg #[.int .i64 a0_0, .int .i64 a0_1], .agg #[.int .i64 a1_0, .int .i64 a1_1]] w fun e w' => e = .returned (.int .i64 r) ∧ Below w.heap.size w w' := by
  have hu41 := Try.underlying41
  have hu51 := Try.underlying51
  have HB := Aside0.mk (Below.refl w.heap.size w)
  have H : ((impl_served.f a0_0 a0_1 a1_0 a1_1).bind fun t548 => (if t548 = true then (some (wrap64 (a0_0 + (wrap64 (a0_1 * a1_0))))) else (some (-1)))) = some r := h
  clear h
  replace H := Option.bind_eq_some_iff.mp H
  obtain ⟨t548, A30, H⟩ := H
  replace H : (if t548 = true then (some (wrap64 (a0_0 + (wrap64 (a0_1 * a1_0))))) else (some (-1))) = some r := H
  have A3 := Aside0.mk A30
  clear A30
  by_cases c4 : t548 = true
  · subst c4
    have H1 : (some (wrap64 (a0_0 + (wrap64 (a0_1 * a1_0))))) = some r := by rw [if_pos rfl] at H; exact H
    clear H
    have H := H1
    clear H1
    obtain rfl := Option.some.inj H
    go_enter Try.func38, Try.ntmps38
    go_wp2_with (first | ((with_reducible refine gate_dst (N := 2) rfl ?_); refine box_event ?hg (N := 2) ?hd (cs := #[.int .i64 a0_0, .int .i64 a0_1]) (t := 41) ?hr ?_; (case hd => rfl); (case hg => rfl); (case hr => first | (go_simp; done) | (go_simp; rfl)); intro gb546 hg w5 hbox hb; have n0_ := Aside0.mk (below_step (by repeat (first | (with_reducible first | exact HB.out | apply below_alloc | apply pw_below_drewN | apply below_drew1) | exact HB.out)) hb); have n1_ := Aside0.mk (hbox); have n2_ := Aside0.mk ((by rw [hg]; exact (below_size (by repeat (first | (with_reducible first | exact HB.out | apply below_alloc | apply pw_below_drewN | apply below_drew1) | exact HB.out))) : w.heap.size ≤ gb546)); have n3_ := Aside0.mk ((by rw [hg]; exact (below_size (by repeat (first | (with_reducible first | exact HB.out | apply below_alloc | apply pw_below_drewN | apply below_drew1) | exact HB.out))) : w.heap.size ≤ gb546)); clear HB; have HB := n0_; have BK546 := n1_; have GW546 := n2_; have GE546 := n3_; clear n0_ n1_ n2_ n3_; clear hb hbox hg) | ((with_reducible refine gate_dst (N := 3) rfl ?_); refine box_event ?hg (N := 3) ?hd (cs := #[.int .i64 a1_0, .int .i64 a1_1]) (t := 51) ?hr ?_; (case hd => rfl); (case hg => rfl); (case hr => first | (go_simp; done) | (go_simp; rfl)); intro gb547 hg w6 hbox hb; have n0_ := Aside0.mk (blk_below (g := gb546) (o := .cells #[.int .i64 a0_0, .int .i64 a0_1] 41 (0, 0)) (by (with_reducible repeat (first | refine blk_drewN ?_ _ | refine blk_drew ?_ | refine blk_alloc ?_ _)); exact BK546.out) hb); have n1_ := Aside0.mk (below_step (by repeat (first | (with_reducible first | exact HB.out | apply below_alloc | apply pw_below_drewN | apply below_drew1 | refine below_set ?_ GE546.out) | exact HB.out)) hb); have n2_ := Aside0.mk (hbox); have n3_ := Aside0.mk ((by rw [hg]; exact (below_size (by repeat (first | (with_reducible first | exact HB.out | apply below_alloc | apply pw_below_drewN | apply below_drew1 | refine below_set ?_ GE546.out) | exact HB.out))) : w.heap.size ≤ gb547)); have n4_ := Aside0.mk ((by rw [hg]; exact (below_size (by repeat (first | (with_reducible first | exact HB.out | apply below_alloc | apply pw_below_drewN | apply below_drew1 | refine below_set ?_ GE546.out) | exact HB.out))) : w.heap.size ≤ gb547)); have n5_ := Aside0.mk ((by rw [hg]; exact Nat.ne_of_lt (blk_lt (g := gb546) (o := .cells #[.int .i64 a0_0, .int .i64 a0_1] 41 (0, 0)) (by (with_reducible repeat (first | refine blk_drewN ?_ _ | refine blk_drew ?_ | refine blk_alloc ?_ _)); exact BK546.out)) : gb546 ≠ gb547)); have n6_ := Aside0.mk ((by rw [hg]; exact Nat.ne_of_gt (blk_lt (g := gb546) (o := .cells #[.int .i64 a0_0, .int .i64 a0_1] 41 (0, 0)) (by (with_reducible repeat (first | refine blk_drewN ?_ _ | refine blk_drew ?_ | refine blk_alloc ?_ _)); exact BK546.out)) : gb547 ≠ gb546)); clear BK546; clear HB; have BK546 := n0_; have HB := n1_; have BK547 := n2_; have GW547 := n3_; have GE547 := n4_; have NB546_547 := n5_; have NB547_546 := n6_; clear n0_ n1_ n2_ n3_ n4_ n5_ n6_; clear hb hbox hg; have hnb7 := NB546_547.out; have hnc7 := NB547_546.out; have hcz8_0 : w6.cell? ⟨gb546, 0, none⟩ = some (.int .i64 a0_0) := (blk_cell BK546.out 0).trans rfl; have hcz8_1 : w6.cell? ⟨gb546, 1, none⟩ = some (.int .i64 a0_1) := (blk_cell BK546.out 1).trans rfl; have hfz8_0 := blk_frozen BK546.out 0; have hfz8_1 := blk_frozen BK546.out 1; have hcz9_0 : w6.cell? ⟨gb547, 0, none⟩ = some (.int .i64 a1_0) := (blk_cell BK547.out 0).trans rfl; have hcz9_1 : w6.cell? ⟨gb547, 1, none⟩ = some (.int .i64 a1_1) := (blk_cell BK547.out 1).trans rfl; have hfz9_0 := blk_frozen BK547.out 0; have hfz9_1 := blk_frozen BK547.out 1) | ((with_reducible refine gate_callee (f := 71) rfl ?_); refine goesL_ (some 7) rfl rfl Try.func71 (by kernel_rfl) rfl #[.agg #[.int .i64 a0_0, .int .i64 a0_1], .agg #[.int .i64 a1_0, .int .i64 a1_1]] rfl (by (try simp only [List.map_toArray, List.map_cons, List.map_nil]); first | done | rfl | (simp only [List.length_drop, List.length_take]; rfl)) ?_; (with_reducible refine (impl_served.calls a0_0 a0_1 a1_0 a1_1 true _ A3.out).mono ?_); rintro e w10 ⟨rfl, hb⟩; refine ⟨_, rfl, ?_⟩; have n0_ := Aside0.mk (blk_below (g := gb546) (o := .cells #[.int .i64 a0_0, .int .i64 a0_1] 41 (0, 0)) (by (with_reducible repeat (first | refine blk_drewN ?_ _ | refine blk_drew ?_ | refine blk_alloc ?_ _)); exact BK546.out) hb); have n1_ := Aside0.mk (blk_below (g := gb547) (o := .cells #[.int .i64 a1_0, .int .i64 a1_1] 51 (0, 0)) (by (with_reducible repeat (first | refine blk_drewN ?_ _ | refine blk_drew ?_ | refine blk_alloc ?_ _)); exact BK547.out) hb); have n2_ := Aside0.mk (below_step (by repeat (first | (with_reducible first | exact HB.out | apply below_alloc | apply pw_below_drewN | apply below_drew1 | refine below_set ?_ GE546.out | refine below_set ?_ GE547.out) | exact HB.out)) hb); clear BK546; clear BK547; clear HB; have BK546 := n0_; have BK547 := n1_; have HB := n2_; clear n0_ n1_ n2_; (try clear hb); (try clear hb2); (try clear hk); (try clear hi); have hcz11_0 : w10.cell? ⟨gb546, 0, none⟩ = some (.int .i64 a0_0) := (blk_cell BK546.out 0).trans rfl; have hcz11_1 : w10.cell? ⟨gb546, 1, none⟩ = some (.int .i64 a0_1) := (blk_cell BK546.out 1).trans rfl; have hfz11_0 := blk_frozen BK546.out 0; have hfz11_1 := blk_frozen BK546.out 1; have hcz12_0 : w10.cell? ⟨gb547, 0, none⟩ = some (.int .i64 a1_0) := (blk_cell BK547.out 0).trans rfl; have hcz12_1 : w10.cell? ⟨gb547, 1, none⟩ = some (.int .i64 a1_1) := (blk_cell BK547.out 1).trans rfl; have hfz12_0 := blk_frozen BK547.out 0; have hfz12_1 := blk_frozen BK547.out 1))
    go_ret
    exact ⟨by first | rfl | (simp [errW_none, errW_some] <;> rfl) | (simp [*, errW_none, errW_some] <;> rfl), by repeat (first | (with_reducible first | exact HB.out | apply below_alloc | apply pw_below_drewN | apply below_drew1 | refine below_set ?_ GE546.out | refine below_set ?_ GE547.out) | exact HB.out)⟩
  · replace c4 := Bool.eq_false_iff.mpr c4
    subst c4
    have H1 : (some (-1)) = some r := by rw [if_neg (show ¬ (false = true) by decide)] at H; exact H
    clear H
    have H := H1
    clear H1
    obtain rfl := Option.some.inj H
    go_enter Try.func38, Try.ntmps38
    go_wp2_with (first | ((with_reducible refine gate_dst (N := 2) rfl ?_); refine box_event ?hg (N := 2) ?hd (cs := #[.int .i64 a0_0, .int .i64 a0_1]) (t := 41) ?hr ?_; (case hd => rfl); (case hg => rfl); (case hr => first | (go_simp; done) | (go_simp; rfl)); intro gb546 hg w13 hbox hb; have n0_ := Aside0.mk (below_step (by repeat (first | (with_reducible first | exact HB.out | apply below_alloc | apply pw_below_drewN | apply below_drew1) | exact HB.out)) hb); have n1_ := Aside0.mk (hbox); have n2_ := Aside0.mk ((by rw [hg]; exact (below_size (by repeat (first | (with_reducible first | exact HB.out | apply below_alloc | apply pw_below_drewN | apply below_drew1) | exact HB.out))) : w.heap.size ≤ gb546)); have n3_ := Aside0.mk ((by rw [hg]; exact (below_size (by repeat (first | (with_reducible first | exact HB.out | apply below_alloc | apply pw_below_drewN | apply below_drew1) | exact HB.out))) : w.heap.size ≤ gb546)); clear HB; have HB := n0_; have BK546 := n1_; have GW546 := n2_; have GE546 := n3_; clear n0_ n1_ n2_ n3_; clear hb hbox hg) | ((with_reducible refine gate_dst (N := 3) rfl ?_); refine box_event ?hg (N := 3) ?hd (cs := #[.int .i64 a1_0, .int .i64 a1_1]) (t := 51) ?hr ?_; (case hd => rfl); (case hg => rfl); (case hr => first | (go_simp; done) | (go_simp; rfl)); intro gb547 hg w14 hbox hb; have n0_ := Aside0.mk (blk_below (g := gb546) (o := .cells #[.int .i64 a0_0, .int .i64 a0_1] 41 (0, 0)) (by (with_reducible repeat (first | refine blk_drewN ?_ _ | refine blk_drew ?_ | refine blk_alloc ?_ _)); exact BK546.out) hb); have n1_ := Aside0.mk (below_step (by repeat (first | (with_reducible first | exact HB.out | apply below_alloc | apply pw_below_drewN | apply below_drew1 | refine below_set ?_ GE546.out) | exact HB.out)) hb); have n2_ := Aside0.mk (hbox); have n3_ := Aside0.mk ((by rw [hg]; exact (below_size (by repeat (first | (with_reducible first | exact HB.out | apply below_alloc | apply pw_below_drewN | apply below_drew1 | refine below_set ?_ GE546.out) | exact HB.out))) : w.heap.size ≤ gb547)); have n4_ := Aside0.mk ((by rw [hg]; exact (below_size (by repeat (first | (with_reducible first | exact HB.out | apply below_alloc | apply pw_below_drewN | apply below_drew1 | refine below_set ?_ GE546.out) | exact HB.out))) : w.heap.size ≤ gb547)); have n5_ := Aside0.mk ((by rw [hg]; exact Nat.ne_of_lt (blk_lt (g := gb546) (o := .cells #[.int .i64 a0_0, .int .i64 a0_1] 41 (0, 0)) (by (with_reducible repeat (first | refine blk_drewN ?_ _ | refine blk_drew ?_ | refine blk_alloc ?_ _)); exact BK546.out)) : gb546 ≠ gb547)); have n6_ := Aside0.mk ((by rw [hg]; exact Nat.ne_of_gt (blk_lt (g := gb546) (o := .cells #[.int .i64 a0_0, .int .i64 a0_1] 41 (0, 0)) (by (with_reducible repeat (first | refine blk_drewN ?_ _ | refine blk_drew ?_ | refine blk_alloc ?_ _)); exact BK546.out)) : gb547 ≠ gb546)); clear BK546; clear HB; have BK546 := n0_; have HB := n1_; have BK547 := n2_; have GW547 := n3_; have GE547 := n4_; have NB546_547 := n5_; have NB547_546 := n6_; clear n0_ n1_ n2_ n3_ n4_ n5_ n6_; clear hb hbox hg; have hnb15 := NB546_547.out; have hnc15 := NB547_546.out; have hcz16_0 : w14.cell? ⟨gb546, 0, none⟩ = some (.int .i64 a0_0) := (blk_cell BK546.out 0).trans rfl; have hcz16_1 : w14.cell? ⟨gb546, 1, none⟩ = some (.int .i64 a0_1) := (blk_cell BK546.out 1).trans rfl; have hfz16_0 := blk_frozen BK546.out 0; have hfz16_1 := blk_frozen BK546.out 1; have hcz17_0 : w14.cell? ⟨gb547, 0, none⟩ = some (.int .i64 a1_0) := (blk_cell BK547.out 0).trans rfl; have hcz17_1 : w14.cell? ⟨gb547, 1, none⟩ = some (.int .i64 a1_1) := (blk_cell BK547.out 1).trans rfl; have hfz17_0 := blk_frozen BK547.out 0; have hfz17_1 := blk_frozen BK547.out 1) | ((with_reducible refine gate_callee (f := 71) rfl ?_); refine goesL_ (some 7) rfl rfl Try.func71 (by kernel_rfl) rfl #[.agg #[.int .i64 a0_0, .int .i64 a0_1], .agg #[.int .i64 a1_0, .int .i64 a1_1]] rfl (by (try simp only [List.map_toArray, List.map_cons, List.map_nil]); first | done | rfl | (simp only [List.length_drop, List.length_take]; rfl)) ?_; (with_reducible refine (impl_served.calls a0_0 a0_1 a1_0 a1_1 false _ A3.out).mono ?_); rintro e w18 ⟨rfl, hb⟩; refine ⟨_, rfl, ?_⟩; have n0_ := Aside0.mk (blk_below (g := gb546) (o := .cells #[.int .i64 a0_0, .int .i64 a0_1] 41 (0, 0)) (by (with_reducible repeat (first | refine blk_drewN ?_ _ | refine blk_drew ?_ | refine blk_alloc ?_ _)); exact BK546.out) hb); have n1_ := Aside0.mk (blk_below (g := gb547) (o := .cells #[.int .i64 a1_0, .int .i64 a1_1] 51 (0, 0)) (by (with_reducible repeat (first | refine blk_drewN ?_ _ | refine blk_drew ?_ | refine blk_alloc ?_ _)); exact BK547.out) hb); have n2_ := Aside0.mk (below_step (by repeat (first | (with_reducible first | exact HB.out | apply below_alloc | apply pw_below_drewN | apply below_drew1 | refine below_set ?_ GE546.out | refine below_set ?_ GE547.out) | exact HB.out)) hb); clear BK546; clear BK547; clear HB; have BK546 := n0_; have BK547 := n1_; have HB := n2_; clear n0_ n1_ n2_; (try clear hb); (try clear hb2); (try clear hk); (try clear hi)))
    go_ret
    exact ⟨by first | rfl | (simp [errW_none, errW_some] <;> rfl) | (simp [*, errW_none, errW_some] <;> rfl), by repeat (first | (with_reducible first | exact HB.out | apply below_alloc | apply pw_below_drewN | apply below_drew1 | refine below_set ?_ GE546.out | refine below_set ?_ GE547.out) | exact HB.out)⟩

end Go.Proofs.Ytkmpcmhkfnoeiaa.P
/- The bounds of network calculus (the second seat has no more), each as a plain function. No condition. -/
namespace Go.Proofs.Ytkmpcmhkfnoeiaa.Net
open Go.RowKit Go.Proofs.Ytkmpcmhkfnoeiaa.P Go.Proofs.Ytkmpcmhkfnoeiaa.Base Go.Proofs.YtkmpcmhkfnoeiaaW.PrintWords Go.Proofs.YtkmpcmhkfnoeiaaW.PrintLast
def FV (a b : Int) : Prop := 0 ≤ a ∧ a ≤ 20 ∧ 0 ≤ b ∧ b ≤ 20
def LV (a b : Int) : Prop := 0 ≤ a ∧ a ≤ 20 ∧ 1 ≤ b ∧ b ≤ 20
instance (a b : Int) : Decidable (FV a b) := by unfold FV; infer_instance
instance (a b : Int) : Decidable (LV a b) := by unfold LV; infer_instance
theorem flow_f (a b : Int) : impl_FlowValid.f a b = some (decide (FV a b)) := by
  unfold impl_FlowValid.f
  rw [in_f, in_f]; simp only [Option.bind_some]
  rw [and_two]
  congr 1; rw [decide_eq_decide]; unfold FV; omega
theorem link_f (a b : Int) : impl_LinkValid.f a b = some (decide (LV a b)) := by
  unfold impl_LinkValid.f
  rw [in_f, in_f]; simp only [Option.bind_some]
  rw [and_two]
  congr 1; rw [decide_eq_decide]; unfold LV; omega
theorem sflow_f (a b : Int) : spec_FlowValid.f a b = some (decide (FV a b)) := by
  unfold spec_FlowValid.f
  rw [l1In_f, l1In_f]; simp only [Option.bind_some]
  rw [and_two]
  congr 1; rw [decide_eq_decide]; unfold FV; omega
theorem slink_f (a b : Int) : spec_LinkValid.f a b = some (decide (LV a b)) := by
  unfold spec_LinkValid.f
  rw [l1In_f, l1In_f]; simp only [Option.bind_some]
  rw [and_two]
  congr 1; rw [decide_eq_decide]; unfold LV; omega
theorem served_f (a b c d : Int) : impl_served.f a b c d = some (decide (FV a b ∧ LV c d ∧ b ≤ d)) := by
  unfold impl_served.f
  rw [flow_f, link_f, and_bind, and_bind]
  by_cases h1 : FV a b <;> by_cases h2 : LV c d <;> by_cases h3 : b ≤ d <;> simp [h1, h2, h3]
/-- What the backlog's and the delay's bounds are. -/
def bb (a b c d : Int) : Int := if FV a b ∧ LV c d ∧ b ≤ d then a + b * c else -1
def db (a b c d : Int) : Int := if FV a b ∧ LV c d ∧ b ≤ d then c + (a + d - 1) / d else -1
theorem bb_wrap {a b c d : Int} (h1 : FV a b) (h2 : LV c d) : wrap64 (a + wrap64 (b * c)) = a + b * c := by
  unfold FV at h1; unfold LV at h2
  have h := mul_bd (a := b) (b := c) (A := 20) (B := 20) (by omega) (by omega) (by omega) (by omega)
  rw [w64 (x := b * c) (by omega) (by omega), w64 (by omega) (by omega)]
theorem db_wrap {a b c d : Int} (h1 : FV a b) (h2 : LV c d) : wrap64 (c + wrap64 (Int.tdiv (wrap64 (wrap64 (a + d) - 1)) d)) = c + (a + d - 1) / d := by
  unfold FV at h1; unfold LV at h2
  rw [w64 (x := a + d) (by omega) (by omega), w64 (x := a + d - 1) (by omega) (by omega), Int.tdiv_eq_ediv_of_nonneg (by omega)]
  have e0 : 0 ≤ (a + d - 1) / d := Int.ediv_nonneg (by omega) (by omega)
  have e1 : (a + d - 1) / d ≤ a + d - 1 := Int.ediv_le_self _ (by omega)
  rw [w64 (x := (a + d - 1) / d) (by omega) (by omega), w64 (by omega) (by omega)]
theorem backlog_f (a b c d : Int) : impl_BacklogBound.f a b c d = some (bb a b c d) := by
  unfold impl_BacklogBound.f bb
  rw [served_f, and_bind]
  by_cases h : FV a b ∧ LV c d ∧ b ≤ d
  · rw [if_pos h, if_pos h, bb_wrap h.1 h.2.1]
  · rw [if_neg h, if_neg h]
theorem delay_f (a b c d : Int) : impl_DelayBound.f a b c d = some (db a b c d) := by
  unfold impl_DelayBound.f db impl_ceil.f
  rw [served_f, and_bind]
  by_cases h : FV a b ∧ LV c d ∧ b ≤ d
  · have h2 := h.2.1; unfold LV at h2
    rw [if_pos h, if_pos h, if_neg (by omega)]; simp only [Option.bind_some]; rw [db_wrap h.1 h.2.1]
  · rw [if_neg h, if_neg h]
end Go.Proofs.Ytkmpcmhkfnoeiaa.Net
-- Laid by a program of this work.
namespace Go.Proofs.Ytkmpcmhkfnoeiaa.P
open Go.RowKit Go.Proofs.YtkmpcmhkfnoeiaaW.PrintWords Go.Proofs.YtkmpcmhkfnoeiaaW.PrintLast Go.Proofs.YtkmpcmhkfnoeiaaW.PrintMore
attribute [local go_sem] max2_int min2_int max_two min_two max_three min_three max_four min_four   -- for this text's walks alone
set_option linter.unusedVariables false
set_option linter.unusedSimpArgs false

/-! ### spec_l23Conforms: function 63 -/
mutual
def spec_l23Conforms.l0 : Nat → List Int → Int → Int → Int → Option (Bool)
  | 0, _, _, _, _ => none
  | k + 1, x1, x5, x264000, x264001 => if x5 < (x1.length : Int) then (spec_l23Conforms.l1 k x1 x5 0 x5 x264000 x264001) else (some true)
def spec_l23Conforms.l1 : Nat → List Int → Int → Int → Int → Int → Int → Option (Bool)
  | 0, _, _, _, _, _, _ => none
  | k + 1, x1, x5, x6, x7, x264000, x264001 => if x7 < (x1.length : Int) then (if 0 ≤ x7 then (if (wrap64 (x6 + (rd x1 x7))) > (wrap64 (x264000 + (wrap64 (x264001 * (wrap64 ((wrap64 (x7 - x5)) + 1)))))) then (some false) else (spec_l23Conforms.l1 k x1 x5 (wrap64 (x6 + (rd x1 x7))) (wrap64 (x7 + 1)) x264000 x264001)) else (none)) else (spec_l23Conforms.l0 k x1 (wrap64 (x5 + 1)) x264000 x264001)
end
def spec_l23Conforms.f (k : Nat) (a0_0 : Int) (a0_1 : Int) (l1 : List Int) : Option (Bool) := spec_l23Conforms.l0 k l1 0 a0_0 a0_1
theorem spec_l23Conforms.mono_l : ∀ k, (∀ y0 y1 y2 y3, LeO (spec_l23Conforms.l0 k y0 y1 y2 y3) (spec_l23Conforms.l0 (k + 1) y0 y1 y2 y3)) ∧ (∀ y0 y1 y2 y3 y4 y5, LeO (spec_l23Conforms.l1 k y0 y1 y2 y3 y4 y5) (spec_l23Conforms.l1 (k + 1) y0 y1 y2 y3 y4 y5))
  | 0 => ⟨fun _ _ _ _ r h => by simp [spec_l23Conforms.l0] at h, fun _ _ _ _ _ _ r h => by simp [spec_l23Conforms.l1] at h⟩
  | k + 1 => by
    obtain ⟨ih0, ih1⟩ := spec_l23Conforms.mono_l k
    refine ⟨?_, ?_⟩
    · intro y0 y1 y2 y3
      unfold spec_l23Conforms.l0
      repeat' first
      | (with_reducible exact ih0 _ _ _ _)
      | (with_reducible exact ih1 _ _ _ _ _ _)
      | (with_reducible exact LeO.refl _)
      | (with_reducible exact LeO.none _)
      | (with_reducible refine LeO.ite ?_ ?_)
      | (with_reducible refine LeO.bind ?_ (fun _ => ?_))
      | exact ih0 _ _ _ _
      | exact ih1 _ _ _ _ _ _
      | exact LeO.none _
      | refine LeO.ite ?_ ?_
      | refine LeO.bind ?_ (fun _ => ?_)
    · intro y0 y1 y2 y3 y4 y5
      unfold spec_l23Conforms.l1
      repeat' first
      | (with_reducible exact ih0 _ _ _ _)
      | (with_reducible exact ih1 _ _ _ _ _ _)
      | (with_reducible exact LeO.refl _)
      | (with_reducible exact LeO.none _)
      | (with_reducible refine LeO.ite ?_ ?_)
      | (with_reducible refine LeO.bind ?_ (fun _ => ?_))
      | exact ih0 _ _ _ _
      | exact ih1 _ _ _ _ _ _
      | exact LeO.none _
      | refine LeO.ite ?_ ?_
      | refine LeO.bind ?_ (fun _ => ?_)
theorem spec_l23Conforms.mono : ∀ a0 a1 a2 k, LeO (spec_l23Conforms.f k a0 a1 a2) (spec_l23Conforms.f (k + 1) a0 a1 a2) := by
  intro a0 a1 a2 k
  obtain ⟨ih0, ih1⟩ := spec_l23Conforms.mono_l k
  unfold spec_l23Conforms.f
  repeat' first
      | (with_reducible exact ih0 _ _ _ _)
      | (with_reducible exact ih1 _ _ _ _ _ _)
      | (with_reducible exact LeO.refl _)
      | (with_reducible exact LeO.none _)
      | (with_reducible refine LeO.ite ?_ ?_)
      | (with_reducible refine LeO.bind ?_ (fun _ => ?_))
      | exact ih0 _ _ _ _
      | exact ih1 _ _ _ _ _ _
      | exact LeO.none _
      | refine LeO.ite ?_ ?_
      | refine LeO.bind ?_ (fun _ => ?_)
set_option maxHeartbeats 8000000 in
set_option maxRecDepth 100000 in
theorem spec_l23Conforms.calls (k : Nat) (a0_0 : Int) (a0_1 : Int) (A1 : Option Addr) (c1 : Nat) (l1 : List Int) (r : Bool) (w : World) (hr1 : Kd.C (Kd.int .i64) w A1 l1.length l1) (hc1 : l1.length ≤ c1) (h : spec_l23Conforms.f k a0_0 a0_1 l1 = some r) :
    Calls Try.prog 63 #[.agg #[.int .i64 a0_0, .int .i64 a0_1], .slice A1 l1.length c1] w fun e w' => e = .returned (.bool r) ∧ Below w.heap.size w w' := by
  have hu41 := Try.underlying41
  have HR1 := Aside0.mk hr1
  have HC1 := Aside0.mk hc1
  clear hr1 hc1
  have HB := Aside0.mk (Below.refl w.heap.size w)
  have H : (spec_l23Conforms.l0 k l1 0 a0_0 a0_1) = some r := h
  clear h
  have H' := Aside0.mk H
  clear H
  go_enter Try.func63, Try.ntmps63
  go_wp2_with (first | ((with_reducible refine gate_dst (N := 2) rfl ?_); refine box_event ?hg (N := 2) ?hd (cs := #[.int .i64 a0_0, .int .i64 a0_1]) (t := 41) ?hr ?_; (case hd => rfl); (case hg => rfl); (case hr => first | (go_simp; done) | (go_simp; rfl)); intro gb263 hg w3 hbox hb; have n0_ := Aside0.mk (below_step (by repeat (first | (with_reducible first | exact HB.out | apply below_alloc | apply pw_below_drewN | apply below_drew1) | exact HB.out)) hb); have n1_ := Aside0.mk (hbox); have n2_ := Aside0.mk ((by rw [hg]; exact (below_size (by repeat (first | (with_reducible first | exact HB.out | apply below_alloc | apply pw_below_drewN | apply below_drew1) | exact HB.out))) : w.heap.size ≤ gb263)); have n3_ := Aside0.mk ((by rw [hg]; exact (below_size (by repeat (first | (with_reducible first | exact HB.out | apply below_alloc | apply pw_below_drewN | apply below_drew1) | exact HB.out))) : w.heap.size ≤ gb263)); clear HB; have HB := n0_; have BK263 := n1_; have GW263 := n2_; have GE263 := n3_; clear n0_ n1_ n2_ n3_; clear hb hbox hg))
  go_loopg [5] k (fun kq v5 w' => ∃ (x5_1 : Int), v5 = .int .i64 x5_1 ∧ Aside0 (spec_l23Conforms.l0 kq l1 x5_1 a0_0 a0_1 = some r) ∧ Aside0 (kq ≤ k) ∧ Aside0 (w'.heap[gb263]? = some (.cells #[.int .i64 a0_0, .int .i64 a0_1] 41 (0, 0))) ∧ Aside0 (Below w.heap.size w w'))
  case atStart => exact ⟨(0), (by first | rfl | (simp; done) | (simp [*]; done)), H', ⟨Nat.le_refl _⟩, ⟨by (with_reducible repeat (first | refine blk_drewN ?_ _ | refine blk_drew ?_ | refine blk_alloc ?_ _)); exact BK263.out⟩, ⟨by repeat (first | (with_reducible first | exact HB.out | apply below_alloc | apply pw_below_drewN | apply below_drew1 | refine below_set ?_ GE263.out) | exact HB.out)⟩⟩
  case round =>
    clear H'
    try clear c1
    try clear p2
    obtain ⟨x5_1, rfl, HA, HK1, BK263, HB⟩ := hrel
    cases gk with
    | zero => exact absurd HA.out (by simp [spec_l23Conforms.l0])
    | succ k1 =>
      have H := HA.out
      clear HA
      simp only [spec_l23Conforms.l0] at H
      by_cases c4 : x5_1 < (l1.length : Int)
      · rw [if_pos c4] at H
        have c4b0 : decide (x5_1 < (l1.length : Int)) = true := decide_eq_true c4
        clear c4
        have H' := Aside0.mk H
        clear H
        go_wp2
        go_loopg [6, 7] k1 (fun kq v6 v7 w' => ∃ (x6_2 : Int) (x7_2 : Int), v6 = .int .i64 x6_2 ∧ v7 = .int .i64 x7_2 ∧ Aside0 (spec_l23Conforms.l1 kq l1 x5_1 x6_2 x7_2 a0_0 a0_1 = some r) ∧ Aside0 (kq ≤ k1) ∧ Aside0 (w'.heap[gb263]? = some (.cells #[.int .i64 a0_0, .int .i64 a0_1] 41 (0, 0))) ∧ Aside0 (Below w.heap.size w w'))
        case atStart => exact ⟨(0), (x5_1), (by first | rfl | (simp; done) | (simp [*]; done)), (by first | rfl | (simp; done) | (simp [*]; done)), H', ⟨Nat.le_refl _⟩, ⟨by (with_reducible repeat (first | refine blk_drewN ?_ _ | refine blk_drew ?_ | refine blk_alloc ?_ _)); exact BK263.out⟩, ⟨by repeat (first | (with_reducible first | exact HB.out | apply below_alloc | apply pw_below_drewN | apply below_drew1 | refine below_set ?_ GE263.out) | exact HB.out)⟩⟩
        case round =>
          clear H'
          try clear c1
          try clear p2
          try clear c4
          try clear c4b0
          try clear p2
          obtain ⟨x6_2, x7_2, rfl, rfl, HA, HK2, BK263, HB⟩ := hrel
          cases gk with
          | zero => exact absurd HA.out (by simp [spec_l23Conforms.l1])
          | succ k2 =>
            have H := HA.out
            clear HA
            simp only [spec_l23Conforms.l1] at H
            by_cases c5 : x7_2 < (l1.length : Int)
            · rw [if_pos c5] at H
              have c5b0 : decide (x7_2 < (l1.length : Int)) = true := decide_eq_true c5
              clear c5
              by_cases c6 : 0 ≤ x7_2
              · rw [if_pos c6] at H
                have c6b0 : decide (0 ≤ x7_2) = true := decide_eq_true c6
                clear c6
                by_cases c7 : (wrap64 (x6_2 + (rd l1 x7_2))) > (wrap64 (a0_0 + (wrap64 (a0_1 * (wrap64 ((wrap64 (x7_2 - x5_1)) + 1))))))
                · rw [if_pos c7] at H
                  have c7b0 : decide ((wrap64 (a0_0 + (wrap64 (a0_1 * (wrap64 ((wrap64 (x7_2 - x5_1)) + 1)))))) < (wrap64 (x6_2 + (rd l1 x7_2)))) = true := decide_eq_true c7
                  clear c7
                  obtain rfl := Option.some.inj H
                  have p264 : 0 ≤ (x7_2 : Int) := of_decide_eq_true (by first | (with_reducible assumption) | assumption)
                  have q264 : x7_2 < (l1.length : Int) := of_decide_eq_true (by first | (with_reducible assumption) | assumption)
                  obtain ⟨ad264, e264, hx264_0⟩ := Kd.at_int HR1.out x7_2 p264 q264
                  cases e264
                  replace hx264_0 := (HB.out.cell (World.block_lt_of_cell? w _ hx264_0)).trans hx264_0
                  replace p264 := eq_true p264
                  replace q264 := eq_true q264
                  have hcz8_0 : wr.cell? ⟨gb263, 0, none⟩ = some (.int .i64 a0_0) := (blk_cell BK263.out 0).trans rfl
                  have hcz8_1 : wr.cell? ⟨gb263, 1, none⟩ = some (.int .i64 a0_1) := (blk_cell BK263.out 1).trans rfl
                  have hfz8_0 := blk_frozen BK263.out 0
                  have hfz8_1 := blk_frozen BK263.out 1
                  go_wp2
                  go_ret
                  exact ⟨by first | rfl | (simp [errW_none, errW_some] <;> rfl) | (simp [*, errW_none, errW_some] <;> rfl), by repeat (first | (with_reducible first | exact HB.out | apply below_alloc | apply pw_below_drewN | apply below_drew1 | refine below_set ?_ GE263.out) | exact HB.out)⟩
                · rw [if_neg c7] at H
                  have c7b0 : decide ((wrap64 (a0_0 + (wrap64 (a0_1 * (wrap64 ((wrap64 (x7_2 - x5_1)) + 1)))))) < (wrap64 (x6_2 + (rd l1 x7_2)))) = false := decide_eq_false c7
                  clear c7
                  have H' := Aside0.mk H
                  clear H
                  have p264 : 0 ≤ (x7_2 : Int) := of_decide_eq_true (by first | (with_reducible assumption) | assumption)
                  have q264 : x7_2 < (l1.length : Int) := of_decide_eq_true (by first | (with_reducible assumption) | assumption)
                  obtain ⟨ad264, e264, hx264_0⟩ := Kd.at_int HR1.out x7_2 p264 q264
                  cases e264
                  replace hx264_0 := (HB.out.cell (World.block_lt_of_cell? w _ hx264_0)).trans hx264_0
                  replace p264 := eq_true p264
                  replace q264 := eq_true q264
                  have hcz9_0 : wr.cell? ⟨gb263, 0, none⟩ = some (.int .i64 a0_0) := (blk_cell BK263.out 0).trans rfl
                  have hcz9_1 : wr.cell? ⟨gb263, 1, none⟩ = some (.int .i64 a0_1) := (blk_cell BK263.out 1).trans rfl
                  have hfz9_0 := blk_frozen BK263.out 0
                  have hfz9_1 := blk_frozen BK263.out 1
                  go_wp2
                  go_roundg k2
                  case measure => have := HK1.out; have := HK2.out; omega
                  case rel => exact ⟨(wrap64 (x6_2 + (rd l1 x7_2))), (wrap64 (x7_2 + 1)), (by first | rfl | (simp; done) | (simp [*]; done)), (by first | rfl | (simp; done) | (simp [*]; done)), H', ⟨by have := HK1.out; have := HK2.out; omega⟩, ⟨by (with_reducible repeat (first | refine blk_drewN ?_ _ | refine blk_drew ?_ | refine blk_alloc ?_ _)); exact BK263.out⟩, ⟨by repeat (first | (with_reducible first | exact HB.out | apply below_alloc | apply pw_below_drewN | apply below_drew1 | refine below_set ?_ GE263.out) | exact HB.out)⟩⟩
              · rw [if_neg c6] at H
                exact absurd H (by simp)
            · rw [if_neg c5] at H
              have c5b0 : decide (x7_2 < (l1.length : Int)) = false := decide_eq_false c5
              clear c5
              have H' := Aside0.mk H
              clear H
              go_wp2
              go_roundg k2
              case measure => have := HK1.out; have := HK2.out; omega
              case rel => exact ⟨(wrap64 (x5_1 + 1)), (by first | rfl | (simp; done) | (simp [*]; done)), H', ⟨by have := HK1.out; have := HK2.out; omega⟩, ⟨by (with_reducible repeat (first | refine blk_drewN ?_ _ | refine blk_drew ?_ | refine blk_alloc ?_ _)); exact BK263.out⟩, ⟨by repeat (first | (with_reducible first | exact HB.out | apply below_alloc | apply pw_below_drewN | apply below_drew1 | refine below_set ?_ GE263.out) | exact HB.out)⟩⟩
      · rw [if_neg c4] at H
        have c4b0 : decide (x5_1 < (l1.length : Int)) = false := decide_eq_false c4
        clear c4
        obtain rfl := Option.some.inj H
        go_wp2
        go_ret
        exact ⟨by first | rfl | (simp [errW_none, errW_some] <;> rfl) | (simp [*, errW_none, errW_some] <;> rfl), by repeat (first | (with_reducible first | exact HB.out | apply below_alloc | apply pw_below_drewN | apply below_drew1 | refine below_set ?_ GE263.out) | exact HB.out)⟩

end Go.Proofs.Ytkmpcmhkfnoeiaa.P
-- Laid by a program of this work.
namespace Go.Proofs.Ytkmpcmhkfnoeiaa.P
open Go.RowKit Go.Proofs.YtkmpcmhkfnoeiaaW.PrintWords Go.Proofs.YtkmpcmhkfnoeiaaW.PrintLast Go.Proofs.YtkmpcmhkfnoeiaaW.PrintMore
attribute [local go_sem] max2_int min2_int max_two min_two max_three min_three max_four min_four   -- for this text's walks alone
set_option linter.unusedVariables false
set_option linter.unusedSimpArgs false

/-! ### spec_Conforms: function 24 -/
mutual
def spec_Conforms.j0 : Nat → List Int → Bool → Int → Int → Option (Bool)
  | 0, _, _, _, _ => none
  | k + 1, x1, x13, x266000, x266001 => if x13 = true then (some false) else (spec_Conforms.l0 k x1 0 x266000 x266001)
def spec_Conforms.l0 : Nat → List Int → Int → Int → Int → Option (Bool)
  | 0, _, _, _, _ => none
  | k + 1, x1, x5, x266000, x266001 => if x5 < (x1.length : Int) then (if 0 ≤ x5 then ((spec_l1In.f (rd x1 x5) 0 1000).bind fun t268 => (if t268 = true then (spec_Conforms.l0 k x1 (wrap64 (x5 + 1)) x266000 x266001) else (some false))) else (none)) else ((spec_l23Conforms.f k x266000 x266001 x1).bind fun t269 => (some t269))
end
def spec_Conforms.f (k : Nat) (a0_0 : Int) (a0_1 : Int) (l1 : List Int) : Option (Bool) := (spec_FlowValid.f a0_0 a0_1).bind fun t266 => (if t266 = true then (spec_Conforms.j0 k l1 (decide ((l1.length : Int) > 120)) a0_0 a0_1) else (spec_Conforms.j0 k l1 true a0_0 a0_1))
theorem spec_Conforms.mono_l : ∀ k, (∀ y0 y1 y2 y3, LeO (spec_Conforms.j0 k y0 y1 y2 y3) (spec_Conforms.j0 (k + 1) y0 y1 y2 y3)) ∧ (∀ y0 y1 y2 y3, LeO (spec_Conforms.l0 k y0 y1 y2 y3) (spec_Conforms.l0 (k + 1) y0 y1 y2 y3))
  | 0 => ⟨fun _ _ _ _ r h => by simp [spec_Conforms.j0] at h, fun _ _ _ _ r h => by simp [spec_Conforms.l0] at h⟩
  | k + 1 => by
    obtain ⟨ih0, ih1⟩ := spec_Conforms.mono_l k
    refine ⟨?_, ?_⟩
    · intro y0 y1 y2 y3
      unfold spec_Conforms.j0
      repeat' first
      | (with_reducible exact ih0 _ _ _ _)
      | (with_reducible exact ih1 _ _ _ _)
      | (with_reducible exact spec_l23Conforms.mono _ _ _ _)
      | (with_reducible exact LeO.refl _)
      | (with_reducible exact LeO.none _)
      | (with_reducible refine LeO.ite ?_ ?_)
      | (with_reducible refine LeO.bind ?_ (fun _ => ?_))
      | exact ih0 _ _ _ _
      | exact ih1 _ _ _ _
      | exact spec_l23Conforms.mono _ _ _ _
      | exact LeO.none _
      | refine LeO.ite ?_ ?_
      | refine LeO.bind ?_ (fun _ => ?_)
    · intro y0 y1 y2 y3
      unfold spec_Conforms.l0
      repeat' first
      | (with_reducible exact ih0 _ _ _ _)
      | (with_reducible exact ih1 _ _ _ _)
      | (with_reducible exact spec_l23Conforms.mono _ _ _ _)
      | (with_reducible exact LeO.refl _)
      | (with_reducible exact LeO.none _)
      | (with_reducible refine LeO.ite ?_ ?_)
      | (with_reducible refine LeO.bind ?_ (fun _ => ?_))
      | exact ih0 _ _ _ _
      | exact ih1 _ _ _ _
      | exact spec_l23Conforms.mono _ _ _ _
      | exact LeO.none _
      | refine LeO.ite ?_ ?_
      | refine LeO.bind ?_ (fun _ => ?_)
theorem spec_Conforms.mono : ∀ a0 a1 a2 k, LeO (spec_Conforms.f k a0 a1 a2) (spec_Conforms.f (k + 1) a0 a1 a2) := by
  intro a0 a1 a2 k
  obtain ⟨ih0, ih1⟩ := spec_Conforms.mono_l k
  unfold spec_Conforms.f
  repeat' first
      | (with_reducible exact ih0 _ _ _ _)
      | (with_reducible exact ih1 _ _ _ _)
      | (with_reducible exact spec_l23Conforms.mono _ _ _ _)
      | (with_reducible exact LeO.refl _)
      | (with_reducible exact LeO.none _)
      | (with_reducible refine LeO.ite ?_ ?_)
      | (with_reducible refine LeO.bind ?_ (fun _ => ?_))
      | exact ih0 _ _ _ _
      | exact ih1 _ _ _ _
      | exact spec_l23Conforms.mono _ _ _ _
      | exact LeO.none _
      | refine LeO.ite ?_ ?_
      | refine LeO.bind ?_ (fun _ => ?_)
set_option maxHeartbeats 8000000 in
set_option maxRecDepth 100000 in
theorem spec_Conforms.calls (k : Nat) (a0_0 : Int) (a0_1 : Int) (A1 : Option Addr) (c1 : Nat) (l1 : List Int) (r : Bool) (w : World) (hr1 : Kd.C (Kd.int .i64) w A1 l1.length l1) (hc1 : l1.length ≤ c1) (h : spec_Conforms.f k a0_0 a0_1 l1 = some r) :
    Calls Try.prog 24 #[.agg #[.int .i64 a0_0, .int .i64 a0_1], .slice A1 l1.length c1] w fun e w' => e = .returned (.bool r) ∧ Below w.heap.size w w' := by
  have hu41 := Try.underlying41
  have HR1 := Aside0.mk hr1
  have HC1 := Aside0.mk hc1
  clear hr1 hc1
  have HB := Aside0.mk (Below.refl w.heap.size w)
  have H : ((spec_FlowValid.f a0_0 a0_1).bind fun t266 => (if t266 = true then (spec_Conforms.j0 k l1 (decide ((l1.length : Int) > 120)) a0_0 a0_1) else (spec_Conforms.j0 k l1 true a0_0 a0_1))) = some r := h
  clear h
  have HC3 := Aside0.mk H
  clear H
  go_enter Try.func24, Try.ntmps24
  go_upto_region 1 with (first | ((with_reducible refine gate_dst (N := 2) rfl ?_); (try (refine gate_guard (by rfl) ?_; dsimp only)); refine box_event ?hg (N := 2) ?hd (cs := #[.int .i64 a0_0, .int .i64 a0_1]) (t := 41) ?hr ?_; (case hd => rfl); (case hg => rfl); (case hr => first | (go_simp; done) | (go_simp; rfl)); intro gb265 hg w4 hbox hb; have n0_ := Aside0.mk (below_step (by repeat (first | (with_reducible first | exact HB.out | apply below_alloc | apply pw_below_drewN | apply below_drew1) | exact HB.out)) hb); have n1_ := Aside0.mk (hbox); have n2_ := Aside0.mk ((by rw [hg]; exact (below_size (by repeat (first | (with_reducible first | exact HB.out | apply below_alloc | apply pw_below_drewN | apply below_drew1) | exact HB.out))) : w.heap.size ≤ gb265)); have n3_ := Aside0.mk ((by rw [hg]; exact (below_size (by repeat (first | (with_reducible first | exact HB.out | apply below_alloc | apply pw_below_drewN | apply below_drew1) | exact HB.out))) : w.heap.size ≤ gb265)); clear HB; have HB := n0_; have BK265 := n1_; have GW265 := n2_; have GE265 := n3_; clear n0_ n1_ n2_ n3_; clear hb hbox hg))
  (try simp only [Act.put, List.setIfInBounds_toArray, List.set_cons_zero, List.set_cons_succ])
  go_cut [13] (fun v13 wc => ∃ (kq : Nat) (x13_2 : Bool), v13 = .bool x13_2 ∧ Aside0 (spec_Conforms.j0 kq l1 x13_2 a0_0 a0_1 = some r) ∧ Aside0 (kq ≤ k) ∧ Aside0 (wc.heap[gb265]? = some (.cells #[.int .i64 a0_0, .int .i64 a0_1] 41 (0, 0))) ∧ Aside0 (Below w.heap.size w wc))
  case first =>
    have H := HC3.out
    clear HC3
    replace H := Option.bind_eq_some_iff.mp H
    obtain ⟨t266, A50, H⟩ := H
    replace H : (if t266 = true then (spec_Conforms.j0 k l1 (decide ((l1.length : Int) > 120)) a0_0 a0_1) else (spec_Conforms.j0 k l1 true a0_0 a0_1)) = some r := H
    have A5 := Aside0.mk A50
    clear A50
    by_cases c6 : t266 = true
    · subst c6
      have H1 : (spec_Conforms.j0 k l1 (decide ((l1.length : Int) > 120)) a0_0 a0_1) = some r := by rw [if_pos rfl] at H; exact H
      clear H
      have H := H1
      clear H1
      have H' := Aside0.mk H
      clear H
      have hcz7_0 : w4.cell? ⟨gb265, 0, none⟩ = some (.int .i64 a0_0) := (blk_cell BK265.out 0).trans rfl
      have hcz7_1 : w4.cell? ⟨gb265, 1, none⟩ = some (.int .i64 a0_1) := (blk_cell BK265.out 1).trans rfl
      have hfz7_0 := blk_frozen BK265.out 0
      have hfz7_1 := blk_frozen BK265.out 1
      go_wp2_with (first | ((with_reducible refine gate_callee (f := 62) rfl ?_); refine goesL_ (some 7) rfl rfl Try.func62 (by kernel_rfl) rfl #[.agg #[.int .i64 a0_0, .int .i64 a0_1]] rfl (by (try simp only [List.map_toArray, List.map_cons, List.map_nil]); first | done | rfl | (simp only [List.length_drop, List.length_take]; rfl)) ?_; (with_reducible refine (spec_FlowValid.calls a0_0 a0_1 true _ A5.out).mono ?_); rintro e w8 ⟨rfl, hb⟩; refine ⟨_, rfl, ?_⟩; have n0_ := Aside0.mk (blk_below (g := gb265) (o := .cells #[.int .i64 a0_0, .int .i64 a0_1] 41 (0, 0)) (by (with_reducible repeat (first | refine blk_drewN ?_ _ | refine blk_drew ?_ | refine blk_alloc ?_ _)); exact BK265.out) hb); have n1_ := Aside0.mk (below_step (by repeat (first | (with_reducible first | exact HB.out | apply below_alloc | apply pw_below_drewN | apply below_drew1 | refine below_set ?_ GE265.out) | exact HB.out)) hb); clear BK265; clear HB; have BK265 := n0_; have HB := n1_; clear n0_ n1_; (try clear hb); (try clear hb2); (try clear hk); (try clear hi)))
      go_meet
      case rel => exact ⟨_, (decide ((l1.length : Int) > 120)), (by first | rfl | (simp; done) | (simp [*]; done)), H', ⟨by first | omega | exact Nat.le_refl _⟩, ⟨by (with_reducible repeat (first | refine blk_drewN ?_ _ | refine blk_drew ?_ | refine blk_alloc ?_ _)); exact BK265.out⟩, ⟨by repeat (first | (with_reducible first | exact HB.out | apply below_alloc | apply pw_below_drewN | apply below_drew1 | refine below_set ?_ GE265.out) | exact HB.out)⟩⟩
    · replace c6 := Bool.eq_false_iff.mpr c6
      subst c6
      have H1 : (spec_Conforms.j0 k l1 true a0_0 a0_1) = some r := by rw [if_neg (show ¬ (false = true) by decide)] at H; exact H
      clear H
      have H := H1
      clear H1
      have H' := Aside0.mk H
      clear H
      have hcz9_0 : w4.cell? ⟨gb265, 0, none⟩ = some (.int .i64 a0_0) := (blk_cell BK265.out 0).trans rfl
      have hcz9_1 : w4.cell? ⟨gb265, 1, none⟩ = some (.int .i64 a0_1) := (blk_cell BK265.out 1).trans rfl
      have hfz9_0 := blk_frozen BK265.out 0
      have hfz9_1 := blk_frozen BK265.out 1
      go_wp2_with (first | ((with_reducible refine gate_callee (f := 62) rfl ?_); refine goesL_ (some 7) rfl rfl Try.func62 (by kernel_rfl) rfl #[.agg #[.int .i64 a0_0, .int .i64 a0_1]] rfl (by (try simp only [List.map_toArray, List.map_cons, List.map_nil]); first | done | rfl | (simp only [List.length_drop, List.length_take]; rfl)) ?_; (with_reducible refine (spec_FlowValid.calls a0_0 a0_1 false _ A5.out).mono ?_); rintro e w10 ⟨rfl, hb⟩; refine ⟨_, rfl, ?_⟩; have n0_ := Aside0.mk (blk_below (g := gb265) (o := .cells #[.int .i64 a0_0, .int .i64 a0_1] 41 (0, 0)) (by (with_reducible repeat (first | refine blk_drewN ?_ _ | refine blk_drew ?_ | refine blk_alloc ?_ _)); exact BK265.out) hb); have n1_ := Aside0.mk (below_step (by repeat (first | (with_reducible first | exact HB.out | apply below_alloc | apply pw_below_drewN | apply below_drew1 | refine below_set ?_ GE265.out) | exact HB.out)) hb); clear BK265; clear HB; have BK265 := n0_; have HB := n1_; clear n0_ n1_; (try clear hb); (try clear hb2); (try clear hk); (try clear hi)))
      go_meet
      case rel => exact ⟨_, (true), (by first | rfl | (simp; done) | (simp [*]; done)), H', ⟨by first | omega | exact Nat.le_refl _⟩, ⟨by (with_reducible repeat (first | refine blk_drewN ?_ _ | refine blk_drew ?_ | refine blk_alloc ?_ _)); exact BK265.out⟩, ⟨by repeat (first | (with_reducible first | exact HB.out | apply below_alloc | apply pw_below_drewN | apply below_drew1 | refine below_set ?_ GE265.out) | exact HB.out)⟩⟩
  case rest =>
    clear HC3
    try clear c1
    try clear c2
    try clear p2
    try clear c6
    try clear hcz7_0
    try clear hcz7_1
    try clear hcz9_0
    try clear hcz9_1
    try clear hfz7_0
    try clear hfz7_1
    try clear hfz9_0
    try clear hfz9_1
    obtain ⟨kq, x13_2, rfl, HA, HJ2, BK265, HB⟩ := hcut
    cases kq with
    | zero => exact absurd HA.out (by simp [spec_Conforms.j0])
    | succ kj2 =>
      have H := HA.out
      clear HA
      simp only [spec_Conforms.j0] at H
      by_cases c11 : x13_2 = true
      · subst c11
        have H1 : (some false) = some r := by rw [if_pos rfl] at H; exact H
        clear H
        have H := H1
        clear H1
        obtain rfl := Option.some.inj H
        go_wp2
        go_ret
        exact ⟨by first | rfl | (simp [errW_none, errW_some] <;> rfl) | (simp [*, errW_none, errW_some] <;> rfl), by repeat (first | (with_reducible first | exact HB.out | apply below_alloc | apply pw_below_drewN | apply below_drew1 | refine below_set ?_ GE265.out) | exact HB.out)⟩
      · replace c11 := Bool.eq_false_iff.mpr c11
        subst c11
        have H1 : (spec_Conforms.l0 kj2 l1 0 a0_0 a0_1) = some r := by rw [if_neg (show ¬ (false = true) by decide)] at H; exact H
        clear H
        have H := H1
        clear H1
        have H' := Aside0.mk H
        clear H
        go_wp2
        go_loopg [5] kj2 (fun kq v5 w' => ∃ (x5_2 : Int), v5 = .int .i64 x5_2 ∧ Aside0 (spec_Conforms.l0 kq l1 x5_2 a0_0 a0_1 = some r) ∧ Aside0 (kq ≤ kj2) ∧ Aside0 (w'.heap[gb265]? = some (.cells #[.int .i64 a0_0, .int .i64 a0_1] 41 (0, 0))) ∧ Aside0 (Below w.heap.size w w'))
        case atStart => exact ⟨(0), (by first | rfl | (simp; done) | (simp [*]; done)), H', ⟨Nat.le_refl _⟩, ⟨by (with_reducible repeat (first | refine blk_drewN ?_ _ | refine blk_drew ?_ | refine blk_alloc ?_ _)); exact BK265.out⟩, ⟨by repeat (first | (with_reducible first | exact HB.out | apply below_alloc | apply pw_below_drewN | apply below_drew1 | refine below_set ?_ GE265.out) | exact HB.out)⟩⟩
        case round =>
          clear H'
          try clear c1
          try clear c2
          try clear p2
          try clear c6
          try clear c11
          try clear hcz7_0
          try clear hcz7_1
          try clear hcz9_0
          try clear hcz9_1
          try clear hfz7_0
          try clear hfz7_1
          try clear hfz9_0
          try clear hfz9_1
          try clear p2
          obtain ⟨x5_2, rfl, HA, HK2, BK265, HB⟩ := hrel
          cases gk with
          | zero => exact absurd HA.out (by simp [spec_Conforms.l0])
          | succ k2 =>
            have H := HA.out
            clear HA
            simp only [spec_Conforms.l0] at H
            by_cases c12 : x5_2 < (l1.length : Int)
            · rw [if_pos c12] at H
              have c12b0 : decide (x5_2 < (l1.length : Int)) = true := decide_eq_true c12
              clear c12
              by_cases c13 : 0 ≤ x5_2
              · rw [if_pos c13] at H
                have c13b0 : decide (0 ≤ x5_2) = true := decide_eq_true c13
                clear c13
                replace H := Option.bind_eq_some_iff.mp H
                obtain ⟨t268, A140, H⟩ := H
                replace H : (if t268 = true then (spec_Conforms.l0 k2 l1 (wrap64 (x5_2 + 1)) a0_0 a0_1) else (some false)) = some r := H
                have A14 := Aside0.mk A140
                clear A140
                by_cases c15 : t268 = true
                · subst c15
                  have H1 : (spec_Conforms.l0 k2 l1 (wrap64 (x5_2 + 1)) a0_0 a0_1) = some r := by rw [if_pos rfl] at H; exact H
                  clear H
                  have H := H1
                  clear H1
                  have H' := Aside0.mk H
                  clear H
                  have p267 : 0 ≤ (x5_2 : Int) := of_decide_eq_true (by first | (with_reducible assumption) | assumption)
                  have q267 : x5_2 < (l1.length : Int) := of_decide_eq_true (by first | (with_reducible assumption) | assumption)
                  obtain ⟨ad267, e267, hx267_0⟩ := Kd.at_int HR1.out x5_2 p267 q267
                  cases e267
                  replace hx267_0 := (HB.out.cell (World.block_lt_of_cell? w _ hx267_0)).trans hx267_0
                  replace p267 := eq_true p267
                  replace q267 := eq_true q267
                  go_wp2_with (first | ((with_reducible refine gate_callee (f := 53) rfl ?_); refine goesL_ (some 24) rfl rfl Try.func53 (by kernel_rfl) rfl #[.int .i64 (rd l1 x5_2), .int .i64 0, .int .i64 1000] rfl (by (try simp only [List.map_toArray, List.map_cons, List.map_nil]); first | done | rfl | (simp only [List.length_drop, List.length_take]; rfl)) ?_; (with_reducible refine (spec_l1In.calls (rd l1 x5_2) 0 1000 true _ A14.out).mono ?_); rintro e w' ⟨rfl, ⟨nd, rfl⟩⟩; refine ⟨_, rfl, ?_⟩))
                  go_roundg k2
                  case measure => have := HJ2.out; have := HK2.out; omega
                  case rel => exact ⟨(wrap64 (x5_2 + 1)), (by first | rfl | (simp; done) | (simp [*]; done)), H', ⟨by have := HJ2.out; have := HK2.out; omega⟩, ⟨by (with_reducible repeat (first | refine blk_drewN ?_ _ | refine blk_drew ?_ | refine blk_alloc ?_ _)); exact BK265.out⟩, ⟨by repeat (first | (with_reducible first | exact HB.out | apply below_alloc | apply pw_below_drewN | apply below_drew1 | refine below_set ?_ GE265.out) | exact HB.out)⟩⟩
                · replace c15 := Bool.eq_false_iff.mpr c15
                  subst c15
                  have H1 : (some false) = some r := by rw [if_neg (show ¬ (false = true) by decide)] at H; exact H
                  clear H
                  have H := H1
                  clear H1
                  obtain rfl := Option.some.inj H
                  have p267 : 0 ≤ (x5_2 : Int) := of_decide_eq_true (by first | (with_reducible assumption) | assumption)
                  have q267 : x5_2 < (l1.length : Int) := of_decide_eq_true (by first | (with_reducible assumption) | assumption)
                  obtain ⟨ad267, e267, hx267_0⟩ := Kd.at_int HR1.out x5_2 p267 q267
                  cases e267
                  replace hx267_0 := (HB.out.cell (World.block_lt_of_cell? w _ hx267_0)).trans hx267_0
                  replace p267 := eq_true p267
                  replace q267 := eq_true q267
                  go_wp2_with (first | ((with_reducible refine gate_callee (f := 53) rfl ?_); refine goesL_ (some 24) rfl rfl Try.func53 (by kernel_rfl) rfl #[.int .i64 (rd l1 x5_2), .int .i64 0, .int .i64 1000] rfl (by (try simp only [List.map_toArray, List.map_cons, List.map_nil]); first | done | rfl | (simp only [List.length_drop, List.length_take]; rfl)) ?_; (with_reducible refine (spec_l1In.calls (rd l1 x5_2) 0 1000 false _ A14.out).mono ?_); rintro e w' ⟨rfl, ⟨nd, rfl⟩⟩; refine ⟨_, rfl, ?_⟩))
                  go_ret
                  exact ⟨by first | rfl | (simp [errW_none, errW_some] <;> rfl) | (simp [*, errW_none, errW_some] <;> rfl), by repeat (first | (with_reducible first | exact HB.out | apply below_alloc | apply pw_below_drewN | apply below_drew1 | refine below_set ?_ GE265.out) | exact HB.out)⟩
              · rw [if_neg c13] at H
                exact absurd H (by simp)
            · rw [if_neg c12] at H
              have c12b0 : decide (x5_2 < (l1.length : Int)) = false := decide_eq_false c12
              clear c12
              replace H := Option.bind_eq_some_iff.mp H
              obtain ⟨t269, A160, H⟩ := H
              replace H : (some t269) = some r := H
              have A16 := Aside0.mk A160
              clear A160
              obtain rfl := Option.some.inj H
              have hcz17_0 : wr.cell? ⟨gb265, 0, none⟩ = some (.int .i64 a0_0) := (blk_cell BK265.out 0).trans rfl
              have hcz17_1 : wr.cell? ⟨gb265, 1, none⟩ = some (.int .i64 a0_1) := (blk_cell BK265.out 1).trans rfl
              have hfz17_0 := blk_frozen BK265.out 0
              have hfz17_1 := blk_frozen BK265.out 1
              go_wp2_with (first | ((with_reducible refine gate_callee (f := 63) rfl ?_); refine goesL_ (some 28) rfl rfl Try.func63 (by kernel_rfl) rfl #[.agg #[.int .i64 a0_0, .int .i64 a0_1], .slice A1 l1.length c1] rfl (by (try simp only [List.map_toArray, List.map_cons, List.map_nil]); first | done | rfl | (simp only [List.length_drop, List.length_take]; rfl)) ?_; (with_reducible refine (spec_l23Conforms.calls k2 a0_0 a0_1 _ _ l1 t269 _ ?side1 ?side2 A16.out).mono ?_); (case side1 => repeat (first | exact (Kd.C_below HR1.out HB.out) | (with_reducible refine Kd.C_alloc ?_ _) | (with_reducible refine Kd.C_drewN ?_ _) | (with_reducible refine Kd.C_drew ?_))); (case side2 => exact HC1.out); rintro e w18 ⟨rfl, hb⟩; refine ⟨_, rfl, ?_⟩; have n0_ := Aside0.mk (blk_below (g := gb265) (o := .cells #[.int .i64 a0_0, .int .i64 a0_1] 41 (0, 0)) (by (with_reducible repeat (first | refine blk_drewN ?_ _ | refine blk_drew ?_ | refine blk_alloc ?_ _)); exact BK265.out) hb); have n1_ := Aside0.mk (below_step (by repeat (first | (with_reducible first | exact HB.out | apply below_alloc | apply pw_below_drewN | apply below_drew1 | refine below_set ?_ GE265.out) | exact HB.out)) hb); clear BK265; clear HB; have BK265 := n0_; have HB := n1_; clear n0_ n1_; (try clear hb); (try clear hb2); (try clear hk); (try clear hi)))
              go_ret
              exact ⟨by first | rfl | (simp [errW_none, errW_some] <;> rfl) | (simp [*, errW_none, errW_some] <;> rfl), by repeat (first | (with_reducible first | exact HB.out | apply below_alloc | apply pw_below_drewN | apply below_drew1 | refine below_set ?_ GE265.out) | exact HB.out)⟩

end Go.Proofs.Ytkmpcmhkfnoeiaa.P
/- Conforms, of the program and of the reference, is one test. No condition. -/
namespace Go.Proofs.Ytkmpcmhkfnoeiaa.Conf
open Go.RowKit Go.Proofs.Ytkmpcmhkfnoeiaa.P Go.Proofs.Ytkmpcmhkfnoeiaa.Base Go.Proofs.Ytkmpcmhkfnoeiaa.Net Go.Proofs.Ytkmpcmhkfnoeiaa.Gen Go.Proofs.YtkmpcmhkfnoeiaaW.PrintWords Go.Proofs.YtkmpcmhkfnoeiaaW.PrintLast
/-- The sum of n amounts from place j on. -/
def sm (l : List Int) (j : Nat) : Nat → Int
  | 0 => 0
  | n + 1 => sm l j n + l.getD (j + n) 0
/-- All amounts are in 0..1000. -/
def Am (l : List Int) : Prop := ∀ x ∈ l, 0 ≤ x ∧ x ≤ 1000
instance (l : List Int) : Decidable (Am l) := by unfold Am; infer_instance
theorem getD_bd {l : List Int} (h : Am l) (i : Nat) : 0 ≤ l.getD i 0 ∧ l.getD i 0 ≤ 1000 := by
  rw [List.getD_eq_getElem?_getD]
  rcases Nat.lt_or_ge i l.length with hi | hi
  · rw [List.getElem?_eq_getElem hi]; exact h _ (List.getElem_mem hi)
  · rw [List.getElem?_eq_none hi]; simp
theorem sm_bd {l : List Int} (h : Am l) (j n : Nat) : 0 ≤ sm l j n ∧ sm l j n ≤ 1000 * n := by
  induction n with
  | zero => simp [sm]
  | succ n ih => have := getD_bd h (j + n); simp only [sm]; push_cast; omega
def row (b r : Int) (l : List Int) (j : Nat) : Prop := ∀ n, n < 121 → 1 ≤ n → j + n ≤ l.length → sm l j n ≤ b + r * n
instance (b r : Int) (l : List Int) (j : Nat) : Decidable (row b r l j) := by unfold row; infer_instance
def rest (b r : Int) (l : List Int) (q : Nat) : Prop := ∀ j, j < 121 → q ≤ j → row b r l j
instance (b r : Int) (l : List Int) (q : Nat) : Decidable (rest b r l q) := by unfold rest; infer_instance
theorem rest_end {b r : Int} {l : List Int} {q : Nat} (h : l.length ≤ q) : rest b r l q := fun j _ h1 n _ h2 h3 => by omega
theorem rest_succ {b r : Int} {l : List Int} {q : Nat} (hq : q < 121) : rest b r l q ↔ row b r l q ∧ rest b r l (q + 1) := by
  constructor
  · exact fun h => ⟨h q hq (Nat.le_refl q), fun j h1 h2 => h j h1 (by omega)⟩
  · rintro ⟨h1, h2⟩ j h3 h4
    rcases Nat.lt_or_ge q j with h | h
    · exact h2 j h3 h
    · obtain rfl : j = q := by omega
      exact h1
section
variable (b r : Int) (l : List Int) (hf : FV b r) (hl : l.length ≤ 120) (ha : Am l)
include hf hl ha
omit hl ha in
theorem bnd (n : Nat) (hn : n ≤ 121) : 0 ≤ r * (n : Int) ∧ r * (n : Int) ≤ 2420 := by
  unfold FV at hf
  exact mul_bd (A := 20) (B := 121) (by omega) (by omega) (by omega) (by omega)
theorem spec_l1 (j : Nat) (R : Bool) (hR : row b r l j → Ev (fun k => spec_l23Conforms.l0 k l ((j : Int) + 1) b r) R) (hN : ¬ row b r l j → R = false) :
    ∀ d n, j + n + d = l.length → (∀ m, 1 ≤ m → m ≤ n → sm l j m ≤ b + r * m) → Ev (fun k => spec_l23Conforms.l1 k l j (sm l j n) ((j + n : Nat) : Int) b r) R := by
  intro d
  induction d with
  | zero =>
    intro n hn hm
    have hrow : row b r l j := fun m h1 h2 h3 => hm m h2 (by omega)
    refine Ev.step (f := fun k => spec_l23Conforms.l0 k l ((j : Int) + 1) b r) (fun k => ?_) (hR hrow)
    simp only [spec_l23Conforms.l1]
    rw [if_neg (by omega), w64 (by omega) (by omega)]
  | succ d ih =>
    intro n hn hm
    have hs := sm_bd ha j n
    have hg := getD_bd ha (j + n)
    have hb := bnd b r hf (n + 1) (by omega)
    have hf' := hf
    unfold FV at hf'
    have e1 : sm l j (n + 1) = sm l j n + l.getD (j + n) 0 := rfl
    have e2 : rd l ((j + n : Nat) : Int) = l.getD (j + n) 0 := rfl
    have e3 : ((j + n : Nat) : Int) - j + 1 = ((n + 1 : Nat) : Int) := by push_cast; omega
    by_cases hx : sm l j (n + 1) > b + r * ((n + 1 : Nat) : Int)
    · have hrow : ¬ row b r l j := fun h => by have := h (n + 1) (by omega) (by omega) (by omega); omega
      refine Ev.step (f := fun _ => some false) (fun k => ?_) (by rw [hN hrow]; exact Ev.now _)
      simp only [spec_l23Conforms.l1]
      rw [if_pos (by omega), if_pos (by omega), e2, w64 (x := ((j + n : Nat) : Int) - j) (by omega) (by omega), w64 (x := ((j + n : Nat) : Int) - j + 1) (by omega) (by omega), e3, w64 (x := r * ((n + 1 : Nat) : Int)) (by omega) (by omega), w64 (x := b + r * ((n + 1 : Nat) : Int)) (by omega) (by omega), w64 (x := sm l j n + l.getD (j + n) 0) (by omega) (by omega), if_pos (by omega)]
    · refine Ev.step (f := fun k => spec_l23Conforms.l1 k l j (sm l j (n + 1)) ((j + (n + 1) : Nat) : Int) b r) (fun k => ?_) (ih (n + 1) (by omega) (fun m h1 h2 => ?_))
      · simp only [spec_l23Conforms.l1]
        rw [if_pos (by omega), if_pos (by omega), e2, w64 (x := ((j + n : Nat) : Int) - j) (by omega) (by omega), w64 (x := ((j + n : Nat) : Int) - j + 1) (by omega) (by omega), e3, w64 (x := r * ((n + 1 : Nat) : Int)) (by omega) (by omega), w64 (x := b + r * ((n + 1 : Nat) : Int)) (by omega) (by omega), w64 (x := sm l j n + l.getD (j + n) 0) (by omega) (by omega), if_neg (by omega), w64 (x := ((j + n : Nat) : Int) + 1) (by omega) (by omega)]
        rfl
      · rcases Nat.lt_or_ge m (n + 1) with h | h
        · exact hm m h1 (by omega)
        · obtain rfl : m = n + 1 := by omega
          omega
theorem impl_l1 (j : Nat) (hj : j ≤ l.length) (R : Bool) (hR : row b r l j → Ev (fun k => impl_Conforms.l0 k l (l.length : Int) ((j : Int) + 1) b r) R) (hN : ¬ row b r l j → R = false) :
    ∀ d n, j + n + d = l.length → (∀ m, 1 ≤ m → m ≤ n → sm l j m ≤ b + r * m) → Ev (fun k => impl_Conforms.l1 k l (sm l j n) (l.length : Int) j (l.drop j) ((l.drop j).length : Int) (n : Int) b r) R := by
  intro d
  have hdl : (l.drop j).length = l.length - j := List.length_drop
  induction d with
  | zero =>
    intro n hn hm
    have hrow : row b r l j := fun m h1 h2 h3 => hm m h2 (by omega)
    refine Ev.step (f := fun k => impl_Conforms.l0 k l (l.length : Int) ((j : Int) + 1) b r) (fun k => ?_) (hR hrow)
    simp only [impl_Conforms.l1]
    rw [if_neg (by omega), w64 (by omega) (by omega)]
  | succ d ih =>
    intro n hn hm
    have hs := sm_bd ha j n
    have hg := getD_bd ha (j + n)
    have hb := bnd b r hf (n + 1) (by omega)
    have hf' := hf
    unfold FV at hf'
    have e1 : sm l j (n + 1) = sm l j n + l.getD (j + n) 0 := rfl
    have e2 : rd (l.drop j) (n : Int) = l.getD (j + n) 0 := by unfold rd; simp [List.getD_eq_getElem?_getD]
    have e3 : (n : Int) + 1 = ((n + 1 : Nat) : Int) := by push_cast; rfl
    by_cases hx : sm l j (n + 1) > b + r * ((n + 1 : Nat) : Int)
    · have hrow : ¬ row b r l j := fun h => by have := h (n + 1) (by omega) (by omega) (by omega); omega
      refine Ev.step (f := fun _ => some false) (fun k => ?_) (by rw [hN hrow]; exact Ev.now _)
      simp only [impl_Conforms.l1]
      rw [if_pos (by omega), if_pos (by omega), if_pos (by omega), e2, w64 (x := (n : Int) + 1) (by omega) (by omega), e3, w64 (x := r * ((n + 1 : Nat) : Int)) (by omega) (by omega), w64 (x := b + r * ((n + 1 : Nat) : Int)) (by omega) (by omega), w64 (x := sm l j n + l.getD (j + n) 0) (by omega) (by omega), if_pos (by omega)]
    · refine Ev.step (f := fun k => impl_Conforms.l1 k l (sm l j (n + 1)) (l.length : Int) j (l.drop j) ((l.drop j).length : Int) ((n + 1 : Nat) : Int) b r) (fun k => ?_) (ih (n + 1) (by omega) (fun m h1 h2 => ?_))
      · simp only [impl_Conforms.l1]
        rw [if_pos (by omega), if_pos (by omega), if_pos (by omega), e2, w64 (x := (n : Int) + 1) (by omega) (by omega), e3, w64 (x := r * ((n + 1 : Nat) : Int)) (by omega) (by omega), w64 (x := b + r * ((n + 1 : Nat) : Int)) (by omega) (by omega), w64 (x := sm l j n + l.getD (j + n) 0) (by omega) (by omega), if_neg (by omega)]
        rfl
      · rcases Nat.lt_or_ge m (n + 1) with h | h
        · exact hm m h1 (by omega)
        · obtain rfl : m = n + 1 := by omega
          omega
theorem spec_l0 : ∀ d j, j + d = l.length → Ev (fun k => spec_l23Conforms.l0 k l (j : Int) b r) (decide (rest b r l j)) := by
  intro d
  induction d with
  | zero =>
    intro j hj
    have hr : rest b r l j := rest_end (by omega)
    refine Ev.step (f := fun _ => some true) (fun k => ?_) (by simp only [hr, decide_true]; exact Ev.now _)
    simp only [spec_l23Conforms.l0]
    rw [if_neg (by omega)]
  | succ d ih =>
    intro j hj
    have hi := ih (j + 1) (by omega)
    have h0 := spec_l1 b r l hf hl ha j (decide (rest b r l j)) (fun hc => by
      have : decide (rest b r l j) = decide (rest b r l (j + 1)) := by rw [decide_eq_decide, rest_succ (by omega)]; exact ⟨fun h => h.2, fun h => ⟨hc, h⟩⟩
      rw [this]; exact hi) (fun hc => by simp only [decide_eq_false_iff_not]; exact fun h => hc ((rest_succ (by omega)).1 h).1) (d + 1) 0 (by omega) (fun m h1 h2 => by omega)
    refine Ev.step (fun k => ?_) h0
    simp only [spec_l23Conforms.l0]
    rw [if_pos (by omega)]
    rfl
theorem impl_l0 : ∀ d j, j + d = l.length → Ev (fun k => impl_Conforms.l0 k l (l.length : Int) (j : Int) b r) (decide (rest b r l j)) := by
  intro d
  induction d with
  | zero =>
    intro j hj
    have hr : rest b r l j := rest_end (by omega)
    refine Ev.step (f := fun _ => some true) (fun k => ?_) (by simp only [hr, decide_true]; exact Ev.now _)
    simp only [impl_Conforms.l0]
    rw [if_neg (by omega)]
  | succ d ih =>
    intro j hj
    have hi := ih (j + 1) (by omega)
    have h0 := impl_l1 b r l hf hl ha j (by omega) (decide (rest b r l j)) (fun hc => by
      have : decide (rest b r l j) = decide (rest b r l (j + 1)) := by rw [decide_eq_decide, rest_succ (by omega)]; exact ⟨fun h => h.2, fun h => ⟨hc, h⟩⟩
      rw [this]; exact hi) (fun hc => by simp only [decide_eq_false_iff_not]; exact fun h => hc ((rest_succ (by omega)).1 h).1) (d + 1) 0 (by omega) (fun m h1 h2 => by omega)
    refine Ev.step (fun k => ?_) h0
    simp only [impl_Conforms.l0]
    rw [if_pos (by omega), if_pos (by omega), if_pos (by omega), Int.toNat_natCast]
    rfl
end
/-- Conforms, as one test. -/
def CV (b r : Int) (l : List Int) : Prop := FV b r ∧ l.length ≤ 120 ∧ Am l ∧ rest b r l 0
instance (b r : Int) (l : List Int) : Decidable (CV b r l) := by unfold CV; infer_instance
def AmOk (l : List Int) : Prop := l.length ≤ 120 ∧ Am l
instance (l : List Int) : Decidable (AmOk l) := by unfold AmOk; infer_instance
theorem amounts_f (l : List Int) : impl_amounts.f l = some (decide (AmOk l)) := by
  have ea : any_amounts.f l = some (decide (¬ Am l)) := by
    unfold any_amounts.f
    congr 1
    rw [Bool.eq_iff_iff, List.any_eq_true]
    unfold Am
    simp only [any_amounts.bad, decide_eq_true_eq]
    constructor
    · rintro ⟨x, hx, h⟩ hh
      have := hh x hx
      simp at h
      omega
    · intro hh
      refine Classical.byContradiction fun hc => hh fun x hx => ?_
      refine Classical.byContradiction fun h2 => hc ⟨x, hx, ?_⟩
      simp; omega
  unfold impl_amounts.f
  by_cases h : (l.length : Int) ≤ 120
  · rw [if_pos h, ea]
    simp only [Option.bind_some]
    congr 1
    rw [Bool.eq_iff_iff]
    unfold AmOk
    have : l.length ≤ 120 := by omega
    simp [this]
  · rw [if_neg h]
    congr 1; symm; rw [decide_eq_false_iff_not]
    unfold AmOk; omega
theorem impl_conf (b r : Int) (l : List Int) : Ev (fun k => impl_Conforms.f k b r l) (decide (CV b r l)) := by
  have no : ¬ CV b r l → Ev (fun k => impl_Conforms.j0 k l true b r) (decide (CV b r l)) := by
    intro h
    rw [decide_eq_false h]
    exact Ev.step (f := fun _ => some false) (fun k => by simp [impl_Conforms.j0]) (Ev.now _)
  by_cases h1 : FV b r
  · by_cases h2 : AmOk l
    · have h := impl_l0 b r l h1 h2.1 h2.2 l.length 0 (by omega)
      have e : decide (CV b r l) = decide (rest b r l 0) := by rw [decide_eq_decide]; exact ⟨fun h => h.2.2.2, fun h => ⟨h1, h2.1, h2.2, h⟩⟩
      rw [e]
      have hs : Ev (fun k => impl_Conforms.j0 k l (!decide (AmOk l)) b r) (decide (rest b r l 0)) := by
        refine Ev.step (fun k => ?_) h
        simp only [impl_Conforms.j0]
        rw [if_neg (by simp [h2])]
        rfl
      refine Ev.congr (fun k => ?_) hs
      unfold impl_Conforms.f
      rw [flow_f, and_bind, if_pos h1, amounts_f]; rfl
    · refine Ev.congr (fun k => ?_) (no (fun h => h2 ⟨h.2.1, h.2.2.1⟩))
      unfold impl_Conforms.f
      rw [flow_f, and_bind, if_pos h1, amounts_f]
      simp [h2]
  · refine Ev.congr (fun k => ?_) (no (fun h => h1 h.1))
    unfold impl_Conforms.f
    rw [flow_f, and_bind, if_neg h1]
theorem spec_conf (b r : Int) (l : List Int) : Ev (fun k => spec_Conforms.f k b r l) (decide (CV b r l)) := by
  have no : ¬ CV b r l → Ev (fun k => spec_Conforms.j0 k l true b r) (decide (CV b r l)) := by
    intro h
    rw [decide_eq_false h]
    exact Ev.step (f := fun _ => some false) (fun k => by simp [spec_Conforms.j0]) (Ev.now _)
  by_cases h1 : FV b r
  · by_cases h2 : l.length ≤ 120
    · -- the amounts, one by one
      have loop : ∀ d j, j + d = l.length → (∀ i (h : i < l.length), i < j → 0 ≤ l[i] ∧ l[i] ≤ 1000) → Ev (fun k => spec_Conforms.l0 k l (j : Int) b r) (decide (CV b r l)) := by
        intro d
        induction d with
        | zero =>
          intro j hj hm
          have ha : Am l := by
            intro x hx
            obtain ⟨i, hi, rfl⟩ := List.getElem_of_mem hx
            exact hm i hi (by omega)
          have e : decide (CV b r l) = decide (rest b r l 0) := by rw [decide_eq_decide]; exact ⟨fun h => h.2.2.2, fun h => ⟨h1, h2, ha, h⟩⟩
          rw [e]
          have h := spec_l0 b r l h1 h2 ha l.length 0 (by omega)
          refine Ev.step (f := fun k => (spec_l23Conforms.f k b r l).bind fun t => some t) (fun k => ?_) ?_
          · simp only [spec_Conforms.l0]
            rw [if_neg (by omega)]
          · exact Ev.bind (f := fun _ t => some t) h (Ev.now _)
        | succ d ih =>
          intro j hj hm
          have hlt : j < l.length := by omega
          by_cases hx : 0 ≤ l[j] ∧ l[j] ≤ 1000
          · refine Ev.step (f := fun k => spec_Conforms.l0 k l ((j + 1 : Nat) : Int) b r) (fun k => ?_) (ih (j + 1) (by omega) (fun i h hi => ?_))
            · simp only [spec_Conforms.l0]
              rw [if_pos (by omega), if_pos (by omega), rd_at _ _ hlt, l1In_f, and_bind, if_pos hx, w64 (by omega) (by omega)]
              rfl
            · rcases Nat.lt_or_ge i j with h' | h'
              · exact hm i h h'
              · obtain rfl : i = j := by omega
                exact hx
          · have hno : ¬ CV b r l := fun h => hx (h.2.2.1 _ (List.getElem_mem hlt))
            rw [decide_eq_false hno]
            refine Ev.step (f := fun _ => some false) (fun k => ?_) (Ev.now _)
            simp only [spec_Conforms.l0]
            rw [if_pos (by omega), if_pos (by omega), rd_at _ _ hlt, l1In_f, and_bind, if_neg hx]
      have hs : Ev (fun k => spec_Conforms.j0 k l (decide ((l.length : Int) > 120)) b r) (decide (CV b r l)) := by
        refine Ev.step (fun k => ?_) (loop l.length 0 (by omega) (fun i h hi => by omega))
        simp only [spec_Conforms.j0]
        rw [if_neg (by simp; omega)]
        rfl
      refine Ev.congr (fun k => ?_) hs
      unfold spec_Conforms.f
      rw [sflow_f, and_bind, if_pos h1]
    · refine Ev.congr (fun k => ?_) (no (fun h => h2 h.2.1))
      unfold spec_Conforms.f
      rw [sflow_f, and_bind, if_pos h1, show decide ((l.length : Int) > 120) = true from decide_eq_true (by omega)]
  · refine Ev.congr (fun k => ?_) (no (fun h => h1 h.1))
    unfold spec_Conforms.f
    rw [sflow_f, and_bind, if_neg h1]
end Go.Proofs.Ytkmpcmhkfnoeiaa.Conf
/- The draws of flows, links and amounts end. Conditions: as the reader's. -/
namespace Go.Proofs.Ytkmpcmhkfnoeiaa.DrTraf
open Go.RowKit Go.Proofs.Ytkmpcmhkfnoeiaa.P Go.Proofs.Ytkmpcmhkfnoeiaa.Base Go.Proofs.Ytkmpcmhkfnoeiaa.Gen Go.Proofs.Ytkmpcmhkfnoeiaa.Pb Go.Proofs.YtkmpcmhkfnoeiaaW.PrintWords Go.Proofs.YtkmpcmhkfnoeiaaW.PrintLast
section
variable (s : List Int) (p n : Int) (hs : Bytes s) (hp : 0 ≤ p) (hp2 : p ≤ 900000000)
include hs hp hp2
theorem flow_tot : Tot (fun k => spec_l20Flow.f k s p n) (fun r => (p ≤ r.2.2 ∧ r.2.2 ≤ p + 4) ∧ -1 ≤ r.1 ∧ r.1 ≤ 21 ∧ -1 ≤ r.2.1 ∧ r.2.1 ≤ 21) := by
  unfold spec_l20Flow.f
  refine Tot.bind (pick_tot s p 21 hs hp (by omega)) ?_
  rintro ⟨a, q⟩ ⟨h, h3, h4⟩
  simp only at h h3 h4 ⊢; subst h
  have h5 := h4 (by omega)
  refine Tot.bind (pick_tot s (p + 1) 7 hs (by omega) (by omega)) ?_
  rintro ⟨b, q⟩ ⟨h, h6, h7⟩
  simp only at h h6 h7 ⊢; subst h
  have h8 := h7 (by omega)
  refine Tot.bind (odd_tot s (p + 1 + 1) n hs (by omega) (by omega)) ?_
  rintro ⟨c, q⟩ ⟨h1, h2⟩
  simp only at h1 h2 ⊢
  refine Tot.ite (fun _ => ?_) (fun _ => Tot.ret _ (by simp only; omega))
  refine some_bind _ ?_
  refine Tot.bind (pick_tot s q 4 hs (by omega) (by omega)) ?_
  rintro ⟨d, q'⟩ ⟨h, h3, h4⟩
  simp only at h h3 h4 ⊢; subst h
  have h9 : d = 0 ∨ d = 1 ∨ d = 2 ∨ d = 3 := by omega
  rcases h9 with rfl | rfl | rfl | rfl
  all_goals exact Tot.yes (by omega) (Tot.yes (by simp) (Tot.ret _ ⟨⟨by show p ≤ q + 1; omega, by show q + 1 ≤ p + 4; omega⟩, by dsimp only; decide, by dsimp only; decide, by dsimp only; decide, by dsimp only; decide⟩))
theorem link_tot : Tot (fun k => spec_l20Link.f k s p n) (fun r => p ≤ r.2.2 ∧ r.2.2 ≤ p + 4) := by
  unfold spec_l20Link.f
  refine Tot.bind (pick_tot s p 9 hs hp (by omega)) ?_
  rintro ⟨a, q⟩ ⟨h, _, _⟩
  simp only at h ⊢; subst h
  refine Tot.bind (pick_tot s (p + 1) 9 hs (by omega) (by omega)) ?_
  rintro ⟨b, q⟩ ⟨h, _, _⟩
  simp only at h ⊢; subst h
  refine Tot.bind (odd_tot s (p + 1 + 1) n hs (by omega) (by omega)) ?_
  rintro ⟨c, q⟩ ⟨h1, h2⟩
  simp only at h1 h2 ⊢
  refine Tot.ite (fun _ => ?_) (fun _ => Tot.ret _ (by simp only; omega))
  refine some_bind _ ?_
  refine Tot.bind (pick_tot s q 4 hs (by omega) (by omega)) ?_
  rintro ⟨d, q'⟩ ⟨h, h3, h4⟩
  simp only at h h3 h4 ⊢; subst h
  refine Tot.yes h3 (Tot.yes (by simp; omega) (Tot.ret _ (by simp only; omega)))
/-- The amounts: a row of 10 to 59 of them. -/
theorem amounts_tot (b r m : Int) : Tot (fun k => spec_l20Amounts.f k s p b r m) (fun _ => True) := by
  unfold spec_l20Amounts.f
  refine Tot.bind (pick_tot s p 50 hs hp (by omega)) ?_
  rintro ⟨a, q⟩ ⟨h, h3, h4⟩
  simp only at h h3 h4 ⊢; subst h
  have h5 := h4 (by omega)
  rw [w64 (x := 10 + a) (by omega) (by omega)]
  have key : ∀ (d : Nat) (x : List Int) (lev q : Int), d ≤ 60 → x.length + d ≤ 100 → 1 ≤ x.length + d → 0 ≤ q → q + 2 * d ≤ 900000300 → Tot (fun k => spec_l20Amounts.l0 k m x lev (d : Int) s q b r) (fun _ => True) := by
    intro d
    induction d with
    | zero =>
      intro x lev q _ hx hx1 hq hq2
      refine Tot.step (fun k => by rw [spec_l20Amounts.l0]) ?_
      refine Tot.no (by omega) ?_
      refine Tot.bind (odd_tot s q m hs hq (by omega)) ?_
      rintro ⟨c, q'⟩ ⟨h1, h2⟩
      simp only at h1 h2 ⊢
      refine Tot.ite (fun _ => ?_) (fun _ => Tot.ret _ trivial)
      refine Tot.bind (pick_tot s q' _ hs (by omega) (by omega)) ?_
      rintro ⟨e, q''⟩ ⟨h, h6, h7⟩
      simp only at h h6 h7 ⊢; subst h
      have h8 := h7 (by omega)
      refine some_bind _ ?_
      refine Tot.bind (pick_tot s (q' + 1) 3 hs (by omega) (by omega)) ?_
      rintro ⟨g, q''⟩ ⟨h, h9, h10⟩
      simp only at h h9 h10 ⊢; subst h
      exact Tot.yes h9 (Tot.yes (by simp; omega) (Tot.yes h6 (Tot.yes h8 (Tot.ret _ trivial))))
    | succ d ih =>
      intro x lev q hd hx hx1 hq hq2
      refine Tot.step (fun k => by rw [spec_l20Amounts.l0]) ?_
      refine Tot.yes (by omega) ?_
      refine Tot.bind (pick_tot s q _ hs hq (by omega)) ?_
      rintro ⟨e, q''⟩ ⟨h, h6, h7⟩
      simp only at h h6 h7 ⊢; subst h
      refine some_bind _ ?_
      refine Tot.bind (pick_tot s (q + 1) 3 hs (by omega) (by omega)) ?_
      rintro ⟨g, q''⟩ ⟨h, h9, h10⟩
      simp only at h h9 h10 ⊢; subst h
      refine Tot.yes h9 (Tot.yes (by simp; omega) (Tot.yes (by omega) ?_))
      rw [w64 (x := ((d + 1 : Nat) : Int) - 1) (by omega) (by omega), show ((d + 1 : Nat) : Int) - 1 = (d : Int) by omega]
      exact ih _ _ _ (by omega) (by simp; omega) (by simp; omega) (by omega) (by omega)
  have h := key (10 + a).toNat [] b (p + 1) (by omega) (by simp; omega) (by omega) (by omega) (by omega)
  rw [show (((10 + a).toNat : Nat) : Int) = 10 + a by omega] at h
  exact h
end
end Go.Proofs.Ytkmpcmhkfnoeiaa.DrTraf
/- Backlogs, of the program and of the reference, as one plain list. No condition. -/
namespace Go.Proofs.Ytkmpcmhkfnoeiaa.Bk
open Go.RowKit Go.Proofs.Ytkmpcmhkfnoeiaa.P Go.Proofs.Ytkmpcmhkfnoeiaa.Base Go.Proofs.Ytkmpcmhkfnoeiaa.Net Go.Proofs.Ytkmpcmhkfnoeiaa.Gen Go.Proofs.Ytkmpcmhkfnoeiaa.Conf Go.Proofs.YtkmpcmhkfnoeiaaW.PrintWords Go.Proofs.YtkmpcmhkfnoeiaaW.PrintLast
/-- One tick: what waits, and for how long the link is busy. -/
def stp (L R : Int) (s : Int × Int) (a : Int) : Int × Int :=
  if s.1 + a = 0 then (0, 0) else if s.2 + 1 > L then (if mx 0 (s.1 + a - R) = 0 then (0, 0) else (mx 0 (s.1 + a - R), s.2 + 1)) else (s.1 + a, s.2 + 1)
def st (L R : Int) (l : List Int) : Nat → Int × Int
  | 0 => (0, 0)
  | n + 1 => stp L R (st L R l n) (l.getD n 0)
def outs (L R : Int) (l : List Int) (n : Nat) : List Int := (List.range n).map (fun i => (st L R l (i + 1)).1)
theorem outs_succ (L R : Int) (l : List Int) (n : Nat) : outs L R l (n + 1) = outs L R l n ++ [(st L R l (n + 1)).1] := by
  unfold outs; rw [List.range_succ, List.map_append]; rfl
theorem outs_len (L R : Int) (l : List Int) (n : Nat) : (outs L R l n).length = n := by unfold outs; simp
theorem rd_nat (l : List Int) (n : Nat) : rd l (n : Int) = l.getD n 0 := by unfold rd; rw [Int.toNat_natCast]
theorem outs_rd (L R : Int) (l : List Int) (n m : Nat) (h : m < n) : rd (outs L R l n) (m : Int) = (st L R l (m + 1)).1 := by
  rw [rd_at _ _ (by rw [outs_len]; exact h)]
  unfold outs; simp
theorem set_fill (o : List Int) (v : Int) (m : Nat) : (o ++ List.replicate (m + 1) 0).set o.length v = (o ++ [v]) ++ List.replicate m 0 := by
  rw [List.set_append_right _ _ (Nat.le_refl _)]
  simp [List.replicate_succ]
section
variable (L R : Int) (l : List Int) (hV : LV L R) (hl : l.length ≤ 120) (ha : Am l)
include hV ha
theorem st_bd (n : Nat) : 0 ≤ (st L R l n).1 ∧ (st L R l n).1 ≤ 1000 * n ∧ 0 ≤ (st L R l n).2 ∧ (st L R l n).2 ≤ n ∧ ((st L R l n).1 = 0 → (st L R l n).2 = 0) := by
  unfold LV at hV
  induction n with
  | zero => simp [st]
  | succ n ih =>
    have hg := getD_bd ha n
    simp only [st]
    generalize st L R l n = s at ih ⊢
    obtain ⟨w, c⟩ := s
    try simp only at ih
    unfold stp
    rw [show ((n + 1 : Nat) : Int) = (n : Int) + 1 by omega]
    by_cases h0 : w + l.getD n 0 = 0
    · rw [if_pos h0]
      exact ⟨by decide, by show (0 : Int) ≤ _; omega, by decide, by show (0 : Int) ≤ _; omega, fun _ => rfl⟩
    · rw [if_neg h0]
      by_cases h2 : c + 1 > L
      · rw [if_pos h2]
        have hm : mx 0 (w + l.getD n 0 - R) = max 0 (w + l.getD n 0 - R) := mx_max _ _
        by_cases h3 : mx 0 (w + l.getD n 0 - R) = 0
        · rw [if_pos h3]
          exact ⟨by decide, by show (0 : Int) ≤ _; omega, by decide, by show (0 : Int) ≤ _; omega, fun _ => rfl⟩
        · rw [if_neg h3, hm]
          rw [hm] at h3
          exact ⟨by show (0 : Int) ≤ max 0 (w + l.getD n 0 - R); omega, by show max 0 (w + l.getD n 0 - R) ≤ _; omega, by show 0 ≤ c + 1; omega, by show c + 1 ≤ _; omega, fun h => absurd h h3⟩
      · rw [if_neg h2]
        exact ⟨by show 0 ≤ w + l.getD n 0; omega, by show w + l.getD n 0 ≤ _; omega, by show 0 ≤ c + 1; omega, by show c + 1 ≤ _; omega, fun h => absurd h h0⟩
include hl
theorem spec_l1 : ∀ d n, n + d = l.length → Ev (fun k => spec_Backlogs.l1 k l (outs L R l n) (st L R l n).1 (st L R l n).2 (n : Int) L R) (outs L R l l.length) := by
  intro d
  induction d with
  | zero =>
    intro n hn
    obtain rfl : n = l.length := by omega
    refine Ev.step (f := fun _ => some (outs L R l l.length)) (fun k => ?_) (Ev.now _)
    simp only [spec_Backlogs.l1]
    rw [if_neg (by omega)]
  | succ d ih =>
    intro n hn
    have hg := getD_bd ha n
    have hb := st_bd L R l hV ha n
    have h1 := ih (n + 1) (by omega)
    rw [outs_succ] at h1
    simp only [st] at h1
    have hlen := outs_len L R l n
    have hV' := hV
    unfold LV at hV'
    generalize outs L R l n = o at h1 hlen ⊢
    generalize st L R l n = s at h1 hb ⊢
    obtain ⟨w, c⟩ := s
    simp only at hb h1 ⊢
    unfold stp at h1
    simp only at h1
    by_cases h0 : w + l.getD n 0 = 0
    · refine Ev.step (f := fun k => spec_Backlogs.j3 k l o (w + l.getD n 0) 0 (n : Int) L R) (fun k => ?_) ?_
      · simp only [spec_Backlogs.l1]
        rw [if_pos (by omega), if_pos (by omega), rd_nat, w64 (x := w + l.getD n 0) (by omega) (by omega), if_pos h0]
      · rw [if_pos h0] at h1
        refine Ev.step (fun k => ?_) h1
        simp only [spec_Backlogs.j3]
        rw [if_neg (by omega), if_pos (by omega), w64 (x := (n : Int) + 1) (by omega) (by omega), h0]
        rfl
    · refine Ev.step (f := fun k => spec_Backlogs.j3 k l o (w + l.getD n 0) (c + 1) (n : Int) L R) (fun k => ?_) ?_
      · simp only [spec_Backlogs.l1]
        rw [if_pos (by omega), if_pos (by omega), rd_nat, w64 (x := w + l.getD n 0) (by omega) (by omega), if_neg h0, w64 (x := c + 1) (by omega) (by omega)]
      · rw [if_neg h0] at h1
        refine Ev.step (fun k => ?_) h1
        simp only [spec_Backlogs.j3]
        rw [w64 (x := w + l.getD n 0 - R) (by omega) (by omega), w64 (x := (n : Int) + 1) (by omega) (by omega)]
        have ho : o.length < 17592186044416 := by omega
        by_cases h2 : c + 1 > L
        · rw [if_pos h2, if_pos h2]
          by_cases h3 : mx 0 (w + l.getD n 0 - R) = 0
          · rw [if_pos h3, if_pos h3, if_pos ho, h3]; rfl
          · rw [if_neg h3, if_neg h3, if_pos ho]; rfl
        · rw [if_neg h2, if_neg h2, if_pos ho]; rfl
theorem impl_l0 : ∀ d n, n + d = l.length → Ev (fun k => impl_Backlogs.l0 k (outs L R l n ++ List.replicate d 0) (st L R l n).1 (st L R l n).2 l (l.length : Int) (n : Int) L R) (outs L R l l.length) := by
  intro d
  induction d with
  | zero =>
    intro n hn
    obtain rfl : n = l.length := by omega
    refine Ev.step (f := fun _ => some (outs L R l l.length)) (fun k => ?_) (Ev.now _)
    simp only [impl_Backlogs.l0]
    rw [if_neg (by omega)]; simp
  | succ d ih =>
    intro n hn
    have hg := getD_bd ha n
    have hb := st_bd L R l hV ha n
    have h1 := ih (n + 1) (by omega)
    rw [outs_succ] at h1
    simp only [st] at h1
    have hlen := outs_len L R l n
    have hV' := hV
    unfold LV at hV'
    generalize outs L R l n = o at h1 hlen ⊢
    generalize st L R l n = s at h1 hb ⊢
    obtain ⟨w, c⟩ := s
    simp only at hb h1 ⊢
    unfold stp at h1
    simp only at h1
    have hs : ∀ v, (o ++ List.replicate (d + 1) 0).set n v = (o ++ [v]) ++ List.replicate d 0 := fun v => by rw [← set_fill, hlen]
    have hx : (n : Int) < ((o ++ List.replicate (d + 1) 0).length : Int) := by simp; omega
    refine Ev.step (fun k => ?_) h1
    simp only [impl_Backlogs.l0]
    rw [if_pos (by omega), if_pos (by omega), if_pos (by omega), rd_nat, w64 (x := w + l.getD n 0) (by omega) (by omega), w64 (x := (n : Int) + 1) (by omega) (by omega), w64 (x := c + 1) (by omega) (by omega), w64 (x := w + l.getD n 0 - R) (by omega) (by omega)]
    simp only [Int.toNat_natCast, if_pos hx, hs]
    by_cases h0 : w + l.getD n 0 = 0
    · rw [if_pos h0, if_pos h0, h0]
      have : c = 0 := hb.2.2.2.2 (by omega)
      subst this
      rw [List.replicate_succ, List.append_cons]; rfl
    · rw [if_neg h0, if_neg h0]
      by_cases h2 : c + 1 > L
      · rw [if_pos h2, if_pos h2]
        by_cases h3 : mx 0 (w + l.getD n 0 - R) = 0
        · rw [if_pos h3, if_pos h3, h3]; rfl
        · rw [if_neg h3, if_neg h3]; rfl
      · rw [if_neg h2, if_neg h2]; rfl
end
def BkOk (L R : Int) (l : List Int) : Prop := LV L R ∧ l.length ≤ 120 ∧ Am l
instance (L R : Int) (l : List Int) : Decidable (BkOk L R l) := by unfold BkOk; infer_instance
def bks (L R : Int) (l : List Int) : List Int := if BkOk L R l then outs L R l l.length else []
theorem impl_bk (L R : Int) (l : List Int) : Ev (fun k => impl_Backlogs.f k L R l) (bks L R l) := by
  have no : ¬ BkOk L R l → Ev (fun k => impl_Backlogs.j0 k l true L R) (bks L R l) := by
    intro h
    unfold bks; rw [if_neg h]
    exact Ev.step (f := fun _ => some []) (fun k => by simp [impl_Backlogs.j0]) (Ev.now _)
  by_cases h1 : LV L R
  · by_cases h2 : AmOk l
    · have h := impl_l0 L R l h1 h2.1 h2.2 l.length 0 (by omega)
      have e : bks L R l = outs L R l l.length := if_pos ⟨h1, h2.1, h2.2⟩
      rw [e]
      have hs : Ev (fun k => impl_Backlogs.j0 k l (!decide (AmOk l)) L R) (outs L R l l.length) := by
        refine Ev.step (fun k => ?_) h
        simp only [impl_Backlogs.j0]
        have := h2.1
        rw [if_neg (by simp [h2]), if_pos (by omega), if_pos (by omega), Int.toNat_natCast]
        rfl
      refine Ev.congr (fun k => ?_) hs
      unfold impl_Backlogs.f
      rw [link_f, and_bind, if_pos h1, amounts_f]; rfl
    · refine Ev.congr (fun k => ?_) (no (fun h => h2 ⟨h.2.1, h.2.2⟩))
      unfold impl_Backlogs.f
      rw [link_f, and_bind, if_pos h1, amounts_f]
      simp [h2]
  · refine Ev.congr (fun k => ?_) (no (fun h => h1 h.1))
    unfold impl_Backlogs.f
    rw [link_f, and_bind, if_neg h1]
theorem spec_bk (L R : Int) (l : List Int) : Ev (fun k => spec_Backlogs.f k L R l) (bks L R l) := by
  have no : ¬ BkOk L R l → Ev (fun k => spec_Backlogs.j0 k l [] true L R) (bks L R l) := by
    intro h
    unfold bks; rw [if_neg h]
    exact Ev.step (f := fun _ => some []) (fun k => by simp [spec_Backlogs.j0]) (Ev.now _)
  by_cases h1 : LV L R
  · by_cases h2 : l.length ≤ 120
    · have loop : ∀ d j, j + d = l.length → (∀ i (h : i < l.length), i < j → 0 ≤ l[i] ∧ l[i] ≤ 1000) → Ev (fun k => spec_Backlogs.l0 k l [] (j : Int) L R) (bks L R l) := by
        intro d
        induction d with
        | zero =>
          intro j hj hm
          have ha : Am l := by
            intro x hx
            obtain ⟨i, hi, rfl⟩ := List.mem_iff_getElem.1 hx
            exact hm i hi (by omega)
          have h := spec_l1 L R l h1 h2 ha l.length 0 (by omega)
          have e : bks L R l = outs L R l l.length := if_pos ⟨h1, h2, ha⟩
          rw [e]
          refine Ev.step (fun k => ?_) h
          simp only [spec_Backlogs.l0]
          rw [if_neg (by omega)]; rfl
        | succ d ih =>
          intro j hj hm
          have hjl : j < l.length := by omega
          by_cases h3 : 0 ≤ l[j] ∧ l[j] ≤ 1000
          · refine Ev.step (fun k => ?_) (ih (j + 1) (by omega) (fun i hi hij => by
              rcases Nat.lt_or_ge i j with h | h
              · exact hm i hi h
              · obtain rfl : i = j := by omega
                exact h3))
            simp only [spec_Backlogs.l0]
            rw [if_pos (by omega), if_pos (by omega), rd_at l j hjl, l1In_f, and_bind, if_pos h3, w64 (by omega) (by omega)]
            rfl
          · have e : bks L R l = [] := if_neg (fun h => h3 (h.2.2 _ (List.getElem_mem hjl)))
            rw [e]
            refine Ev.step (f := fun _ => some []) (fun k => ?_) (Ev.now _)
            simp only [spec_Backlogs.l0]
            rw [if_pos (by omega), if_pos (by omega), rd_at l j hjl, l1In_f, and_bind, if_neg h3]
      have hs : Ev (fun k => spec_Backlogs.j0 k l [] (decide ((l.length : Int) > 120)) L R) (bks L R l) := by
        refine Ev.step (fun k => ?_) (loop l.length 0 (by omega) (fun i _ h => by omega))
        simp only [spec_Backlogs.j0]
        rw [if_neg (by simp; omega)]
        rfl
      refine Ev.congr (fun k => ?_) hs
      unfold spec_Backlogs.f
      simp only [Option.bind_some]
      rw [slink_f, and_bind, if_pos h1]
    · refine Ev.congr (fun k => ?_) (no (fun h => h2 h.2.1))
      unfold spec_Backlogs.f
      simp only [Option.bind_some]
      rw [slink_f, and_bind, if_pos h1, decide_eq_true (by omega)]
  · refine Ev.congr (fun k => ?_) (no (fun h => h1 h.1))
    unfold spec_Backlogs.f
    simp only [Option.bind_some]
    rw [slink_f, and_bind, if_neg h1]
end Go.Proofs.Ytkmpcmhkfnoeiaa.Bk
/- A conforming flow on a link that serves it: what waits, and for how long. Conditions: the flow conforms, the link is fast enough. -/
namespace Go.Proofs.Ytkmpcmhkfnoeiaa.Traf
open Go.RowKit Go.Proofs.Ytkmpcmhkfnoeiaa.P Go.Proofs.Ytkmpcmhkfnoeiaa.Base Go.Proofs.Ytkmpcmhkfnoeiaa.Gen Go.Proofs.Ytkmpcmhkfnoeiaa.Pb Go.Proofs.Ytkmpcmhkfnoeiaa.Net Go.Proofs.Ytkmpcmhkfnoeiaa.Conf Go.Proofs.Ytkmpcmhkfnoeiaa.Bk Go.Proofs.Ytkmpcmhkfnoeiaa.DrTraf Go.Proofs.YtkmpcmhkfnoeiaaW.PrintWords Go.Proofs.YtkmpcmhkfnoeiaaW.PrintLast
theorem draw (l0 : List Int) (hl : ∀ x ∈ l0, (Lit.int .u8 x).wf = true) : Tot (fun k => spec_DrawTraffic.f k l0) (fun _ => True) := by
  unfold spec_DrawTraffic.f
  refine open_tot l0 hl (fun s hs => ?_)
  refine Tot.bind (flow_tot s 0 0 hs (by omega) (by omega)) ?_
  rintro ⟨b, r, q⟩ ⟨⟨h1, h2⟩, _⟩
  simp only at h1 h2 ⊢
  refine Tot.bind (link_tot s q 0 hs (by omega) (by omega)) ?_
  rintro ⟨L, R, q'⟩ ⟨h3, h4⟩
  simp only at h3 h4 ⊢
  refine Tot.bind (amounts_tot s q' hs (by omega) (by omega) b r 0) ?_
  rintro ⟨x, q''⟩ _
  exact Tot.ret _ trivial
theorem bks_len (L R : Int) (l : List Int) : (bks L R l).length ≤ 120 := by
  unfold bks; split
  · rename_i h; rw [outs_len]; exact h.2.1
  · simp
theorem sm_add (l : List Int) (j a b : Nat) : sm l j (a + b) = sm l j a + sm l (j + a) b := by
  induction b with
  | zero => simp [sm]
  | succ b ih => rw [← Nat.add_assoc]; simp only [sm]; rw [ih, Nat.add_assoc]; omega
section
variable (L R : Int) (l : List Int) (hV : LV L R) (ha : Am l)
include hV ha
/-- What waits is what came since the link became busy, less what it has served since. -/
theorem st_form (n : Nat) : ∃ c : Nat, (st L R l n).2 = c ∧ c ≤ n ∧ (c = 0 → (st L R l n).1 = 0) ∧ (st L R l n).1 = sm l (n - c) c - R * max 0 ((c : Int) - L) := by
  have hV' := hV
  unfold LV at hV'
  induction n with
  | zero => exact ⟨0, rfl, Nat.le_refl 0, fun _ => rfl, by simp only [st, sm]; rw [show max 0 (((0 : Nat) : Int) - L) = 0 by omega]; simp⟩
  | succ n ih =>
    have hb := st_bd L R l hV ha n
    have hg := getD_bd ha n
    obtain ⟨c, hc, hcn, h0, hw⟩ := ih
    simp only [st]
    have nil : ∃ c : Nat, ((0, 0) : Int × Int).2 = c ∧ c ≤ n + 1 ∧ (c = 0 → ((0, 0) : Int × Int).1 = 0) ∧ ((0, 0) : Int × Int).1 = sm l (n + 1 - c) c - R * max 0 ((c : Int) - L) :=
      ⟨0, rfl, by omega, fun _ => rfl, by simp only [sm]; rw [show max 0 (((0 : Nat) : Int) - L) = 0 by omega]; simp⟩
    generalize st L R l n = s at hb hc hw h0 ⊢
    obtain ⟨w, b⟩ := s
    simp only at hb hc hw h0 ⊢
    subst hc
    have hm : mx 0 (w + l.getD n 0 - R) = max 0 (w + l.getD n 0 - R) := mx_max _ _
    have es : sm l (n + 1 - (c + 1)) (c + 1) = sm l (n - c) c + l.getD n 0 := by
      rw [show n + 1 - (c + 1) = n - c by omega]; simp only [sm]; rw [show n - c + c = n by omega]
    unfold stp
    simp only [hm]
    by_cases h1 : w + l.getD n 0 = 0
    · rw [if_pos h1]; exact nil
    · rw [if_neg h1]
      by_cases h2 : (c : Int) + 1 > L
      · rw [if_pos h2]
        by_cases h3 : max 0 (w + l.getD n 0 - R) = 0
        · rw [if_pos h3]; exact nil
        · rw [if_neg h3]
          refine ⟨c + 1, by simp, by omega, fun h => by omega, ?_⟩
          simp only
          rw [es, show max 0 (((c + 1 : Nat) : Int) - L) = max 0 ((c : Int) - L) + 1 by omega, Int.mul_add]
          omega
      · rw [if_neg h2]
        refine ⟨c + 1, by simp, by omega, fun h => by omega, ?_⟩
        simp only
        rw [es, show max 0 (((c + 1 : Nat) : Int) - L) = max 0 ((c : Int) - L) by omega]
        omega
theorem backlog_le (b r : Int) (hc : CV b r l) (hr : r ≤ R) (n : Nat) (hn : n ≤ l.length) : (st L R l n).1 ≤ b + r * L := by
  have hV' := hV
  unfold LV at hV'
  have hf := hc.1
  unfold FV at hf
  have hl := hc.2.1
  obtain ⟨c, _, hcn, h0, hw⟩ := st_form L R l hV ha n
  have hrl := mul_bd (a := r) (b := L) (A := 20) (B := 20) (by omega) (by omega) (by omega) (by omega)
  by_cases h : c = 0
  · rw [h0 h]; omega
  have hs := hc.2.2.2 (n - c) (by omega) (Nat.zero_le _) c (by omega) (by omega) (by omega)
  rw [hw]
  by_cases h1 : (c : Int) ≤ L
  · rw [show max 0 ((c : Int) - L) = 0 by omega]
    have : r * (c : Int) ≤ r * L := Int.mul_le_mul_of_nonneg_left h1 (by omega)
    omega
  · rw [show max 0 ((c : Int) - L) = (c : Int) - L by omega]
    have : r * ((c : Int) - L) ≤ R * ((c : Int) - L) := Int.mul_le_mul_of_nonneg_right hr (by omega)
    have e : r * ((c : Int) - L) = r * (c : Int) - r * L := Int.mul_sub _ _ _
    omega
theorem delay_le (b r : Int) (hc : CV b r l) (hr : r ≤ R) (D i : Nat) (hD : (D : Int) = L + (b + R - 1) / R) (hn : i + D + 1 ≤ l.length) : (st L R l (i + D + 1)).1 ≤ sm l (i + 1) D := by
  have hV' := hV
  unfold LV at hV'
  have hf := hc.1
  unfold FV at hf
  have hl := hc.2.1
  obtain ⟨c, _, hcn, h0, hw⟩ := st_form L R l hV ha (i + D + 1)
  have hp := sm_bd ha (i + 1) D
  have hq := Int.mul_ediv_add_emod (b + R - 1) R
  have hq0 := Int.emod_nonneg (b + R - 1) (show R ≠ 0 by omega)
  have hq1 := Int.emod_lt_of_pos (b + R - 1) (show 0 < R by omega)
  have hqn := Int.ediv_nonneg (show 0 ≤ b + R - 1 by omega) (show 0 ≤ R by omega)
  generalize (b + R - 1) / R = Q at hD hq hqn
  have hBQ : b ≤ R * Q := by omega
  have hz : 0 ≤ R * max 0 ((c : Int) - L) := Int.mul_nonneg (by omega) (by omega)
  by_cases h : c ≤ D
  · -- what waits came within the last D ticks
    have e := sm_add l (i + 1) (D - c) c
    rw [show D - c + c = D by omega, show i + 1 + (D - c) = i + D + 1 - c by omega] at e
    have := sm_bd ha (i + 1) (D - c)
    omega
  · have e := sm_add l (i + D + 1 - c) (c - D) D
    rw [show c - D + D = c by omega, show i + D + 1 - c + (c - D) = i + 1 by omega] at e
    have hs := hc.2.2.2 (i + D + 1 - c) (by omega) (Nat.zero_le _) (c - D) (by omega) (by omega) (by omega)
    have e2 : max 0 ((c : Int) - L) = ((c - D : Nat) : Int) + Q := by omega
    rw [e2, Int.mul_add] at hw
    have : r * ((c - D : Nat) : Int) ≤ R * ((c - D : Nat) : Int) := Int.mul_le_mul_of_nonneg_right hr (by omega)
    omega
end
end Go.Proofs.Ytkmpcmhkfnoeiaa.Traf
/- Nothing waits longer than its bound. No condition. -/
namespace Go.Proofs.Ytkmpcmhkfnoeiaa.Pure
open Go.RowKit Go.Proofs.Ytkmpcmhkfnoeiaa.P Go.Proofs.Ytkmpcmhkfnoeiaa.Base Go.Proofs.Ytkmpcmhkfnoeiaa.Gen Go.Proofs.YtkmpcmhkfnoeiaaW.PrintWords Go.Proofs.YtkmpcmhkfnoeiaaW.PrintLast
open Go.Proofs.Ytkmpcmhkfnoeiaa.Pb Go.Proofs.Ytkmpcmhkfnoeiaa.Alive Go.Proofs.Ytkmpcmhkfnoeiaa.Same Go.Proofs.Ytkmpcmhkfnoeiaa.Net Go.Proofs.Ytkmpcmhkfnoeiaa.Conf Go.Proofs.Ytkmpcmhkfnoeiaa.DrTraf Go.Proofs.Ytkmpcmhkfnoeiaa.Bk Go.Proofs.Ytkmpcmhkfnoeiaa.Traf 
theorem FnDelaySafe : laws_FnDelaySafe.Pure := by
  intro l0 _ hl
  apply Tot.rounds
  unfold laws_FnDelaySafe.f
  refine Tot.ite (fun _ => Tot.ret _ rfl) (fun _ => ?_)
  refine Tot.bind (draw l0 hl.2) ?_
  rintro ⟨b, r, L, R, l⟩ _
  simp only
  refine Tot.bind (Tot.val (impl_bk L R _)) ?_
  rintro _ rfl
  refine Tot.bind (Tot.val (spec_bk L R _)) ?_
  rintro _ rfl
  have hlen := bks_len L R l
  refine Tot.bind (same_tot _ (by omega)) ?_
  rintro _ rfl
  refine Tot.yes rfl (Tot.bind0 (delay_f b r L R) ?_)
  have bad : ∀ x, Tot (fun k => laws_FnDelaySafe.j0 k l (bks L R l) x true) (fun r => r = true) := fun x =>
    Tot.step (fun k => by rw [laws_FnDelaySafe.j0]) (Tot.yes rfl (Tot.bind0 alive_f (Tot.ret _ rfl)))
  refine Tot.ite (fun _ => bad _) (fun hb => ?_)
  by_cases hs : FV b r ∧ LV L R ∧ r ≤ R
  · have ed : db b r L R = L + (b + R - 1) / R := if_pos hs
    refine Tot.bind (Tot.val (impl_conf b r _)) ?_
    rintro _ rfl
    by_cases hc : CV b r l
    · rw [decide_eq_true hc]
      have hok : BkOk L R l := ⟨hs.2.1, hc.2.1, hc.2.2.1⟩
      have e : bks L R l = outs L R l l.length := if_pos hok
      have el : (bks L R l).length = l.length := by rw [e, outs_len]
      refine Tot.step (fun k => by rw [laws_FnDelaySafe.j0]) (Tot.no (by simp) ?_)
      have hl120 := hc.2.1
      have hV := hs.2.1
      have hF := hs.1
      unfold LV at hV
      unfold FV at hF
      have hq1 := Int.ediv_le_self R (show 0 ≤ b + R - 1 by omega)
      generalize hD : db b r L R = D at hb ed ⊢
      obtain ⟨D, rfl⟩ := Int.eq_ofNat_of_zero_le (show 0 ≤ D by omega)
      have inner : ∀ i : Nat, i + D < l.length → Tot (fun k => laws_FnDelaySafe.l0 k l (bks L R l) D ((i + 1 : Nat) : Int)) (fun r => r = true) → Tot (fun k => laws_FnDelaySafe.l0 k l (bks L R l) D (i : Int)) (fun r => r = true) := by
        intro i hi hnext
        refine Tot.step (fun k => by rw [laws_FnDelaySafe.l0]) ?_
        rw [w64 (x := (i : Int) + D) (by omega) (by omega), w64 (x := (i : Int) + 1) (by omega) (by omega)]
        refine Tot.yes (by omega) ?_
        have h := Tot.loop (P := fun r => r = true) (fun k m (a : Int) => laws_FnDelaySafe.l1 k l (bks L R l) D (i : Int) a ((i + 1 + m : Nat) : Int)) D (fun m a => a = sm l (i + 1) m) ?_ ?_ 0 0 (by omega) rfl
        · exact h
        · rintro m _ hm rfl hk
          have hg := getD_bd hc.2.2.1 (i + 1 + m)
          have hp := sm_bd hc.2.2.1 (i + 1) m
          refine Tot.step (fun k => by rw [laws_FnDelaySafe.l1]) ?_
          rw [w64 (x := (i : Int) + D) (by omega) (by omega), rd_nat, w64 (x := sm l (i + 1) m + l.getD (i + 1 + m) 0) (by omega) (by omega), w64 (x := ((i + 1 + m : Nat) : Int) + 1) (by omega) (by omega)]
          exact Tot.yes (by omega) (Tot.yes (by omega) (Tot.yes (by omega) (hk _ rfl)))
        · rintro _ rfl
          have hle := delay_le L R l hs.2.1 hc.2.2.1 b r hc hs.2.2 D i ed (by omega)
          refine Tot.step (fun k => by rw [laws_FnDelaySafe.l1]) ?_
          rw [w64 (x := (i : Int) + D) (by omega) (by omega), w64 (x := (i : Int) + 1) (by omega) (by omega)]
          have er : rd (bks L R l) ((i : Int) + D) = (st L R l (i + D + 1)).1 := by
            rw [e, ← outs_rd L R l l.length (i + D) (by omega)]
            rfl
          rw [er]
          exact Tot.no (by omega) (Tot.yes (by omega) (Tot.yes (by omega) (Tot.no (by omega) hnext)))
      have outer : ∀ d i : Nat, i + d = l.length → Tot (fun k => laws_FnDelaySafe.l0 k l (bks L R l) D (i : Int)) (fun r => r = true) := by
        intro d
        induction d with
        | zero =>
          intro i hi
          refine Tot.step (fun k => by rw [laws_FnDelaySafe.l0]) ?_
          rw [w64 (x := (i : Int) + D) (by omega) (by omega)]
          exact Tot.no (by omega) (Tot.ret _ rfl)
        | succ d ih =>
          intro i hi
          by_cases h : i + D < l.length
          · exact inner i h (ih (i + 1) (by omega))
          · refine Tot.step (fun k => by rw [laws_FnDelaySafe.l0]) ?_
            rw [w64 (x := (i : Int) + D) (by omega) (by omega)]
            exact Tot.no (by omega) (Tot.ret _ rfl)
      exact outer l.length 0 (by omega)
    · rw [decide_eq_false hc]; exact bad _
  · have eb : db b r L R = -1 := if_neg hs
    omega
end Go.Proofs.Ytkmpcmhkfnoeiaa.Pure
/- Arguments of a law laid open: whatever reads as data of a type reads as a value of its kind.
   No condition. -/
namespace Go.Proofs.Ytkmpcmhkfnoeiaa.Opn
open Go.ChangeShapes Go.WideShapes Go.Deep Go.RowKit Go.Proofs.YtkmpcmhkfnoeiaaW.PrintWords
section
variable {H : Type} {enc : TypeId × Value → H} {P : Program} {W : World} {base : Nat} {spare : Nat → Bool} {held : Bool}

/-- Whatever reads as data of type t reads as a value of the kind d that is good. -/
def Opens {α : Type} (enc : TypeId × Value → H) (P : Program) (W : World) (base : Nat) (spare : Nat → Bool) (held : Bool) (t : TypeId) (d : Kd α) (G : α → Prop) : Prop :=
  ∀ (fuel : Nat) (cs : List Value) (x : DataW H × List MemPlace), DataW.trod enc P W base spare held fuel t cs = some x → ∃ a, d.K W a cs ∧ G a

theorem opens_int {t : TypeId} {k : IntKind} (hu : P.underlying t = some (.int k)) : Opens enc P W base spare held t (Kd.int k) (fun x => (Lit.int k x).wf = true) := by
  intro fuel cs x h
  obtain ⟨n, hc, _, hw⟩ := DataW.trod_int hu h
  exact ⟨n, hc, hw⟩
theorem opens_bool {t : TypeId} (hu : P.underlying t = some .bool) : Opens enc P W base spare held t Kd.bool (fun _ => True) := by
  intro fuel cs x h
  obtain ⟨n, hc, _⟩ := DataW.trod_bool hu h
  exact ⟨n, hc, trivial⟩

theorem list_of {α : Type} (m : Nat) (R : Nat → α → Prop) (h : ∀ i, i < m → ∃ a, R i a) : ∃ xs : List α, xs.length = m ∧ ∀ i a, xs[i]? = some a → R i a := by
  induction m with
  | zero => exact ⟨[], rfl, fun i a ha => by simp at ha⟩
  | succ m ih =>
    obtain ⟨xs, hl, hx⟩ := ih (fun i hi => h i (by omega))
    obtain ⟨a, ha⟩ := h m (by omega)
    refine ⟨xs ++ [a], by simp [hl], fun i b hb => ?_⟩
    rcases Nat.lt_or_ge i m with hi | hi
    · rw [List.getElem?_append_left (by omega)] at hb
      exact hx i b hb
    · have hi' : i = m := by
        have := (List.getElem?_eq_some_iff.1 hb).1
        simp at this
        omega
      subst hi'
      have : a = b := by simpa [hl] using hb
      subst this
      exact ha

/-- A slice of what opens. -/
theorem slice_row {α : Type} {t e : TypeId} {d : Kd α} {G : α → Prop} (hu : P.underlying t = some (.slice e)) (hC : P.cellsOf e = d.sz) (he : Opens enc P W base spare held e d G)
    {fuel : Nat} {A : Option Addr} {n cap : Nat} {x : DataW H × List MemPlace} (h : DataW.trod enc P W base spare held fuel t [.slice A n cap] = some x) :
    ∃ xs : List α, xs.length = n ∧ n ≤ cap ∧ n ≤ maxLen ∧ d.C W A xs.length xs ∧ ∀ y ∈ xs, G y := by
  rcases open_slice hu h with ⟨h0, _⟩ | ⟨a, len, c, m, k, D, Pl, hcs, _, hl, hm, hmm, _, hel⟩
  · simp only [List.cons.injEq, Value.slice.injEq, and_true] at h0
    obtain ⟨rfl, rfl, rfl⟩ := h0
    exact ⟨[], rfl, Nat.le_refl _, by simp [maxLen], Kd.C_nil d W, fun y hy => by simp at hy⟩
  · simp only [List.cons.injEq, Value.slice.injEq, and_true] at hcs
    obtain ⟨rfl, rfl, rfl⟩ := hcs
    have hle : n ≤ m := by rw [hmm]; split <;> omega
    obtain ⟨xs, hxl, hx⟩ := list_of (α := α) n (fun i y => G y ∧ ∃ cs', d.K W y cs' ∧ cs'.length = d.sz ∧ ∀ j, j < d.sz → W.cell? ((a.add (i * d.sz)).add j) = cs'[j]?) (by
      intro i hi
      obtain ⟨cs', hc, ht⟩ := hel i (by omega)
      obtain ⟨y, hK, hG⟩ := he _ _ _ ht
      rw [hC] at hc
      obtain ⟨_, hcl, hcc⟩ := World.cells?_some hc
      exact ⟨y, hG, cs', hK, hcl, hcc⟩)
    refine ⟨xs, hxl, hl, by omega, ⟨rfl, by simp only [maxLen] at hm; omega, fun hp => ⟨a, rfl, fun j p hj => ?_⟩⟩, fun y hy => ?_⟩
    · obtain ⟨_, cs', hK, hcl, hcc⟩ := hx j p hj
      refine ⟨cs', hcl, hK, fun i u hi => ?_⟩
      have hlt : i < d.sz := by
        have := (List.getElem?_eq_some_iff.1 hi).1
        omega
      rw [← Go.Deep.add_add, hcc i hlt, hi]
    · obtain ⟨i, hi, rfl⟩ := List.getElem_of_mem hy
      exact (hx i _ (List.getElem?_eq_getElem hi)).1
theorem opens_slice {α : Type} {t e : TypeId} {d : Kd α} {G : α → Prop} (hu : P.underlying t = some (.slice e)) (hC : P.cellsOf e = d.sz) (he : Opens enc P W base spare held e d G) :
    Opens enc P W base spare held t (Kd.slice e d) (fun xs => xs.length ≤ maxLen ∧ ∀ y ∈ xs, G y) := by
  intro fuel cs x h
  have hform : ∃ A n c, cs = [.slice A n c] := by
    rcases open_slice hu h with ⟨h0, _⟩ | ⟨a, len, c, m, k, D, Pl, hcs, _⟩
    · exact ⟨_, _, _, h0⟩
    · exact ⟨_, _, _, hcs⟩
  obtain ⟨A, n, c, rfl⟩ := hform
  obtain ⟨xs, rfl, hc, hm, hC', hG⟩ := slice_row hu hC he h
  exact ⟨xs, ⟨A, c, rfl, hc, hC'⟩, hm, hG⟩

/-- A struct of whole numbers. -/
theorem trod_ints {t : TypeId} {fs : Array Field} (hs : P.underlying t = some (.struct fs)) (hC : P.cellsOf t = fs.size) (hf : ∀ (j : Nat) (f : Field), fs[j]? = some f → f.offset = j ∧ P.cellsOf f.type = 1 ∧ P.underlying f.type = some (.int .i64))
    {fuel : Nat} {cs : List Value} {x : DataW H × List MemPlace} (h : DataW.trod enc P W base spare held fuel t cs = some x) :
    ∃ xs : List Int, xs.length = fs.size ∧ cs = xs.map (Value.int .i64) ∧ ∀ y ∈ xs, (Lit.int .i64 y).wf = true := by
  obtain ⟨ys, n, _, _, hl, hyl, hy⟩ := DataW.trod_struct hs h
  obtain ⟨xs, hxl, hx⟩ := list_of (α := Int) fs.size (fun j y => cs[j]? = some (.int .i64 y) ∧ (Lit.int .i64 y).wf = true) (by
    intro j hj
    have hfj : fs[j]? = some fs[j] := Array.getElem?_eq_getElem hj
    obtain ⟨ho, hk, hi⟩ := hf j _ hfj
    have h1 := hy j _ hfj
    rw [ho, hk] at h1
    have hjl : j < cs.length := by omega
    have e1 : (cs.drop j).take 1 = [cs[j]'hjl] := by
      rw [List.drop_eq_getElem_cons hjl]
      rfl
    rw [e1, List.getElem?_eq_getElem (by omega)] at h1
    obtain ⟨y, hc, _, hw⟩ := DataW.trod_int hi h1
    refine ⟨y, ?_, hw⟩
    rw [List.getElem?_eq_getElem hjl]
    simpa using hc)
  refine ⟨xs, hxl, ?_, fun y hy' => ?_⟩
  · apply List.ext_getElem?
    intro j
    rcases Nat.lt_or_ge j fs.size with hj | hj
    · rw [List.getElem?_map]
      have e := List.getElem?_eq_getElem (l := xs) (i := j) (by omega)
      rw [e, (hx j _ e).1]
      rfl
    · rw [List.getElem?_eq_none (by omega), List.getElem?_eq_none (by simp; omega)]
  · obtain ⟨i, hi, rfl⟩ := List.getElem_of_mem hy'
    exact (hx i _ (List.getElem?_eq_getElem hi)).2
theorem one2 {xs : List Int} (h : xs.length = 2) : ∃ a b, xs = [a, b] := by
  match xs, h with
  | [a, b], _ => exact ⟨a, b, rfl⟩
theorem one3 {xs : List Int} (h : xs.length = 3) : ∃ a b c, xs = [a, b, c] := by
  match xs, h with
  | [a, b, c], _ => exact ⟨a, b, c, rfl⟩
theorem one4 {xs : List Int} (h : xs.length = 4) : ∃ a b c d, xs = [a, b, c, d] := by
  match xs, h with
  | [a, b, c, d], _ => exact ⟨a, b, c, d, rfl⟩
theorem agg_cells (cs : Array Value) : (Value.agg cs).cells.toList = cs.toList := rfl
/-- The weight of a slice bounds its length. -/
theorem sized_row {t e : TypeId} {A : Option Addr} {n cap : Nat} {d : DataW H} {ps : List MemPlace} {ts : List TypeId} {ds : List (DataW H)} {j : Nat}
    (hsz : (DataW.weightsEach P ts ds).all (· ≤ reachBytes) = true) (ht : ts[j]? = some t) (hd : ds[j]? = some d) (hu : P.underlying t = some (.slice e)) {B : Nat} (hB : P.bytesOf e = B)
    (h : DataW.Trod enc P W base spare held t (.slice A n cap) d ps) : n * B ≤ 140737488351232 := by
  obtain ⟨fuel, hf⟩ := h
  have hf' : DataW.trod enc P W base spare held fuel t [.slice A n cap] = some (d, ps) := hf
  rcases open_slice hu hf' with ⟨h0, _⟩ | ⟨a, len, c, m, k, D, Pl, hcs, _, hl, hm, hmm, hx, hel⟩
  · simp only [List.cons.injEq, Value.slice.injEq, and_true] at h0
    obtain ⟨rfl, rfl, rfl⟩ := h0
    simp
  · simp only [List.cons.injEq, Value.slice.injEq, and_true] at hcs
    obtain ⟨rfl, rfl, rfl⟩ := hcs
    obtain ⟨hx, _⟩ := Prod.mk.inj hx
    subst hx
    have z := sized_slice hsz ht hd hu
    rw [hB] at z
    simp only [List.length_map, List.length_range] at z
    exact Nat.le_trans (Nat.mul_le_mul_right _ (by omega)) z
end
end Go.Proofs.Ytkmpcmhkfnoeiaa.Opn
/- The head of the translation: a cut, with nothing lifted. No condition. -/
namespace Go.Proofs.Ytkmpcmhkfnoeiaa.Head
open Go
def chars (l : List Nat) : List Char := l.map Char.ofNat
def w1 : List Nat := [104, 97, 114, 110, 101, 115, 115]
def w2 : List Nat := [98, 51, 101, 57, 53, 99, 48, 99, 53, 99, 48, 102, 56, 101, 53, 99, 99, 102, 102, 51, 56, 51, 55, 99, 98, 54, 57, 51, 102, 99, 102, 99, 56, 55, 101, 57, 99, 51, 54, 55, 51, 54, 57, 97, 98, 97, 48, 56, 49, 99, 55, 50, 51, 97, 97, 50, 55, 48, 99, 53, 49, 99, 55, 54]
def w3 : List Nat := [99, 117, 116]
def w4 : List Nat := [97, 116, 32, 108, 111, 111, 112, 46, 101, 120, 97, 109, 112, 108, 101, 47, 100, 101, 97, 100, 108, 105, 110, 101, 115, 99, 104, 101, 100, 117, 108, 101, 114, 47, 108, 97, 119, 115, 46, 70, 110, 69, 120, 97, 99, 116, 83, 117, 98, 116, 97, 115, 107, 87, 105, 110, 100, 111, 119, 32, 108, 111, 111, 112, 46, 101, 120, 97, 109, 112, 108, 101, 47, 100, 101, 97, 100, 108, 105, 110, 101, 115, 99, 104, 101, 100, 117, 108, 101, 114, 47, 108, 97, 119, 115, 46, 70, 110, 83, 117, 98, 116, 97, 115, 107, 87, 105, 110, 100, 111, 119, 32, 108, 111, 111, 112, 46, 101, 120, 97, 109, 112, 108, 101, 47, 100, 101, 97, 100, 108, 105, 110, 101, 115, 99, 104, 101, 100, 117, 108, 101, 114, 47, 108, 97, 119, 115, 46, 70, 110, 69, 120, 97, 99, 116, 67, 111, 110, 102, 111, 114, 109, 115, 32, 108, 111, 111, 112, 46, 101, 120, 97, 109, 112, 108, 101, 47, 100, 101, 97, 100, 108, 105, 110, 101, 115, 99, 104, 101, 100, 117, 108, 101, 114, 47, 108, 97, 119, 115, 46, 70, 110, 67, 111, 110, 102, 111, 114, 109, 115, 32, 108, 111, 111, 112, 46, 101, 120, 97, 109, 112, 108, 101, 47, 100, 101, 97, 100, 108, 105, 110, 101, 115, 99, 104, 101, 100, 117, 108, 101, 114, 47, 108, 97, 119, 115, 46, 70, 110, 69, 120, 97, 99, 116, 66, 97, 99, 107, 108, 111, 103, 115, 32, 108, 111, 111, 112, 46, 101, 120, 97, 109, 112, 108, 101, 47, 100, 101, 97, 100, 108, 105, 110, 101, 115, 99, 104, 101, 100, 117, 108, 101, 114, 47, 108, 97, 119, 115, 46, 70, 110, 66, 97, 99, 107, 108, 111, 103, 115, 32, 108, 111, 111, 112, 46, 101, 120, 97, 109, 112, 108, 101, 47, 100, 101, 97, 100, 108, 105, 110, 101, 115, 99, 104, 101, 100, 117, 108, 101, 114, 47, 108, 97, 119, 115, 46, 70, 110, 66, 97, 99, 107, 108, 111, 103, 83, 97, 102, 101, 32, 108, 111, 111, 112, 46, 101, 120, 97, 109, 112, 108, 101, 47, 100, 101, 97, 100, 108, 105, 110, 101, 115, 99, 104, 101, 100, 117, 108, 101, 114, 47, 108, 97, 119, 115, 46, 70, 110, 68, 101, 108, 97, 121, 83, 97, 102, 101, 32, 108, 111, 111, 112, 46, 101, 120, 97, 109, 112, 108, 101, 47, 100, 101, 97, 100, 108, 105, 110, 101, 115, 99, 104, 101, 100, 117, 108, 101, 114, 47, 108, 97, 119, 115, 46, 70, 110, 69, 120, 97, 99, 116, 71, 114, 97, 112, 104, 86, 97, 108, 105, 100, 32, 108, 111, 111, 112, 46, 101, 120, 97, 109, 112, 108, 101, 47, 100, 101, 97, 100, 108, 105, 110, 101, 115, 99, 104, 101, 100, 117, 108, 101, 114, 47, 108, 97, 119, 115, 46, 70, 110, 71, 114, 97, 112, 104, 86, 97, 108, 105, 100, 32, 108, 111, 111, 112, 46, 101, 120, 97, 109, 112, 108, 101, 47, 100, 101, 97, 100, 108, 105, 110, 101, 115, 99, 104, 101, 100, 117, 108, 101, 114, 47, 108, 97, 119, 115, 46, 70, 110, 69, 120, 97, 99, 116, 86, 111, 108, 117, 109, 101, 32, 108, 111, 111, 112, 46, 101, 120, 97, 109, 112, 108, 101, 47, 100, 101, 97, 100, 108, 105, 110, 101, 115, 99, 104, 101, 100, 117, 108, 101, 114, 47, 108, 97, 119, 115, 46, 70, 110, 69, 120, 97, 99, 116, 67, 114, 105, 116, 105, 99, 97, 108, 80, 97, 116, 104, 32, 108, 111, 111, 112, 46, 101, 120, 97, 109, 112, 108, 101, 47, 100, 101, 97, 100, 108, 105, 110, 101, 115, 99, 104, 101, 100, 117, 108, 101, 114, 47, 108, 97, 119, 115, 46, 70, 110, 67, 114, 105, 116, 105, 99, 97, 108, 80, 97, 116, 104, 32, 108, 111, 111, 112, 46, 101, 120, 97, 109, 112, 108, 101, 47, 100, 101, 97, 100, 108, 105, 110, 101, 115, 99, 104, 101, 100, 117, 108, 101, 114, 47, 108, 97, 119, 115, 46, 70, 110, 69, 120, 97, 99, 116, 77, 97, 107, 101, 115, 112, 97, 110, 66, 111, 117, 110, 100]
theorem io_eq : Try.prog.initOrder = String.ofList (chars (w1 ++ 32 :: (w2 ++ 32 :: (w3 ++ 32 :: w4)))) := by kernel_rfl
theorem io_list : Try.prog.initOrder.toList = chars (w1 ++ 32 :: (w2 ++ 32 :: (w3 ++ 32 :: w4))) := by rw [io_eq, String.toList_ofList]
theorem ws_one (c : Char) (r w : List Char) (ws : List (List Char)) (hc : c ≠ Char.ofNat 32) (h : wordsSigns r = w :: ws) : wordsSigns (c :: r) = (c :: w) :: ws := by
  have e : wordsSigns (c :: r) = match wordsSigns r with
    | w :: ws => (c :: w) :: ws
    | [] => [[c]] := by
    rw [wordsSigns]
    · rfl
    · exact hc
  rw [e, h]
theorem ws_word (w : List Char) (h : ∀ c ∈ w, c ≠ Char.ofNat 32) (r : List Char) : wordsSigns (w ++ Char.ofNat 32 :: r) = w :: wordsSigns r := by
  induction w with
  | nil => rfl
  | cons c w ih => exact ws_one _ _ _ _ (h c (by simp)) (ih (fun x hx => h x (by simp [hx])))
theorem ws_nat (w r : List Nat) (h : w.all (fun n => !(Char.ofNat n == Char.ofNat 32)) = true) : wordsSigns (chars (w ++ 32 :: r)) = chars w :: wordsSigns (chars r) := by
  have e : chars (w ++ 32 :: r) = chars w ++ Char.ofNat 32 :: chars r := by simp [chars]
  rw [e]
  refine ws_word _ (fun c hc => ?_) _
  obtain ⟨n, hn, rfl⟩ := List.mem_map.1 hc
  have := List.all_eq_true.1 h n hn
  simpa using this
theorem io_words : behindMainWord (wordsSigns Try.prog.initOrder.toList) = chars w3 :: wordsSigns (chars w4) := by
  rw [io_list, ws_nat _ _ (by kernel_rfl), ws_nat _ _ (by kernel_rfl), ws_nat _ _ (by kernel_rfl)]
  generalize wordsSigns (chars w4) = R
  kernel_rfl
theorem make_gen (P : Program) (c : List Char) (R : List (List Char)) (h : behindMainWord (wordsSigns P.initOrder.toList) = c :: R) (h1 : (c == "gc".toList || c == "spec".toList) = false) (h2 : (c == "cut".toList) = true) : P.make = some .cut := by
  unfold Program.make
  rw [h]
  simp only [h1, h2, Bool.true_or, if_true, Bool.false_eq_true, if_false]
theorem make : Try.prog.make = some .cut := make_gen _ _ _ io_words (by kernel_rfl) (by kernel_rfl)
theorem enter_gen (P : Program) (c : List Char) (R : List (List Char)) (h : behindMainWord (wordsSigns P.initOrder.toList) = c :: R) (h1 : ∀ R, stripLifts liftWords (c :: R) = ([], c :: R)) (h2 : (some c == some "cut".toList) = true)
    (h3 : P.laysLater = false) (h4 : P.bearsReflect = false) (h5 : P.doorFits [] = true) : P.mayEnter = true := by
  unfold Program.mayEnter
  rw [h]
  simp only [h1, h2, h3, h4, h5, List.head?_cons, Bool.not_false, Bool.or_true, Bool.and_true, List.contains_nil]
theorem enter : Try.prog.mayEnter = true := enter_gen _ _ _ io_words (fun R => by kernel_rfl) (by kernel_rfl) (by kernel_rfl) (by kernel_rfl) (by kernel_rfl)
theorem lifts : Try.prog.liftsFinal = false := by
  unfold Program.liftsFinal Program.headLifts
  simp only [io_words]
  generalize wordsSigns (chars w4) = R
  kernel_rfl
end Go.Proofs.Ytkmpcmhkfnoeiaa.Head
/- The law FnDelaySafe, proved: for every input the call returns true and each argument reads as it did. No condition. -/
namespace Go.Proofs.Ytkmpcmhkfnoeiaa.fnDelaySafe
open Go.ChangeShapes Go.WideShapes Go.ChangeAt Go.RowKit Go.Proofs.YtkmpcmhkfnoeiaaW.PrintWords Go.Proofs.Ytkmpcmhkfnoeiaa.P
open Go.ChangeMaps (open_string shut_string)
theorem own : ownKnob Try.prog.godebug = none := by kernel_rfl
theorem laidOut : laidOutB Try.prog = true := by kernel_rfl
set_option maxRecDepth 100000 in
theorem lifted (os : Os) (started : os.Started) (H : Type) (enc : TypeId × Value → H) :
    ReturnsInHanded {} Try.checked os 10 .any (Rows.fnDelaySafeSpec.pre6 enc Try.prog Try.f10 Rows.fnDelaySafeRow.domain false) (Rows.fnDelaySafeSpec.post enc Try.prog Try.f10 false true false false) := by
  refine returnsInHanded_of_change_sized (C := Try.checked) own started (by kernel_rfl) Try.func10
    (ChangeSpec.witness6 (enc := enc) (C := Try.checked) false ⟨#[], #[.slice none 0 0], []⟩ 8 (by kernel_rfl) (by kernel_rfl) (by kernel_rfl) (by kernel_rfl)) ?_
  intro W base args ds gs before hval0 hW hcnd hsz0 _
  have hsz : (DataW.weightsEach Try.prog (Try.f10.params.toList ++ Rows.fnDelaySafeSpec.plain.varTypes Try.prog) (ds ++ gs)).all (· ≤ reachBytes) = true := hsz0
  have hval : ∀ (j : Nat) t v, Try.f10.params[j]? = some t → args[j]? = some v → Value.okWide Try.prog W .any base t v := hval0
  have hW' := hW
  obtain ⟨p, q, hA0, hV, rfl, hfz, hnd⟩ := hW
  have hA : DataW.TrodAll enc Try.prog W 0 (fun _ => true) true Try.f10.params.toList args.toList ds p := hA0
  rw [Try.params10] at hA hval hsz
  obtain ⟨v0, vs0, d0, ds0, p0, q0, hargs, rfl, rfl, h0, r0⟩ := trodAll_cons hA
  obtain ⟨rfl, rfl, rfl⟩ := trodAll_nil r0
  obtain rfl : args = #[v0] := by cases args; simp_all
  obtain ⟨rfl, rfl⟩ := trodVars_none hV
  have k0 := h0
  have lt0 : ∀ x ∈ p0, x.block < W.heap.size := by obtain ⟨m, hm⟩ := k0; exact DataW.trod_lt m _ _ _ hm
  obtain ⟨A0, n0, c0, rfl⟩ := okWide_slice Try.underlying31 (hval 0 31 v0 rfl rfl)
  have y0 : n0 * 1 ≤ 140737488351232 := Opn.sized_row hsz (j := 0) (t := 31) rfl rfl Try.underlying31 (by kernel_rfl) h0
  obtain ⟨l0, rfl, hc0, hm0, hr0, hg0⟩ : ∃ xs : List (Int), xs.length = n0 ∧ n0 ≤ c0 ∧ n0 ≤ maxLen ∧ Kd.C (Kd.int .u8) W A0 xs.length xs ∧ ∀ y0 ∈ xs, (Lit.int .u8 y0).wf = true := by
    obtain ⟨fuel, hf⟩ := h0
    exact Opn.slice_row Try.underlying31 (by kernel_rfl) (Opn.opens_int Try.underlying5) hf
  obtain ⟨k, hk⟩ := Pure.FnDelaySafe l0 y0 ⟨hm0, hg0⟩
  clear hA0 hval0 hsz0 hsz
  refine (laws_FnDelaySafe.calls k A0 c0 l0 true W hr0 hc0 hk).mono fun e W' ⟨he, hd⟩ => ?_
  have bel := hd
  subst he
  exact ⟨_, rfl, _, _, _, [], _, [], hW', trodAll_mk1 (shut_bool Try.underlying4 _), (trodAll_cons_mk (Below.trod laidOut (by kernel_rfl) (of_decide_eq_true (by kernel_rfl)) k0 bel lt0) trodAll_mk0), rfl, bel.frame _, fun h => by cases h⟩
theorem closed : joinedFacts Try.prog 10 Try.f10 Rows.fnDelaySafeSpec Rows.fnDelaySafeRow = true := by
  simp only [joinedFacts, Head.enter, Head.lifts, Head.make]
  kernel_rfl
theorem named : Try.prog.funcNamed Rows.fnDelaySafeRow.func = some 10 := by kernel_rfl
theorem wrapped : Try.f10.isWrapper Try.prog Rows.fnDelaySafeRow.wrapper Rows.fnDelaySafeRow.mainSum := by unfold Func.isWrapper; first | (rw [if_pos (by decide +kernel)]; kernel_rfl) | (rw [if_neg (by decide +kernel)]; exact ⟨rfl, rfl⟩)
theorem over : Rows.fnDelaySafeRow.holds Try.pinned (OpenSpec.ofChange Rows.fnDelaySafeSpec) :=
  OpenClaim.holds_of_wide 10 Try.f10 rfl rfl rfl rfl rfl rfl rfl ⟨rfl, rfl, rfl, rfl, rfl⟩ rfl rfl rfl rfl rfl named Try.func10 closed
    (of_decide_eq_true (by kernel_rfl)) wrapped
    (fun os started H enc _ => lifted os started H enc)
theorem proved : Rows.FnDelaySafeSaid := over
#print axioms proved
end Go.Proofs.Ytkmpcmhkfnoeiaa.fnDelaySafe
namespace Go.Proofs.Ytkmpcmhkfnoeiaa
/-- The row, under a short name, for the claim. -/
theorem fnDelaySafe_holds : Rows.FnDelaySafeSaid := fnDelaySafe.proved
end Go.Proofs.Ytkmpcmhkfnoeiaa
