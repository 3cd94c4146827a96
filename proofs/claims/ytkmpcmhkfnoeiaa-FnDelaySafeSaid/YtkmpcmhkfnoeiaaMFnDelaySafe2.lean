/- The law FnDelaySafe for every input, part 2 of its proof: what the program's functions answer, and the plain law. No condition. -/
import Derived.Test.YtkmpcmhkfnoeiaaMFnDelaySafe1
-- Laid by a program of this work.
namespace Go.Proofs.Ytkmpcmhkfnoeiaa.P
open Go.RowKit Go.Proofs.YtkmpcmhkfnoeiaaW.PrintWords Go.Proofs.YtkmpcmhkfnoeiaaW.PrintLast Go.Proofs.YtkmpcmhkfnoeiaaW.PrintMore
attribute [local go_sem] max2_int min2_int max_two min_two max_three min_three max_four min_four   -- for this text's walks alone
set_option linter.unusedVariables false
set_option linter.unusedSimpArgs false

/-! ### spec_l20Amounts: function 67 -/
def spec_l20Amounts.l0 : Nat → Int → List Int → Int → Int → List Int → Int → Int → Int → Option (List Int × Int)
  | 0, _, _, _, _, _, _, _, _ => none
  | k + 1, x2, x7, x8, x9, x1000, x1001, x322000, x322001 => if x9 > 0 then ((spec_l20Rd_pick.f k x1000 x1001 (mx 1 (wrap64 ((mn (wrap64 (x322000 + x322001)) (wrap64 (x8 + x322001))) + 1)))).bind fun bt327 => ((some (([0, mx 0 (mn (wrap64 (x322000 + x322001)) (wrap64 (x8 + x322001))), bt327.1] : List Int) : List Int)).bind fun y329 => ((spec_l20Rd_pick.f k x1000 bt327.2 3).bind fun bt332 => (if 0 ≤ bt332.1 then (if bt332.1 < (y329.length : Int) then (if x7.length < 17592186044416 then (spec_l20Amounts.l0 k x2 (x7 ++ [rd y329 bt332.1]) (mn x322000 (wrap64 ((mn (wrap64 (x322000 + x322001)) (wrap64 (x8 + x322001))) - (rd y329 bt332.1)))) (wrap64 (x9 - 1)) x1000 bt332.2 x322000 x322001) else (none)) else (none)) else (none))))) else ((spec_l20Rd_odd.f k x1000 x1001 x2).bind fun bt338 => (if bt338.1 = true then ((spec_l20Rd_pick.f k x1000 bt338.2 (x7.length : Int)).bind fun bt340 => ((some (([(-1), 1001, wrap64 ((wrap64 (x322000 + x322001)) + 1)] : List Int) : List Int)).bind fun y342 => ((spec_l20Rd_pick.f k x1000 bt340.2 3).bind fun bt345 => (if 0 ≤ bt345.1 then (if bt345.1 < (y342.length : Int) then (if 0 ≤ bt340.1 then (if bt340.1 < (x7.length : Int) then (some ((x7.set (bt340.1 : Int).toNat (rd y342 bt345.1)), bt345.2)) else (none)) else (none)) else (none)) else (none))))) else (some (x7, bt338.2))))
def spec_l20Amounts.f (k : Nat) (s0_0 : List Int) (s0_1 : Int) (a1_0 : Int) (a1_1 : Int) (a2 : Int) : Option (List Int × Int) := (spec_l20Rd_pick.f k s0_0 s0_1 50).bind fun bt325 => (spec_l20Amounts.l0 k a2 (([] : List Int)) a1_0 (wrap64 (10 + bt325.1)) s0_0 bt325.2 a1_0 a1_1)
theorem spec_l20Amounts.mono_l : ∀ k, (∀ y0 y1 y2 y3 y4 y5 y6 y7, LeO (spec_l20Amounts.l0 k y0 y1 y2 y3 y4 y5 y6 y7) (spec_l20Amounts.l0 (k + 1) y0 y1 y2 y3 y4 y5 y6 y7))
  | 0 => fun _ _ _ _ _ _ _ _ r h => by simp [spec_l20Amounts.l0] at h
  | k + 1 => by
    have ih0 := spec_l20Amounts.mono_l k
    · intro y0 y1 y2 y3 y4 y5 y6 y7
      unfold spec_l20Amounts.l0
      repeat' first
      | (with_reducible exact ih0 _ _ _ _ _ _ _ _)
      | (with_reducible exact spec_l20Rd_odd.mono _ _ _ _)
      | (with_reducible exact spec_l20Rd_pick.mono _ _ _ _)
      | (with_reducible exact LeO.refl _)
      | (with_reducible exact LeO.none _)
      | (with_reducible refine LeO.ite ?_ ?_)
      | (with_reducible refine LeO.bind ?_ (fun _ => ?_))
      | exact ih0 _ _ _ _ _ _ _ _
      | exact spec_l20Rd_odd.mono _ _ _ _
      | exact spec_l20Rd_pick.mono _ _ _ _
      | exact LeO.none _
      | refine LeO.ite ?_ ?_
      | refine LeO.bind ?_ (fun _ => ?_)
theorem spec_l20Amounts.mono : ∀ a0 a1 a2 a3 a4 k, LeO (spec_l20Amounts.f k a0 a1 a2 a3 a4) (spec_l20Amounts.f (k + 1) a0 a1 a2 a3 a4) := by
  intro a0 a1 a2 a3 a4 k
  have ih0 := spec_l20Amounts.mono_l k
  unfold spec_l20Amounts.f
  repeat' first
      | (with_reducible exact ih0 _ _ _ _ _ _ _ _)
      | (with_reducible exact spec_l20Rd_odd.mono _ _ _ _)
      | (with_reducible exact spec_l20Rd_pick.mono _ _ _ _)
      | (with_reducible exact LeO.refl _)
      | (with_reducible exact LeO.none _)
      | (with_reducible refine LeO.ite ?_ ?_)
      | (with_reducible refine LeO.bind ?_ (fun _ => ?_))
      | exact ih0 _ _ _ _ _ _ _ _
      | exact spec_l20Rd_odd.mono _ _ _ _
      | exact spec_l20Rd_pick.mono _ _ _ _
      | exact LeO.none _
      | refine LeO.ite ?_ ?_
      | refine LeO.bind ?_ (fun _ => ?_)
def spec_l20Amounts.T11 : Bool × List (List Nat × List Nat) := (true, [([], []), ([], []), ([], []), ([2], [2]), ([1, 3], [1, 3]), ([], []), ([5], [5]), ([], []), ([7], [7]), ([6, 8], [6, 8]), ([9], [9]), ([10], [10]), ([], []), ([12, 4], [12]), ([11, 13], [11, 13]), ([14], [14]), ([0, 4, 0, 1, 2, 3, 4, 5, 6, 7, 8, 9, 10, 11, 12, 13, 14, 15], [0, 4]), ([16, 15, 13, 0, 1, 2, 3, 4, 5, 6, 7, 8, 9, 10, 11, 12, 13, 14, 15], [15, 16])])
def spec_l20Amounts.B11 : List Nat := [0, 0, 0, 4, 14, 0, 32, 0, 128, 480, 992, 2016, 0, 4126, 16382, 32766, 65535, 131071]
theorem spec_l20Amounts.tab11 : rtab .any (opsOf Try.f67 11) = spec_l20Amounts.T11 := by kernel_rfl
theorem spec_l20Amounts.bits11 : waitsOk spec_l20Amounts.T11.2 spec_l20Amounts.B11 = true := by kernel_rfl
set_option maxHeartbeats 8000000 in
set_option maxRecDepth 100000 in
theorem spec_l20Amounts.calls (k : Nat) (g : Nat) (s0_0 : List Int) (s0_1 : Int) (a1_0 : Int) (a1_1 : Int) (a2 : Int) (r1 : List Int) (r2 : Int) (w0 w : World) (hI : IsS92 w0 w g s0_0 s0_1) (hB : Below w0.heap.size w0 w) (h : spec_l20Amounts.f k s0_0 s0_1 a1_0 a1_1 a2 = some (r1, r2)) :
    Calls Try.prog 67 #[.pointer (some ⟨g, 0, none⟩), .agg #[.int .i64 a1_0, .int .i64 a1_1], .int .i64 a2] w fun e w' => ∃ v0_ : Value, e = .returned (v0_) ∧ Kd.R (Kd.int .i64) 3 w' w.heap.size (fun _ => True) v0_ r1 ∧ IsS92 w0 w' g s0_0 r2 ∧ Below w0.heap.size w0 w' ∧ KeepBut w w' g none := by
  have hu41 := Try.underlying41
  have HI0 := Aside0.mk hI
  have HK := Aside0.mk (KeepBut.refl w g none)
  have HL := Aside0.mk hB.size
  clear hI
  have HW0 := Aside0.mk hB.size
  have HB := Aside0.mk hB
  clear hB
  have H : ((spec_l20Rd_pick.f k s0_0 s0_1 50).bind fun bt325 => (spec_l20Amounts.l0 k a2 (([] : List Int)) a1_0 (wrap64 (10 + bt325.1)) s0_0 bt325.2 a1_0 a1_1)) = some (r1, r2) := h
  clear h
  obtain ⟨y322, hy322⟩ : ∃ y_ : List Int, y_ = (([] : List Int)) := ⟨_, rfl⟩
  replace H : ((spec_l20Rd_pick.f k s0_0 s0_1 50).bind fun bt325 => (spec_l20Amounts.l0 k a2 y322 a1_0 (wrap64 (10 + bt325.1)) s0_0 bt325.2 a1_0 a1_1)) = some (r1, r2) := by first | (rw [hy322]; with_reducible exact H) | (have H2_ := (Option.bind_some _ _).symm.trans H; rw [hy322]; with_reducible exact H2_) | (have H2_ := (Option.bind_some _ _).symm.trans H; with_reducible exact H2_) | with_reducible exact H | (rw [hy322]; exact H) | exact H
  have Ny322 := Aside0.mk hy322
  clear hy322
  replace H := Option.bind_eq_some_iff.mp H
  obtain ⟨⟨t325, t326⟩, A40, H⟩ := H
  replace H : (spec_l20Amounts.l0 k a2 y322 a1_0 (wrap64 (10 + t325)) s0_0 t326 a1_0 a1_1) = some (r1, r2) := H
  have A4 := Aside0.mk A40
  clear A40
  have H' := Aside0.mk H
  clear H
  go_enter Try.func67, Try.ntmps67
  go_wp2_with (first | ((with_reducible refine gate_dst (N := 4) rfl ?_); refine box_event ?hg (N := 4) ?hd (cs := #[.int .i64 a1_0, .int .i64 a1_1]) (t := 41) ?hr ?_; (case hd => rfl); (case hg => rfl); (case hr => first | (go_simp; done) | (go_simp; rfl)); intro gb321 hg w5 hbox hb; have n0_ := Aside0.mk (IsS92.below (by repeat (first | (with_reducible first | exact HI0.out | apply IsS92.alloc | apply IsS92.drewN | apply IsS92.drew | apply IsS92.set_1) | exact HI0.out)) hb); have n1_ := Aside0.mk (KeepBut.trans (by repeat (first | (with_reducible first | exact HK.out | apply KeepBut.set_ | apply keep_drewN | apply keep_drew | apply keep_alloc) | exact HK.out)) (KeepBut.of_below hb g none) (.inl rfl)); have n2_ := Aside0.mk (below_step (by repeat (first | (with_reducible first | exact HB.out | apply below_alloc | apply pw_below_drewN | apply below_drew1 | refine below_set ?_ (IsS92.ge HI0.out)) | exact HB.out)) hb); have n3_ := Aside0.mk (hbox); have n4_ := Aside0.mk ((by rw [hg]; exact (keep_size (w := w) (g := g) (row := none) (by repeat (first | (with_reducible first | exact HK.out | apply KeepBut.set_ | apply keep_drewN | apply keep_drew | apply keep_alloc) | exact HK.out))) : w.heap.size ≤ gb321)); have n5_ := Aside0.mk ((Nat.le_trans HW0.out (by rw [hg]; exact (keep_size (w := w) (g := g) (row := none) (by repeat (first | (with_reducible first | exact HK.out | apply KeepBut.set_ | apply keep_drewN | apply keep_drew | apply keep_alloc) | exact HK.out))) : w.heap.size ≤ gb321) : w0.heap.size ≤ gb321)); have n6_ := Aside0.mk ((by rw [hg]; exact Nat.ne_of_lt (IsS92.lt (show IsS92 w0 _ g s0_0 s0_1 from by repeat (first | (with_reducible first | exact HI0.out | apply IsS92.alloc | apply IsS92.drewN | apply IsS92.drew | apply IsS92.set_1) | exact HI0.out))) : g ≠ gb321)); have n7_ := Aside0.mk ((by rw [hg]; exact Nat.ne_of_gt (IsS92.lt (show IsS92 w0 _ g s0_0 s0_1 from by repeat (first | (with_reducible first | exact HI0.out | apply IsS92.alloc | apply IsS92.drewN | apply IsS92.drew | apply IsS92.set_1) | exact HI0.out))) : gb321 ≠ g)); clear HI0; clear HK; clear HB; have HI0 := n0_; have HK := n1_; have HB := n2_; have BK321 := n3_; have GW321 := n4_; have GE321 := n5_; have NB0_321 := n6_; have NB321_0 := n7_; clear n0_ n1_ n2_ n3_ n4_ n5_ n6_ n7_; clear hb hbox hg) | ((with_reducible refine gate_dst (N := 11) rfl ?_); refine Kd.R_lit (Kd.int .i64) _ 3 ?hg (N := 11) ?hd (xs := ([] : List Int)) (inner := []) (ok := fun _ => True) (okp := fun _ => True) ?hr ?hp (fun _ hk => hk) trivial (Below.refl _ _) (Nat.le_refl _) (by simp) ?_; (case hd => rfl); (case hg => rfl); (case hr => first | (go_simp; done) | (go_simp; rfl)); (case hp => exact (Reps.none _ _)); intro v323 w6 ho7 hb hg_ hnew_; clear hg_ hnew_; (first | rw [← Ny322.out] at ho7 | (simp only [Int.reduceToNat] at ho7; rw [← Ny322.out] at ho7)); have n0_ := Aside0.mk (Kd.R_lower ho7 (keep_size (w := w) (g := g) (row := none) (by repeat (first | (with_reducible first | exact HK.out | apply KeepBut.set_ | apply keep_drewN | apply keep_drew | apply keep_alloc | refine keep_far ?_ GW321.out _) | exact HK.out)))); have n1_ := Aside0.mk (IsS92.below (by repeat (first | (with_reducible first | exact HI0.out | apply IsS92.alloc | apply IsS92.drewN | apply IsS92.drew | apply IsS92.set_1 | refine IsS92.far ?_ NB0_321.out _) | exact HI0.out)) hb); have n2_ := Aside0.mk (blk_below (g := gb321) (o := .cells #[.int .i64 a1_0, .int .i64 a1_1] 41 (0, 0)) (by (with_reducible repeat (first | refine blk_drewN ?_ _ | refine blk_drew ?_ | refine blk_alloc ?_ _)); exact BK321.out) hb); have n3_ := Aside0.mk (KeepBut.trans (by repeat (first | (with_reducible first | exact HK.out | apply KeepBut.set_ | apply keep_drewN | apply keep_drew | apply keep_alloc | refine keep_far ?_ GW321.out _) | exact HK.out)) (KeepBut.of_below hb g none) (.inl rfl)); have n4_ := Aside0.mk (below_step (by repeat (first | (with_reducible first | exact HB.out | apply below_alloc | apply pw_below_drewN | apply below_drew1 | refine below_set ?_ (IsS92.ge HI0.out) | refine below_set ?_ GE321.out) | exact HB.out)) hb); clear HI0; clear BK321; clear HK; clear HB; have HO324 := n0_; have HI0 := n1_; have BK321 := n2_; have HK := n3_; have HB := n4_; clear n0_ n1_ n2_ n3_ n4_; clear hb ho7; have hnb8 := NB321_0.out; have hnc8 := NB0_321.out; have hcz9_0 : w6.cell? ⟨gb321, 0, none⟩ = some (.int .i64 a1_0) := (blk_cell BK321.out 0).trans rfl; have hcz9_1 : w6.cell? ⟨gb321, 1, none⟩ = some (.int .i64 a1_1) := (blk_cell BK321.out 1).trans rfl; have hfz9_0 := blk_frozen BK321.out 0; have hfz9_1 := blk_frozen BK321.out 1) | ((with_reducible refine gate_callee (f := 60) rfl ?_); refine goesL_ (some 15) rfl rfl Try.func60 (by kernel_rfl) rfl #[.pointer (some ⟨g, 0, none⟩), .int .i64 50] rfl (by (try simp only [List.map_toArray, List.map_cons, List.map_nil]); first | done | rfl | (simp only [List.length_drop, List.length_take]; rfl)) ?_; (with_reducible refine (spec_l20Rd_pick.calls k g s0_0 s0_1 50 t325 t326 w0 _ ?side1 ?side2 A4.out).mono ?_); (case side1 => repeat (first | (with_reducible first | exact HI0.out | apply IsS92.alloc | apply IsS92.drewN | apply IsS92.drew | apply IsS92.set_1 | refine IsS92.far ?_ NB0_321.out _) | exact HI0.out)); (case side2 => repeat (first | (with_reducible first | exact HB.out | apply below_alloc | apply pw_below_drewN | apply below_drew1 | refine below_set ?_ (IsS92.ge HI0.out) | refine below_set ?_ GE321.out) | exact HB.out)); rintro e w10 ⟨rfl, hi, hb, hk⟩; refine ⟨_, rfl, ?_⟩; have n0_ := Aside0.mk (KeepBut.blk hk (g' := gb321) (o := .cells #[.int .i64 a1_0, .int .i64 a1_1] 41 (0, 0)) (by (with_reducible repeat (first | refine blk_drewN ?_ _ | refine blk_drew ?_ | refine blk_alloc ?_ _)); exact BK321.out) NB321_0.out (by simp)); have n1_ := Aside0.mk (Kd.R_mono (Kd.R_keep (IsS92.apart (show IsS92 w0 _ g s0_0 s0_1 from by repeat (first | (with_reducible first | exact HI0.out | apply IsS92.alloc | apply IsS92.drewN | apply IsS92.drew | apply IsS92.set_1 | refine IsS92.far ?_ NB0_321.out _) | exact HI0.out)) (by (with_reducible repeat (first | apply Kd.R_alloc | apply Kd.R_drewN | apply Kd.R_drew)); exact HO324.out) (by decide)) hk (fun _ h => h.2)) (fun _ h => h.1)); have n2_ := Aside0.mk (KeepBut.trans (by repeat (first | (with_reducible first | exact HK.out | apply KeepBut.set_ | apply keep_drewN | apply keep_drew | apply keep_alloc | refine keep_far ?_ GW321.out _) | exact HK.out)) hk (.inl rfl)); have n3_ := Aside0.mk (hb); have n4_ := Aside0.mk (hi); clear BK321; clear HO324; clear HK; clear HB; clear HI0; have BK321 := n0_; have HO324 := n1_; have HK := n2_; have HB := n3_; have HI0 := n4_; clear n0_ n1_ n2_ n3_ n4_; (try clear hb); (try clear hb2); (try clear hk); (try clear hi)))
  go_loopg [7, 8, 9] k (fun kq v7 v8 v9 w' => ∃ (x7_1 : List Int) (x8_1 : Int) (x9_1 : Int) (x1001_1 : Int), v8 = .int .i64 x8_1 ∧ v9 = .int .i64 x9_1 ∧ Aside0 (spec_l20Amounts.l0 kq a2 x7_1 x8_1 x9_1 s0_0 x1001_1 a1_0 a1_1 = some (r1, r2)) ∧ Aside0 (kq ≤ k) ∧ Aside0 (Kd.R (Kd.int .i64) 3 w' w.heap.size (fun _ => True) v7 x7_1) ∧ Aside0 (w'.heap[gb321]? = some (.cells #[.int .i64 a1_0, .int .i64 a1_1] 41 (0, 0))) ∧ Aside0 (IsS92 w0 w' g s0_0 x1001_1) ∧ Aside0 (KeepBut w w' g none) ∧ Aside0 (Below w0.heap.size w0 w'))
  case atStart => exact ⟨(y322), (a1_0), (wrap64 (10 + t325)), (t326), (by first | rfl | (simp; done) | (simp [*]; done)), (by first | rfl | (simp; done) | (simp [*]; done)), H', ⟨Nat.le_refl _⟩, ⟨by (with_reducible repeat (first | apply Kd.R_alloc | apply Kd.R_drewN | apply Kd.R_drew)); exact HO324.out⟩, ⟨by (with_reducible repeat (first | refine blk_drewN ?_ _ | refine blk_drew ?_ | refine blk_alloc ?_ _)); exact BK321.out⟩, ⟨by repeat (first | (with_reducible first | exact HI0.out | apply IsS92.alloc | apply IsS92.drewN | apply IsS92.drew | apply IsS92.set_1 | refine IsS92.far ?_ NB0_321.out _) | exact HI0.out)⟩, ⟨by repeat (first | (with_reducible first | exact HK.out | apply KeepBut.set_ | apply keep_drewN | apply keep_drew | apply keep_alloc | refine keep_far ?_ GW321.out _) | exact HK.out)⟩, ⟨by repeat (first | (with_reducible first | exact HB.out | apply below_alloc | apply pw_below_drewN | apply below_drew1 | refine below_set ?_ (IsS92.ge HI0.out) | refine below_set ?_ GE321.out) | exact HB.out)⟩⟩
  case round =>
    clear H'
    try clear p2
    try clear c6
    try clear p6
    try clear c8
    try clear hcz9_0
    try clear hcz9_1
    try clear hfz9_0
    try clear hfz9_1
    obtain ⟨x7_1, x8_1, x9_1, x1001_1, rfl, rfl, HA, HK1, HO_7, BK321, HI0, HK, HB⟩ := hrel
    cases gk with
    | zero => exact absurd HA.out (by simp [spec_l20Amounts.l0])
    | succ k1 =>
      have H := HA.out
      clear HA
      simp only [spec_l20Amounts.l0] at H
      by_cases c11 : x9_1 > 0
      · rw [if_pos c11] at H
        have c11b0 : decide (0 < x9_1) = true := decide_eq_true c11
        clear c11
        obtain ⟨ji12, hji12⟩ : ∃ j_ : Int, (mn (wrap64 (a1_0 + a1_1)) (wrap64 (x8_1 + a1_1))) = j_ := ⟨_, rfl⟩
        replace H : ((spec_l20Rd_pick.f k1 s0_0 x1001_1 (mx 1 (wrap64 ((ji12) + 1)))).bind fun bt327 => ((some (([0, mx 0 (ji12), bt327.1] : List Int) : List Int)).bind fun y329 => ((spec_l20Rd_pick.f k1 s0_0 bt327.2 3).bind fun bt332 => (if 0 ≤ bt332.1 then (if bt332.1 < (y329.length : Int) then (if x7_1.length < 17592186044416 then (spec_l20Amounts.l0 k1 a2 (x7_1 ++ [rd y329 bt332.1]) (mn a1_0 (wrap64 ((ji12) - (rd y329 bt332.1)))) (wrap64 (x9_1 - 1)) s0_0 bt332.2 a1_0 a1_1) else (none)) else (none)) else (none))))) = some (r1, r2) := by first | (rw [hji12] at H; exact H) | (simp only [hji12] at H ⊢; exact H)
        have hji12_ : (if (wrap64 (x8_1 + a1_1)) < (wrap64 (a1_0 + a1_1)) then (wrap64 (x8_1 + a1_1)) else (wrap64 (a1_0 + a1_1))) = ji12 := hji12
        obtain ⟨ji13, hji13⟩ : ∃ j_ : Int, (mx 0 (ji12)) = j_ := ⟨_, rfl⟩
        replace H : ((spec_l20Rd_pick.f k1 s0_0 x1001_1 (mx 1 (wrap64 ((ji12) + 1)))).bind fun bt327 => ((some (([0, ji13, bt327.1] : List Int) : List Int)).bind fun y329 => ((spec_l20Rd_pick.f k1 s0_0 bt327.2 3).bind fun bt332 => (if 0 ≤ bt332.1 then (if bt332.1 < (y329.length : Int) then (if x7_1.length < 17592186044416 then (spec_l20Amounts.l0 k1 a2 (x7_1 ++ [rd y329 bt332.1]) (mn a1_0 (wrap64 ((ji12) - (rd y329 bt332.1)))) (wrap64 (x9_1 - 1)) s0_0 bt332.2 a1_0 a1_1) else (none)) else (none)) else (none))))) = some (r1, r2) := by first | (rw [hji13] at H; exact H) | (simp only [hji13] at H ⊢; exact H)
        have hji13_ : (if 0 < (ji12) then (ji12) else 0) = ji13 := hji13
        obtain ⟨ji14, hji14⟩ : ∃ j_ : Int, (mx 1 (wrap64 ((ji12) + 1))) = j_ := ⟨_, rfl⟩
        replace H : ((spec_l20Rd_pick.f k1 s0_0 x1001_1 (ji14)).bind fun bt327 => ((some (([0, ji13, bt327.1] : List Int) : List Int)).bind fun y329 => ((spec_l20Rd_pick.f k1 s0_0 bt327.2 3).bind fun bt332 => (if 0 ≤ bt332.1 then (if bt332.1 < (y329.length : Int) then (if x7_1.length < 17592186044416 then (spec_l20Amounts.l0 k1 a2 (x7_1 ++ [rd y329 bt332.1]) (mn a1_0 (wrap64 ((ji12) - (rd y329 bt332.1)))) (wrap64 (x9_1 - 1)) s0_0 bt332.2 a1_0 a1_1) else (none)) else (none)) else (none))))) = some (r1, r2) := by first | (rw [hji14] at H; exact H) | (simp only [hji14] at H ⊢; exact H)
        have hji14_ : (if 1 < (wrap64 ((ji12) + 1)) then (wrap64 ((ji12) + 1)) else 1) = ji14 := hji14
        replace H := Option.bind_eq_some_iff.mp H
        obtain ⟨⟨t327, t328⟩, A150, H⟩ := H
        replace H : ((some (([0, ji13, t327] : List Int) : List Int)).bind fun y329 => ((spec_l20Rd_pick.f k1 s0_0 t328 3).bind fun bt332 => (if 0 ≤ bt332.1 then (if bt332.1 < (y329.length : Int) then (if x7_1.length < 17592186044416 then (spec_l20Amounts.l0 k1 a2 (x7_1 ++ [rd y329 bt332.1]) (mn a1_0 (wrap64 ((ji12) - (rd y329 bt332.1)))) (wrap64 (x9_1 - 1)) s0_0 bt332.2 a1_0 a1_1) else (none)) else (none)) else (none)))) = some (r1, r2) := H
        have A15 := Aside0.mk A150
        clear A150
        obtain ⟨y329, hy329⟩ : ∃ y_ : List Int, y_ = (([0, ji13, t327] : List Int)) := ⟨_, rfl⟩
        replace H : ((spec_l20Rd_pick.f k1 s0_0 t328 3).bind fun bt332 => (if 0 ≤ bt332.1 then (if bt332.1 < (y329.length : Int) then (if x7_1.length < 17592186044416 then (spec_l20Amounts.l0 k1 a2 (x7_1 ++ [rd y329 bt332.1]) (mn a1_0 (wrap64 ((ji12) - (rd y329 bt332.1)))) (wrap64 (x9_1 - 1)) s0_0 bt332.2 a1_0 a1_1) else (none)) else (none)) else (none))) = some (r1, r2) := by first | (rw [hy329]; with_reducible exact H) | (have H2_ := (Option.bind_some _ _).symm.trans H; rw [hy329]; with_reducible exact H2_) | (have H2_ := (Option.bind_some _ _).symm.trans H; with_reducible exact H2_) | with_reducible exact H | (rw [hy329]; exact H) | exact H
        have Ny329 := Aside0.mk hy329
        clear hy329
        replace H := Option.bind_eq_some_iff.mp H
        obtain ⟨⟨t332, t333⟩, A160, H⟩ := H
        replace H : (if 0 ≤ t332 then (if t332 < (y329.length : Int) then (if x7_1.length < 17592186044416 then (spec_l20Amounts.l0 k1 a2 (x7_1 ++ [rd y329 t332]) (mn a1_0 (wrap64 ((ji12) - (rd y329 t332)))) (wrap64 (x9_1 - 1)) s0_0 t333 a1_0 a1_1) else (none)) else (none)) else (none)) = some (r1, r2) := H
        have A16 := Aside0.mk A160
        clear A160
        by_cases c17 : 0 ≤ t332
        · rw [if_pos c17] at H
          have c17b0 : decide (0 ≤ t332) = true := decide_eq_true c17
          clear c17
          by_cases c18 : t332 < (y329.length : Int)
          · rw [if_pos c18] at H
            have c18b0 : decide (t332 < (y329.length : Int)) = true := decide_eq_true c18
            clear c18
            by_cases c19 : x7_1.length < 17592186044416
            · rw [if_pos c19] at H
              have LMc19 := Aside0.mk c19
              clear c19
              obtain ⟨y335, hy335⟩ : ∃ y_ : List Int, y_ = (x7_1 ++ [rd y329 t332]) := ⟨_, rfl⟩
              replace H : (spec_l20Amounts.l0 k1 a2 y335 (mn a1_0 (wrap64 ((ji12) - (rd y329 t332)))) (wrap64 (x9_1 - 1)) s0_0 t333 a1_0 a1_1) = some (r1, r2) := by first | (rw [hy335]; with_reducible exact H) | (have H2_ := (Option.bind_some _ _).symm.trans H; rw [hy335]; with_reducible exact H2_) | (have H2_ := (Option.bind_some _ _).symm.trans H; with_reducible exact H2_) | with_reducible exact H | (rw [hy335]; exact H) | exact H
              have Ny335 := Aside0.mk hy335
              clear hy335
              obtain ⟨ji20, hji20⟩ : ∃ j_ : Int, (mn a1_0 (wrap64 ((ji12) - (rd y329 t332)))) = j_ := ⟨_, rfl⟩
              replace H : (spec_l20Amounts.l0 k1 a2 y335 ji20 (wrap64 (x9_1 - 1)) s0_0 t333 a1_0 a1_1) = some (r1, r2) := by first | (rw [hji20] at H; exact H) | (simp only [hji20] at H ⊢; exact H)
              (try rw [hji20] at A15)
              (try rw [hji20] at A16)
              have hji20_ : (if (wrap64 ((ji12) - (rd y329 t332))) < a1_0 then (wrap64 ((ji12) - (rd y329 t332))) else a1_0) = ji20 := hji20
              have H' := Aside0.mk H
              clear H
              have hnb21 := NB321_0.out
              have hnc21 := NB0_321.out
              have hcz22_0 : wr.cell? ⟨gb321, 0, none⟩ = some (.int .i64 a1_0) := (blk_cell BK321.out 0).trans rfl
              have hcz22_1 : wr.cell? ⟨gb321, 1, none⟩ = some (.int .i64 a1_1) := (blk_cell BK321.out 1).trans rfl
              have hfz22_0 := blk_frozen BK321.out 0
              have hfz22_1 := blk_frozen BK321.out 1
              go_wp2_with (first | ((with_reducible refine gate_callee (f := 60) rfl ?_); refine goesL_ (some 37) rfl rfl Try.func60 (by kernel_rfl) rfl #[.pointer (some ⟨g, 0, none⟩), .int .i64 ji14] rfl (by (try simp only [List.map_toArray, List.map_cons, List.map_nil]); first | done | (simp only [hji14]; rfl) | rfl | (simp only [List.length_drop, List.length_take]; rfl)) ?_; (with_reducible refine (spec_l20Rd_pick.calls k1 g s0_0 x1001_1 ji14 t327 t328 w0 _ ?side1 ?side2 A15.out).mono ?_); (case side1 => repeat (first | (with_reducible first | exact HI0.out | apply IsS92.alloc | apply IsS92.drewN | apply IsS92.drew | apply IsS92.set_1 | refine IsS92.far ?_ NB0_321.out _) | exact HI0.out)); (case side2 => repeat (first | (with_reducible first | exact HB.out | apply below_alloc | apply pw_below_drewN | apply below_drew1 | refine below_set ?_ (IsS92.ge HI0.out) | refine below_set ?_ GE321.out) | exact HB.out)); rintro e w23 ⟨rfl, hi, hb, hk⟩; refine ⟨_, rfl, ?_⟩; have n0_ := Aside0.mk (Kd.R_mono (Kd.R_keep (IsS92.apart (show IsS92 w0 _ g s0_0 x1001_1 from by repeat (first | (with_reducible first | exact HI0.out | apply IsS92.alloc | apply IsS92.drewN | apply IsS92.drew | apply IsS92.set_1 | refine IsS92.far ?_ NB0_321.out _) | exact HI0.out)) (by (with_reducible repeat (first | apply Kd.R_alloc | apply Kd.R_drewN | apply Kd.R_drew)); exact HO_7.out) (by decide)) hk (fun _ h => h.2)) (fun _ h => h.1)); have n1_ := Aside0.mk (KeepBut.blk hk (g' := gb321) (o := .cells #[.int .i64 a1_0, .int .i64 a1_1] 41 (0, 0)) (by (with_reducible repeat (first | refine blk_drewN ?_ _ | refine blk_drew ?_ | refine blk_alloc ?_ _)); exact BK321.out) NB321_0.out (by simp)); have n2_ := Aside0.mk (KeepBut.trans (by repeat (first | (with_reducible first | exact HK.out | apply KeepBut.set_ | apply keep_drewN | apply keep_drew | apply keep_alloc | refine keep_far ?_ GW321.out _) | exact HK.out)) hk (.inl rfl)); have n3_ := Aside0.mk (hb); have n4_ := Aside0.mk (hi); clear HO_7; clear BK321; clear HK; clear HB; clear HI0; have HO_7 := n0_; have BK321 := n1_; have HK := n2_; have HB := n3_; have HI0 := n4_; clear n0_ n1_ n2_ n3_ n4_; (try clear hb); (try clear hb2); (try clear hk); (try clear hi)) | ((with_reducible refine gate_dst (N := 38) rfl ?_); refine Kd.R_lit (Kd.int .i64) _ 3 ?hg (N := 38) ?hd (xs := ([0, ji13, t327] : List Int)) (inner := [.int .i64 0, .int .i64 ji13, .int .i64 t327]) (ok := fun _ => True) (okp := fun _ => True) ?hr ?hp (fun _ hk => hk) trivial (Below.refl _ _) (Nat.le_refl _) (by simp) ?_; (case hd => rfl); (case hg => rfl); (case hr => first | (go_simp; done) | (go_simp; rfl)); (case hp => exact (Reps.one (show Kd.M (Kd.int .i64) _ _ _ 0 [.int .i64 0] from rfl) (Reps.one (show Kd.M (Kd.int .i64) _ _ _ ji13 [.int .i64 ji13] from rfl) (Reps.one (show Kd.M (Kd.int .i64) _ _ _ t327 [.int .i64 t327] from rfl) (Reps.none _ _))))); intro v330 w24 ho25 hb hg_ hnew_; clear hg_ hnew_; (first | rw [← Ny329.out] at ho25 | (simp only [Int.reduceToNat] at ho25; rw [← Ny329.out] at ho25)); have n0_ := Aside0.mk (Kd.R_elder' (by (with_reducible repeat (first | apply Kd.R_alloc | apply Kd.R_drewN | apply Kd.R_drew)); exact HO_7.out) (Kd.R_base ho25) hb); have n1_ := Aside0.mk (Kd.R_lower (Kd.R_new' ho25 (Kd.R_lt (by (with_reducible repeat (first | apply Kd.R_alloc | apply Kd.R_drewN | apply Kd.R_drew)); exact HO_7.out))) (keep_size (w := w) (g := g) (row := none) (by repeat (first | (with_reducible first | exact HK.out | apply KeepBut.set_ | apply keep_drewN | apply keep_drew | apply keep_alloc | refine keep_far ?_ GW321.out _) | exact HK.out)))); have n2_ := Aside0.mk (blk_below (g := gb321) (o := .cells #[.int .i64 a1_0, .int .i64 a1_1] 41 (0, 0)) (by (with_reducible repeat (first | refine blk_drewN ?_ _ | refine blk_drew ?_ | refine blk_alloc ?_ _)); exact BK321.out) hb); have n3_ := Aside0.mk (IsS92.below (by repeat (first | (with_reducible first | exact HI0.out | apply IsS92.alloc | apply IsS92.drewN | apply IsS92.drew | apply IsS92.set_1 | refine IsS92.far ?_ NB0_321.out _) | exact HI0.out)) hb); have n4_ := Aside0.mk (KeepBut.trans (by repeat (first | (with_reducible first | exact HK.out | apply KeepBut.set_ | apply keep_drewN | apply keep_drew | apply keep_alloc | refine keep_far ?_ GW321.out _) | exact HK.out)) (KeepBut.of_below hb g none) (.inl rfl)); have n5_ := Aside0.mk (below_step (by repeat (first | (with_reducible first | exact HB.out | apply below_alloc | apply pw_below_drewN | apply below_drew1 | refine below_set ?_ (IsS92.ge HI0.out) | refine below_set ?_ GE321.out) | exact HB.out)) hb); clear HO_7; clear BK321; clear HI0; clear HK; clear HB; have HO_7 := n0_; have HO331 := n1_; have BK321 := n2_; have HI0 := n3_; have HK := n4_; have HB := n5_; clear n0_ n1_ n2_ n3_ n4_ n5_; clear hb ho25) | ((with_reducible refine gate_callee (f := 60) rfl ?_); refine goesL_ (some 40) rfl rfl Try.func60 (by kernel_rfl) rfl #[.pointer (some ⟨g, 0, none⟩), .int .i64 3] rfl (by (try simp only [List.map_toArray, List.map_cons, List.map_nil]); first | done | rfl | (simp only [List.length_drop, List.length_take]; rfl)) ?_; (with_reducible refine (spec_l20Rd_pick.calls k1 g s0_0 t328 3 t332 t333 w0 _ ?side1 ?side2 A16.out).mono ?_); (case side1 => repeat (first | (with_reducible first | exact HI0.out | apply IsS92.alloc | apply IsS92.drewN | apply IsS92.drew | apply IsS92.set_1 | refine IsS92.far ?_ NB0_321.out _) | exact HI0.out)); (case side2 => repeat (first | (with_reducible first | exact HB.out | apply below_alloc | apply pw_below_drewN | apply below_drew1 | refine below_set ?_ (IsS92.ge HI0.out) | refine below_set ?_ GE321.out) | exact HB.out)); rintro e w26 ⟨rfl, hi, hb, hk⟩; refine ⟨_, rfl, ?_⟩; have n0_ := Aside0.mk (Kd.R_mono (Kd.R_keep (IsS92.apart (show IsS92 w0 _ g s0_0 t328 from by repeat (first | (with_reducible first | exact HI0.out | apply IsS92.alloc | apply IsS92.drewN | apply IsS92.drew | apply IsS92.set_1 | refine IsS92.far ?_ NB0_321.out _) | exact HI0.out)) (by (with_reducible repeat (first | apply Kd.R_alloc | apply Kd.R_drewN | apply Kd.R_drew)); exact HO_7.out) (by decide)) hk (fun _ h => h.2)) (fun _ h => h.1)); have n1_ := Aside0.mk (KeepBut.blk hk (g' := gb321) (o := .cells #[.int .i64 a1_0, .int .i64 a1_1] 41 (0, 0)) (by (with_reducible repeat (first | refine blk_drewN ?_ _ | refine blk_drew ?_ | refine blk_alloc ?_ _)); exact BK321.out) NB321_0.out (by simp)); have n2_ := Aside0.mk (Kd.R_mono (Kd.R_keep (IsS92.apart (show IsS92 w0 _ g s0_0 t328 from by repeat (first | (with_reducible first | exact HI0.out | apply IsS92.alloc | apply IsS92.drewN | apply IsS92.drew | apply IsS92.set_1 | refine IsS92.far ?_ NB0_321.out _) | exact HI0.out)) (by (with_reducible repeat (first | apply Kd.R_alloc | apply Kd.R_drewN | apply Kd.R_drew)); exact HO331.out) (by decide)) hk (fun _ h => h.2)) (fun _ h => h.1)); have n3_ := Aside0.mk (KeepBut.trans (by repeat (first | (with_reducible first | exact HK.out | apply KeepBut.set_ | apply keep_drewN | apply keep_drew | apply keep_alloc | refine keep_far ?_ GW321.out _) | exact HK.out)) hk (.inl rfl)); have n4_ := Aside0.mk (hb); have n5_ := Aside0.mk (hi); clear HO_7; clear BK321; clear HO331; clear HK; clear HB; clear HI0; have HO_7 := n0_; have BK321 := n1_; have HO331 := n2_; have HK := n3_; have HB := n4_; have HI0 := n5_; clear n0_ n1_ n2_ n3_ n4_ n5_; (try clear hb); (try clear hb2); (try clear hk); (try clear hi); obtain ⟨Ao27, co27, eo27⟩ := Kd.R_slice HO331.out; subst eo27; have p334 : 0 ≤ (t332 : Int) := of_decide_eq_true (by first | (with_reducible assumption) | assumption); have q334 : t332 < (y329.length : Int) := of_decide_eq_true (by first | (with_reducible assumption) | assumption); obtain ⟨ad334, e334, hx334_0⟩ := Kd.at_int (Kd.R_reads' HO331.out).2.2 t332 p334 q334; cases e334; replace p334 := eq_true p334; replace q334 := eq_true q334) | ((with_reducible refine gate_builtin (b := .append) (xs := #[.tmp 43, .tmp 45]) rfl ?_); at_builtin; refine Kd.R_append (Kd.int .i64) w.heap.size rfl (.tmp 43) (.tmp 45) 39 3 (.int .i64 0) 8 rfl Try.underlying39 info3 rfl (by decide) (by omega) u7 x7_1 (rd y329 t332) [.int .i64 (rd y329 t332)] (fun k_ => some k_ ≠ (.slice (some ad334) y329.length co27 : Value).ownBlock) (fun _ => False) rfl rfl ?aP (fun _ hk => hk.elim) ?aF ?aO (Below.refl _ _) ?aS ?aL ?_; (case aP => exact rfl); (case aF => exact (fun k_ hk => Kd.fresh' (Kd.R_lt (by (with_reducible repeat (first | apply Kd.R_alloc | apply Kd.R_drewN | apply Kd.R_drew)); exact HO331.out)) k_ hk)); (case aO => exact (by (with_reducible repeat (first | apply Kd.R_alloc | apply Kd.R_drewN | apply Kd.R_drew)); exact Kd.R_mono HO_7.out (fun _ hk => hk.2))); (case aS => exact (keep_size (w := w) (g := g) (row := none) (by repeat (first | (with_reducible first | exact HK.out | apply KeepBut.set_ | apply keep_drewN | apply keep_drew | apply keep_alloc | refine keep_far ?_ GW321.out _) | exact HK.out)))); (case aL => have := LMc19.out; omega); intro v336 w28 ho hb hg hat; rw [← Ny335.out] at ho; have n0_ := Aside0.mk (blk_grown (g := gb321) (o := .cells #[.int .i64 a1_0, .int .i64 a1_1] 41 (0, 0)) (by (with_reducible repeat (first | refine blk_drewN ?_ _ | refine blk_drew ?_ | refine blk_alloc ?_ _)); exact BK321.out) hg (Kd.R_ne HO_7.out BK321.out (by decide))); have n1_ := Aside0.mk (IsS92.grown (by repeat (first | (with_reducible first | exact HI0.out | apply IsS92.alloc | apply IsS92.drewN | apply IsS92.drew | apply IsS92.set_1 | refine IsS92.far ?_ NB0_321.out _) | exact HI0.out)) hg (IsS92.own_ne HI0.out HO_7.out (by decide))); have n2_ := Aside0.mk (Kd.R_after (ok := (fun _ => True)) (by (with_reducible repeat (first | apply Kd.R_alloc | apply Kd.R_drewN | apply Kd.R_drew)); exact HO331.out) hg hat); have n3_ := Aside0.mk (below_weaken (by repeat (first | (with_reducible first | exact HB.out | apply below_alloc | apply pw_below_drewN | apply below_drew1 | refine below_set ?_ (IsS92.ge HI0.out) | refine below_set ?_ GE321.out) | exact HB.out)) HL.out hb); have n4_ := Aside0.mk (KeepBut.trans (by repeat (first | (with_reducible first | exact HK.out | apply KeepBut.set_ | apply keep_drewN | apply keep_drew | apply keep_alloc | refine keep_far ?_ GW321.out _) | exact HK.out)) (KeepBut.of_grown hg g) (Kd.R_base2 HO_7.out)); have n5_ := Aside0.mk (ho); clear BK321; clear HI0; clear HO331; clear HB; clear HK; clear HO_7; have BK321 := n0_; have HI0 := n1_; have HO331 := n2_; have HB := n3_; have HK := n4_; have HO337 := n5_; clear n0_ n1_ n2_ n3_ n4_ n5_; clear ho hb hg hat; have hcz29_0 : w28.cell? ⟨gb321, 0, none⟩ = some (.int .i64 a1_0) := (blk_cell BK321.out 0).trans rfl; have hcz29_1 : w28.cell? ⟨gb321, 1, none⟩ = some (.int .i64 a1_1) := (blk_cell BK321.out 1).trans rfl; have hfz29_0 := blk_frozen BK321.out 0; have hfz29_1 := blk_frozen BK321.out 1))
              go_roundg k1
              case measure => have := HK1.out; omega
              case rel => exact ⟨(y335), (ji20), (wrap64 (x9_1 - 1)), (t333), (by first | rfl | (simp; done) | (simp only [← hji20] <;> (first | rfl | simp)) | (simp [*]; done)), (by first | rfl | (simp; done) | (simp [*]; done)), H', ⟨by have := HK1.out; omega⟩, ⟨by (with_reducible repeat (first | apply Kd.R_alloc | apply Kd.R_drewN | apply Kd.R_drew)); exact Kd.R_mono HO337.out (fun _ hk => trivial)⟩, ⟨by (with_reducible repeat (first | refine blk_drewN ?_ _ | refine blk_drew ?_ | refine blk_alloc ?_ _)); exact BK321.out⟩, ⟨by repeat (first | (with_reducible first | exact HI0.out | apply IsS92.alloc | apply IsS92.drewN | apply IsS92.drew | apply IsS92.set_1 | refine IsS92.far ?_ NB0_321.out _) | exact HI0.out)⟩, ⟨by repeat (first | (with_reducible first | exact HK.out | apply KeepBut.set_ | apply keep_drewN | apply keep_drew | apply keep_alloc | refine keep_far ?_ GW321.out _) | exact HK.out)⟩, ⟨by repeat (first | (with_reducible first | exact HB.out | apply below_alloc | apply pw_below_drewN | apply below_drew1 | refine below_set ?_ (IsS92.ge HI0.out) | refine below_set ?_ GE321.out) | exact HB.out)⟩⟩
            · rw [if_neg c19] at H
              exact absurd H (by simp)
          · rw [if_neg c18] at H
            exact absurd H (by simp)
        · rw [if_neg c17] at H
          exact absurd H (by simp)
      · rw [if_neg c11] at H
        have c11b0 : decide (0 < x9_1) = false := decide_eq_false c11
        clear c11
        replace H := Option.bind_eq_some_iff.mp H
        obtain ⟨⟨t338, t339⟩, A300, H⟩ := H
        replace H : (if t338 = true then ((spec_l20Rd_pick.f k1 s0_0 t339 (x7_1.length : Int)).bind fun bt340 => ((some (([(-1), 1001, wrap64 ((wrap64 (a1_0 + a1_1)) + 1)] : List Int) : List Int)).bind fun y342 => ((spec_l20Rd_pick.f k1 s0_0 bt340.2 3).bind fun bt345 => (if 0 ≤ bt345.1 then (if bt345.1 < (y342.length : Int) then (if 0 ≤ bt340.1 then (if bt340.1 < (x7_1.length : Int) then (some ((x7_1.set (bt340.1 : Int).toNat (rd y342 bt345.1)), bt345.2)) else (none)) else (none)) else (none)) else (none))))) else (some (x7_1, t339))) = some (r1, r2) := H
        have A30 := Aside0.mk A300
        clear A300
        by_cases c31 : t338 = true
        · subst c31
          have H1 : ((spec_l20Rd_pick.f k1 s0_0 t339 (x7_1.length : Int)).bind fun bt340 => ((some (([(-1), 1001, wrap64 ((wrap64 (a1_0 + a1_1)) + 1)] : List Int) : List Int)).bind fun y342 => ((spec_l20Rd_pick.f k1 s0_0 bt340.2 3).bind fun bt345 => (if 0 ≤ bt345.1 then (if bt345.1 < (y342.length : Int) then (if 0 ≤ bt340.1 then (if bt340.1 < (x7_1.length : Int) then (some ((x7_1.set (bt340.1 : Int).toNat (rd y342 bt345.1)), bt345.2)) else (none)) else (none)) else (none)) else (none))))) = some (r1, r2) := by rw [if_pos rfl] at H; exact H
          clear H
          have H := H1
          clear H1
          replace H := Option.bind_eq_some_iff.mp H
          obtain ⟨⟨t340, t341⟩, A320, H⟩ := H
          replace H : ((some (([(-1), 1001, wrap64 ((wrap64 (a1_0 + a1_1)) + 1)] : List Int) : List Int)).bind fun y342 => ((spec_l20Rd_pick.f k1 s0_0 t341 3).bind fun bt345 => (if 0 ≤ bt345.1 then (if bt345.1 < (y342.length : Int) then (if 0 ≤ t340 then (if t340 < (x7_1.length : Int) then (some ((x7_1.set (t340 : Int).toNat (rd y342 bt345.1)), bt345.2)) else (none)) else (none)) else (none)) else (none)))) = some (r1, r2) := H
          have A32 := Aside0.mk A320
          clear A320
          obtain ⟨y342, hy342⟩ : ∃ y_ : List Int, y_ = (([(-1), 1001, wrap64 ((wrap64 (a1_0 + a1_1)) + 1)] : List Int)) := ⟨_, rfl⟩
          replace H : ((spec_l20Rd_pick.f k1 s0_0 t341 3).bind fun bt345 => (if 0 ≤ bt345.1 then (if bt345.1 < (y342.length : Int) then (if 0 ≤ t340 then (if t340 < (x7_1.length : Int) then (some ((x7_1.set (t340 : Int).toNat (rd y342 bt345.1)), bt345.2)) else (none)) else (none)) else (none)) else (none))) = some (r1, r2) := by first | (rw [hy342]; with_reducible exact H) | (have H2_ := (Option.bind_some _ _).symm.trans H; rw [hy342]; with_reducible exact H2_) | (have H2_ := (Option.bind_some _ _).symm.trans H; with_reducible exact H2_) | with_reducible exact H | (rw [hy342]; exact H) | exact H
          have Ny342 := Aside0.mk hy342
          clear hy342
          replace H := Option.bind_eq_some_iff.mp H
          obtain ⟨⟨t345, t346⟩, A330, H⟩ := H
          replace H : (if 0 ≤ t345 then (if t345 < (y342.length : Int) then (if 0 ≤ t340 then (if t340 < (x7_1.length : Int) then (some ((x7_1.set (t340 : Int).toNat (rd y342 t345)), t346)) else (none)) else (none)) else (none)) else (none)) = some (r1, r2) := H
          have A33 := Aside0.mk A330
          clear A330
          by_cases c34 : 0 ≤ t345
          · rw [if_pos c34] at H
            have c34b0 : decide (0 ≤ t345) = true := decide_eq_true c34
            clear c34
            by_cases c35 : t345 < (y342.length : Int)
            · rw [if_pos c35] at H
              have c35b0 : decide (t345 < (y342.length : Int)) = true := decide_eq_true c35
              clear c35
              by_cases c36 : 0 ≤ t340
              · rw [if_pos c36] at H
                have c36b0 : decide (0 ≤ t340) = true := decide_eq_true c36
                clear c36
                by_cases c37 : t340 < (x7_1.length : Int)
                · rw [if_pos c37] at H
                  have c37b0 : decide (t340 < (x7_1.length : Int)) = true := decide_eq_true c37
                  clear c37
                  obtain ⟨y348, hy348⟩ : ∃ y_ : List Int, y_ = (x7_1.set (t340 : Int).toNat (rd y342 t345)) := ⟨_, rfl⟩
                  replace H : (some (y348, t346)) = some (r1, r2) := by first | (rw [hy348]; with_reducible exact H) | (have H2_ := (Option.bind_some _ _).symm.trans H; rw [hy348]; with_reducible exact H2_) | (have H2_ := (Option.bind_some _ _).symm.trans H; with_reducible exact H2_) | with_reducible exact H | (rw [hy348]; exact H) | exact H
                  have Ny348 := Aside0.mk hy348
                  clear hy348
                  simp only [Option.some.injEq, Prod.mk.injEq] at H
                  obtain ⟨rfl, rfl⟩ := H
                  try go_wp2_with (first | ((with_reducible refine gate_callee (f := 84) rfl ?_); refine goesL_ (some 55) rfl rfl Try.func84 (by kernel_rfl) rfl #[.pointer (some ⟨g, 0, none⟩), .int .i64 a2] rfl (by (try simp only [List.map_toArray, List.map_cons, List.map_nil]); first | done | rfl | (simp only [List.length_drop, List.length_take]; rfl)) ?_; (with_reducible refine (spec_l20Rd_odd.calls k1 g s0_0 x1001_1 a2 true t339 w0 _ ?side1 ?side2 A30.out).mono ?_); (case side1 => repeat (first | (with_reducible first | exact HI0.out | apply IsS92.alloc | apply IsS92.drewN | apply IsS92.drew | apply IsS92.set_1 | refine IsS92.far ?_ NB0_321.out _) | exact HI0.out)); (case side2 => repeat (first | (with_reducible first | exact HB.out | apply below_alloc | apply pw_below_drewN | apply below_drew1 | refine below_set ?_ (IsS92.ge HI0.out) | refine below_set ?_ GE321.out) | exact HB.out)); rintro e w39 ⟨rfl, hi, hb, hk⟩; refine ⟨_, rfl, ?_⟩; have n0_ := Aside0.mk (Kd.R_mono (Kd.R_keep (IsS92.apart (show IsS92 w0 _ g s0_0 x1001_1 from by repeat (first | (with_reducible first | exact HI0.out | apply IsS92.alloc | apply IsS92.drewN | apply IsS92.drew | apply IsS92.set_1 | refine IsS92.far ?_ NB0_321.out _) | exact HI0.out)) (by (with_reducible repeat (first | apply Kd.R_alloc | apply Kd.R_drewN | apply Kd.R_drew)); exact HO_7.out) (by decide)) hk (fun _ h => h.2)) (fun _ h => h.1)); have n1_ := Aside0.mk (KeepBut.blk hk (g' := gb321) (o := .cells #[.int .i64 a1_0, .int .i64 a1_1] 41 (0, 0)) (by (with_reducible repeat (first | refine blk_drewN ?_ _ | refine blk_drew ?_ | refine blk_alloc ?_ _)); exact BK321.out) NB321_0.out (by simp)); have n2_ := Aside0.mk (KeepBut.trans (by repeat (first | (with_reducible first | exact HK.out | apply KeepBut.set_ | apply keep_drewN | apply keep_drew | apply keep_alloc | refine keep_far ?_ GW321.out _) | exact HK.out)) hk (.inl rfl)); have n3_ := Aside0.mk (hb); have n4_ := Aside0.mk (hi); clear HO_7; clear BK321; clear HK; clear HB; clear HI0; have HO_7 := n0_; have BK321 := n1_; have HK := n2_; have HB := n3_; have HI0 := n4_; clear n0_ n1_ n2_ n3_ n4_; (try clear hb); (try clear hb2); (try clear hk); (try clear hi)))
                  have pi347 : (0 ≤ (t345 : Int)) = True := eq_true (of_decide_eq_true (by first | (with_reducible assumption) | assumption))
                  have qi347 : (t345 < (y342.length : Int)) = True := eq_true (of_decide_eq_true (by first | (with_reducible assumption) | assumption))
                  have n0_ := Aside0.mk (Kd.R_drew HO_7.out)
                  have n1_ := Aside0.mk (blk_drew BK321.out)
                  have n2_ := Aside0.mk (IsS92.drew HI0.out)
                  have n3_ := Aside0.mk (keep_drew HK.out)
                  have n4_ := Aside0.mk (below_drew1 HB.out)
                  clear HO_7
                  clear BK321
                  clear HI0
                  clear HK
                  clear HB
                  have HO_7 := n0_
                  have BK321 := n1_
                  have HI0 := n2_
                  have HK := n3_
                  have HB := n4_
                  clear n0_ n1_ n2_ n3_ n4_
                  obtain ⟨Ao41, co41, eo41⟩ := Kd.R_slice HO_7.out
                  (first | subst eo41 | (injection eo41 with f1_ f2_ f3_; have f4_ := f1_.symm; have f5_ := f3_.symm; clear f1_ f2_ f3_; subst f4_; subst f5_))
                  refine start_ (n := 18) (S := fun w' => w'.cell? ⟨gb321, 0, none⟩ = some (.int .i64 a1_0) ∧ w'.cell? ⟨gb321, 1, none⟩ = some (.int .i64 a1_1)) (ds := [17]) #[false, false, false, false, false, false, false, false, false, false, false, false, false, false, false, false, false, false] (by kernel_rfl) rfl rfl ⟨(blk_cell BK321.out 0).trans rfl, (blk_cell BK321.out 1).trans rfl⟩ (fun hHeld => ?_); refine with_tabW spec_l20Amounts.tab11 spec_l20Amounts.bits11 (fun HT_ HW_ => ?_)
                  generalize w39.drew = w40 at HO_7 BK321 HI0 HK HB hHeld ⊢
                  refine pure_ (i := 0) (N := some 56) (v := ?_) (a' := ?_) #[true, false, false, false, false, false, false, false, false, false, false, false, false, false, false, false, false, false] rfl rfl (any_of HT_.out (by kernel_rfl)) (fun _ _ _ h => h) (Or.inl ⟨by rfl, ?_⟩) ?_ ?_
                  rotate_left
                  · intro w'
                    go_simp
                    with_reducible rfl
                  rotate_left
                  · simp only [Act.put, List.setIfInBounds_toArray, List.set_cons_zero, List.set_cons_succ, i64_w, i32_w]
                    rfl
                  refine pure_ (i := 1) (N := some 57) (v := ?_) (a' := ?_) #[true, true, false, false, false, false, false, false, false, false, false, false, false, false, false, false, false, false] rfl rfl (any_of HT_.out (by kernel_rfl)) (fun _ _ _ h => h) (Or.inl ⟨by rfl, ?_⟩) ?_ ?_
                  rotate_left
                  · intro w'
                    go_simp
                    with_reducible rfl
                  rotate_left
                  · simp only [Act.put, List.setIfInBounds_toArray, List.set_cons_zero, List.set_cons_succ, i64_w, i32_w]
                    rfl
                  refine pure_ (i := 2) (N := some 58) (v := ?_) (a' := ?_) #[true, true, true, false, false, false, false, false, false, false, false, false, false, false, false, false, false, false] rfl rfl (any_of HT_.out (by kernel_rfl)) (fun _ _ _ h => h) (Or.inl ⟨by rfl, ?_⟩) ?_ ?_
                  rotate_left
                  · intro w'
                    go_simp
                    with_reducible rfl
                  rotate_left
                  · simp only [Act.put, List.setIfInBounds_toArray, List.set_cons_zero, List.set_cons_succ, i64_w, i32_w]
                    rfl
                  refine pure_ (i := 3) (N := some 59) (v := ?_) (a' := ?_) #[true, true, true, true, false, false, false, false, false, false, false, false, false, false, false, false, false, false] rfl rfl (any_of HT_.out (by kernel_rfl)) (fun _ _ _ h => h) (Or.inl ⟨by rfl, ?_⟩) ?_ ?_
                  rotate_left
                  · intro w'
                    go_simp
                    with_reducible rfl
                  rotate_left
                  · simp only [Act.put, List.setIfInBounds_toArray, List.set_cons_zero, List.set_cons_succ, i64_w, i32_w]
                    rfl
                  refine pure_ (i := 5) (N := some 61) (v := ?_) (a' := ?_) #[true, true, true, true, false, true, false, false, false, false, false, false, false, false, false, false, false, false] rfl rfl (any_of HT_.out (by kernel_rfl)) (fun _ _ _ h => h) (Or.inl ⟨by rfl, ?_⟩) ?_ ?_
                  rotate_left
                  · intro w'
                    go_simp
                    with_reducible rfl
                  rotate_left
                  · simp only [Act.put, List.setIfInBounds_toArray, List.set_cons_zero, List.set_cons_succ, i64_w, i32_w]
                    rfl
                  refine pure_ (i := 7) (N := some 63) (v := ?_) (a' := ?_) #[true, true, true, true, false, true, false, true, false, false, false, false, false, false, false, false, false, false] rfl rfl (any_of HT_.out (by kernel_rfl)) (fun _ _ _ h => h) (Or.inl ⟨by rfl, ?_⟩) ?_ ?_
                  rotate_left
                  · intro w'
                    go_simp
                    with_reducible rfl
                  rotate_left
                  · simp only [Act.put, List.setIfInBounds_toArray, List.set_cons_zero, List.set_cons_succ, i64_w, i32_w]
                    rfl
                  refine pure_ (i := 12) (N := some 68) (v := ?_) (a' := ?_) #[true, true, true, true, false, true, false, true, false, false, false, false, true, false, false, false, false, false] rfl rfl (any_of HT_.out (by kernel_rfl)) (fun _ _ _ h => h) (Or.inl ⟨by rfl, ?_⟩) ?_ ?_
                  rotate_left
                  · intro w'
                    go_simp
                    with_reducible rfl
                  rotate_left
                  · simp only [Act.put, List.setIfInBounds_toArray, List.set_cons_zero, List.set_cons_succ, i64_w, i32_w]
                    rfl
                  refine take_ (i := 6) (N := some 62) (v := ?_) (a' := ?_) #[true, true, true, true, false, true, true, true, false, false, false, false, true, false, false, false, false, false] rfl rfl (take_ofW HT_.out HW_.out (by kernel_rfl)) (fun _ _ _ h => h) (Or.inl ⟨by rfl, ?_⟩) hHeld ?_ ?_
                  rotate_left
                  · rintro w' ⟨s0, s1⟩
                    go_simp
                    with_reducible rfl
                  rotate_left
                  · simp only [Act.put, List.setIfInBounds_toArray, List.set_cons_zero, List.set_cons_succ, i64_w, i32_w]
                    rfl
                  refine take_ (i := 8) (N := some 64) (v := ?_) (a' := ?_) #[true, true, true, true, false, true, true, true, true, false, false, false, true, false, false, false, false, false] rfl rfl (take_ofW HT_.out HW_.out (by kernel_rfl)) (fun _ _ _ h => h) (Or.inl ⟨by rfl, ?_⟩) hHeld ?_ ?_
                  rotate_left
                  · rintro w' ⟨s0, s1⟩
                    go_simp
                    with_reducible rfl
                  rotate_left
                  · simp only [Act.put, List.setIfInBounds_toArray, List.set_cons_zero, List.set_cons_succ, i64_w, i32_w]
                    rfl
                  refine pure_ (i := 9) (N := some 65) (v := ?_) (a' := ?_) #[true, true, true, true, false, true, true, true, true, true, false, false, true, false, false, false, false, false] rfl rfl (any_of HT_.out (by kernel_rfl)) (fun _ _ _ h => h) (Or.inl ⟨by rfl, ?_⟩) ?_ ?_
                  rotate_left
                  · intro w'
                    go_simp
                    with_reducible rfl
                  rotate_left
                  · simp only [Act.put, List.setIfInBounds_toArray, List.set_cons_zero, List.set_cons_succ, i64_w, i32_w]
                    rfl
                  refine pure_ (i := 10) (N := some 66) (v := ?_) (a' := ?_) #[true, true, true, true, false, true, true, true, true, true, true, false, true, false, false, false, false, false] rfl rfl (any_of HT_.out (by kernel_rfl)) (fun _ _ _ h => h) (Or.inl ⟨by rfl, ?_⟩) ?_ ?_
                  rotate_left
                  · intro w'
                    go_simp
                    with_reducible rfl
                  rotate_left
                  · simp only [Act.put, List.setIfInBounds_toArray, List.set_cons_zero, List.set_cons_succ, i64_w, i32_w]
                    rfl
                  refine join_ (σ := Value × Addr) 4 #[true, true, true, true, true, true, true, true, true, true, true, true, true, true, false, false, false, false] (fun s_ => [(60, .int .i64 t340), (67, s_.1), (69, .int .i64 t345)]) (fun s_ w' => (w'.cell? ⟨gb321, 0, none⟩ = some (.int .i64 a1_0) ∧ w'.cell? ⟨gb321, 1, none⟩ = some (.int .i64 a1_1)) ∧ (Kd.R (Kd.int .i64) 3 w' w.heap.size (fun k_ => some k_ ≠ (.slice Ao41 x7_1.length co41 : Value).ownBlock) s_.1 y342) ∧ (Kd.R (Kd.int .i64) 3 w' w.heap.size (fun k_ => some k_ ≠ (s_.1 : Value).ownBlock) (.slice Ao41 x7_1.length co41) x7_1) ∧ (∃ c_, (s_.1 : Value) = .slice (some s_.2) y342.length c_) ∧ (w'.heap[gb321]? = some (.cells #[.int .i64 a1_0, .int .i64 a1_1] 41 (0, 0))) ∧ (IsS92 w0 w' g s0_0 t346) ∧ (KeepBut w w' g none) ∧ (Below w0.heap.size w0 w')) ?_ ?_
                  rotate_left
                  · intro hCont
                    refine two_ (i := 4) (j := 11) (Ni := some 60) (Nj := some 67) #[true, true, true, true, true, true, true, true, true, true, true, false, true, false, false, false, false, false] #[true, true, true, true, false, true, true, true, true, true, true, true, true, false, false, false, false, false] rfl rfl rfl rfl (two_of HT_.out (by kernel_rfl)) (by decide) (by decide) (fun K hK => ?_) (fun K hK => ?_)
                    · skip
                      refine goes_ Try.func60 (by kernel_rfl) rfl #[.pointer (some ⟨g, 0, none⟩), .int .i64 (x7_1.length : Int)] (by rfl) rfl rfl (by (try simp only [List.map_toArray, List.map_cons, List.map_nil]); first | done | rfl | (simp only [List.length_drop, List.length_take]; rfl)) ?_
                      with_reducible refine (spec_l20Rd_pick.calls k1 g s0_0 t339 (x7_1.length : Int) t340 t341 w0 _ ?side1 ?side2 A32.out).mono ?_
                      (case side1 => repeat (first | (with_reducible first | exact HI0.out | apply IsS92.alloc | apply IsS92.drewN | apply IsS92.drew | apply IsS92.set_1 | refine IsS92.far ?_ NB0_321.out _) | exact HI0.out))
                      (case side2 => repeat (first | (with_reducible first | exact HB.out | apply below_alloc | apply pw_below_drewN | apply below_drew1 | refine below_set ?_ (IsS92.ge HI0.out) | refine below_set ?_ GE321.out) | exact HB.out))
                      rintro e w42 ⟨rfl, hi, hb, hk⟩
                      refine ⟨_, rfl, ?_⟩
                      have n0_ := Aside0.mk (Kd.R_mono (Kd.R_keep (IsS92.apart (show IsS92 w0 _ g s0_0 t339 from by repeat (first | (with_reducible first | exact HI0.out | apply IsS92.alloc | apply IsS92.drewN | apply IsS92.drew | apply IsS92.set_1 | refine IsS92.far ?_ NB0_321.out _) | exact HI0.out)) (by (with_reducible repeat (first | apply Kd.R_alloc | apply Kd.R_drewN | apply Kd.R_drew)); exact HO_7.out) (by decide)) hk (fun _ h => h.2)) (fun _ h => h.1))
                      have n1_ := Aside0.mk (KeepBut.blk hk (g' := gb321) (o := .cells #[.int .i64 a1_0, .int .i64 a1_1] 41 (0, 0)) (by (with_reducible repeat (first | refine blk_drewN ?_ _ | refine blk_drew ?_ | refine blk_alloc ?_ _)); exact BK321.out) NB321_0.out (by simp))
                      have n2_ := Aside0.mk (KeepBut.trans (by repeat (first | (with_reducible first | exact HK.out | apply KeepBut.set_ | apply keep_drewN | apply keep_drew | apply keep_alloc | refine keep_far ?_ GW321.out _) | exact HK.out)) hk (.inl rfl))
                      have n3_ := Aside0.mk (hb)
                      have n4_ := Aside0.mk (hi)
                      clear HO_7
                      clear BK321
                      clear HK
                      clear HB
                      clear HI0
                      have HO_7 := n0_
                      have BK321 := n1_
                      have HK := n2_
                      have HB := n3_
                      have HI0 := n4_
                      clear n0_ n1_ n2_ n3_ n4_
                      (try clear hb)
                      (try clear hb2)
                      (try clear hk)
                      (try clear hi)
                      refine hK.out _ _ ⟨(blk_cell BK321.out 0).trans rfl, (blk_cell BK321.out 1).trans rfl⟩ (fun hHeld => ?_)
                      clear hK K
                      refine norm_ (a' := ?_) ?_ ?_
                      rotate_left
                      · show Act.put _ (some 60) _ = _
                        simp only [Act.put, List.setIfInBounds_toArray, List.set_cons_zero, List.set_cons_succ, i64_w, i32_w]
                        rfl
                      refine two_ (i := 11) (j := 13) (Ni := some 67) (Nj := some 69) #[true, true, true, true, true, true, true, true, true, true, true, true, true, false, false, false, false, false] #[true, true, true, true, true, true, true, true, true, true, true, false, true, true, false, false, false, false] rfl rfl rfl rfl (two_of HT_.out (by kernel_rfl)) (by decide) (by decide) (fun K hK => ?_) (fun K hK => ?_)
                      · skip
                        refine Kd.R_lit_step (Kd.int .i64) _ 3 ?hg (N := 67) ?hd (xs := ([(-1), 1001, wrap64 ((wrap64 (a1_0 + a1_1)) + 1)] : List Int)) (inner := [.int .i64 (-1), .int .i64 1001, .int .i64 (wrap64 ((wrap64 (a1_0 + a1_1)) + 1))]) (ok := fun _ => True) (okp := fun _ => True) ?hr ?hp (fun _ hk => hk) trivial (Below.refl _ _) (Nat.le_refl _) (by simp) ?_; (case hd => rfl); (case hg => rfl); (case hr => first | (go_simp; done) | (go_simp; rfl)); (case hp => exact (Reps.one (show Kd.M (Kd.int .i64) _ _ _ (-1) [.int .i64 (-1)] from rfl) (Reps.one (show Kd.M (Kd.int .i64) _ _ _ 1001 [.int .i64 1001] from rfl) (Reps.one (show Kd.M (Kd.int .i64) _ _ _ (wrap64 ((wrap64 (a1_0 + a1_1)) + 1)) [.int .i64 (wrap64 ((wrap64 (a1_0 + a1_1)) + 1))] from rfl) (Reps.none _ _)))))
                        intro v343 w43 ho44 hb hg_ hnew_
                        clear hg_ hnew_
                        (first | rw [← Ny342.out] at ho44 | (simp only [Int.reduceToNat] at ho44; rw [← Ny342.out] at ho44))
                        have n0_ := Aside0.mk (Kd.R_elder' (by (with_reducible repeat (first | apply Kd.R_alloc | apply Kd.R_drewN | apply Kd.R_drew)); exact HO_7.out) (Kd.R_base ho44) hb)
                        have n1_ := Aside0.mk (Kd.R_lower (Kd.R_new' ho44 (Kd.R_lt (by (with_reducible repeat (first | apply Kd.R_alloc | apply Kd.R_drewN | apply Kd.R_drew)); exact HO_7.out))) (keep_size (w := w) (g := g) (row := none) (by repeat (first | (with_reducible first | exact HK.out | apply KeepBut.set_ | apply keep_drewN | apply keep_drew | apply keep_alloc | refine keep_far ?_ GW321.out _) | exact HK.out))))
                        have n2_ := Aside0.mk (blk_below (g := gb321) (o := .cells #[.int .i64 a1_0, .int .i64 a1_1] 41 (0, 0)) (by (with_reducible repeat (first | refine blk_drewN ?_ _ | refine blk_drew ?_ | refine blk_alloc ?_ _)); exact BK321.out) hb)
                        have n3_ := Aside0.mk (IsS92.below (by repeat (first | (with_reducible first | exact HI0.out | apply IsS92.alloc | apply IsS92.drewN | apply IsS92.drew | apply IsS92.set_1 | refine IsS92.far ?_ NB0_321.out _) | exact HI0.out)) hb)
                        have n4_ := Aside0.mk (KeepBut.trans (by repeat (first | (with_reducible first | exact HK.out | apply KeepBut.set_ | apply keep_drewN | apply keep_drew | apply keep_alloc | refine keep_far ?_ GW321.out _) | exact HK.out)) (KeepBut.of_below hb g none) (.inl rfl))
                        have n5_ := Aside0.mk (below_step (by repeat (first | (with_reducible first | exact HB.out | apply below_alloc | apply pw_below_drewN | apply below_drew1 | refine below_set ?_ (IsS92.ge HI0.out) | refine below_set ?_ GE321.out) | exact HB.out)) hb)
                        clear HO_7
                        clear BK321
                        clear HI0
                        clear HK
                        clear HB
                        have HO_7 := n0_
                        have HO344 := n1_
                        have BK321 := n2_
                        have HI0 := n3_
                        have HK := n4_
                        have HB := n5_
                        clear n0_ n1_ n2_ n3_ n4_ n5_
                        clear hb ho44
                        obtain ⟨Ao45, co45, eo45⟩ := Kd.R_slice HO344.out
                        subst eo45
                        obtain ⟨ado45, fo45, _⟩ := Kd.at_int (Kd.R_reads' HO344.out).2.2 0 (by decide) (by rw [Ny342.out]; simp)
                        cases fo45
                        refine hK.out _ _ ⟨(blk_cell BK321.out 0).trans rfl, (blk_cell BK321.out 1).trans rfl⟩ (fun hHeld => ?_)
                        clear hK K
                        refine norm_ (a' := ?_) ?_ ?_
                        rotate_left
                        · show Act.put _ (some 67) _ = _
                          simp only [Act.put, List.setIfInBounds_toArray, List.set_cons_zero, List.set_cons_succ, i64_w, i32_w]
                          rfl
                        refine one_ (i := 13) (N := some 69) #[true, true, true, true, true, true, true, true, true, true, true, true, true, true, false, false, false, false] rfl rfl (one_of HT_.out (by kernel_rfl)) (by decide) (fun K hK => ?_)
                        refine goes_ Try.func60 (by kernel_rfl) rfl #[.pointer (some ⟨g, 0, none⟩), .int .i64 3] (by rfl) rfl rfl (by (try simp only [List.map_toArray, List.map_cons, List.map_nil]); first | done | rfl | (simp only [List.length_drop, List.length_take]; rfl)) ?_
                        with_reducible refine (spec_l20Rd_pick.calls k1 g s0_0 t341 3 t345 t346 w0 _ ?side1 ?side2 A33.out).mono ?_
                        (case side1 => repeat (first | (with_reducible first | exact HI0.out | apply IsS92.alloc | apply IsS92.drewN | apply IsS92.drew | apply IsS92.set_1 | refine IsS92.far ?_ NB0_321.out _) | exact HI0.out))
                        (case side2 => repeat (first | (with_reducible first | exact HB.out | apply below_alloc | apply pw_below_drewN | apply below_drew1 | refine below_set ?_ (IsS92.ge HI0.out) | refine below_set ?_ GE321.out) | exact HB.out))
                        rintro e w46 ⟨rfl, hi, hb, hk⟩
                        refine ⟨_, rfl, ?_⟩
                        have n0_ := Aside0.mk (Kd.R_mono (Kd.R_keep (IsS92.apart (show IsS92 w0 _ g s0_0 t341 from by repeat (first | (with_reducible first | exact HI0.out | apply IsS92.alloc | apply IsS92.drewN | apply IsS92.drew | apply IsS92.set_1 | refine IsS92.far ?_ NB0_321.out _) | exact HI0.out)) (by (with_reducible repeat (first | apply Kd.R_alloc | apply Kd.R_drewN | apply Kd.R_drew)); exact HO_7.out) (by decide)) hk (fun _ h => h.2)) (fun _ h => h.1))
                        have n1_ := Aside0.mk (KeepBut.blk hk (g' := gb321) (o := .cells #[.int .i64 a1_0, .int .i64 a1_1] 41 (0, 0)) (by (with_reducible repeat (first | refine blk_drewN ?_ _ | refine blk_drew ?_ | refine blk_alloc ?_ _)); exact BK321.out) NB321_0.out (by simp))
                        have n2_ := Aside0.mk (Kd.R_mono (Kd.R_keep (IsS92.apart (show IsS92 w0 _ g s0_0 t341 from by repeat (first | (with_reducible first | exact HI0.out | apply IsS92.alloc | apply IsS92.drewN | apply IsS92.drew | apply IsS92.set_1 | refine IsS92.far ?_ NB0_321.out _) | exact HI0.out)) (by (with_reducible repeat (first | apply Kd.R_alloc | apply Kd.R_drewN | apply Kd.R_drew)); exact HO344.out) (by decide)) hk (fun _ h => h.2)) (fun _ h => h.1))
                        have n3_ := Aside0.mk (KeepBut.trans (by repeat (first | (with_reducible first | exact HK.out | apply KeepBut.set_ | apply keep_drewN | apply keep_drew | apply keep_alloc | refine keep_far ?_ GW321.out _) | exact HK.out)) hk (.inl rfl))
                        have n4_ := Aside0.mk (hb)
                        have n5_ := Aside0.mk (hi)
                        clear HO_7
                        clear BK321
                        clear HO344
                        clear HK
                        clear HB
                        clear HI0
                        have HO_7 := n0_
                        have BK321 := n1_
                        have HO344 := n2_
                        have HK := n3_
                        have HB := n4_
                        have HI0 := n5_
                        clear n0_ n1_ n2_ n3_ n4_ n5_
                        (try clear hb)
                        (try clear hb2)
                        (try clear hk)
                        (try clear hi)
                        refine hK.out _ _ ⟨(blk_cell BK321.out 0).trans rfl, (blk_cell BK321.out 1).trans rfl⟩ (fun hHeld => ?_)
                        clear hK K
                        refine norm_ (a' := ?_) ?_ ?_
                        rotate_left
                        · show Act.put _ (some 69) _ = _
                          simp only [Act.put, List.setIfInBounds_toArray, List.set_cons_zero, List.set_cons_succ, i64_w, i32_w]
                          rfl
                        exact norm_ (by simp only [putAll, Act.put, List.setIfInBounds_toArray, List.set_cons_zero, List.set_cons_succ]) (hCont (.slice (some ado45) y342.length co45, ado45) _ ⟨hHeld, (by (with_reducible repeat (first | apply Kd.R_alloc | apply Kd.R_drewN | apply Kd.R_drew)); exact Kd.R_mono HO344.out (fun _ hk => hk.2)), (by (with_reducible repeat (first | apply Kd.R_alloc | apply Kd.R_drewN | apply Kd.R_drew)); exact Kd.R_mono HO_7.out (fun _ hk => hk.2)), ⟨_, rfl⟩, (by (with_reducible repeat (first | refine blk_drewN ?_ _ | refine blk_drew ?_ | refine blk_alloc ?_ _)); exact BK321.out), (by repeat (first | (with_reducible first | exact HI0.out | apply IsS92.alloc | apply IsS92.drewN | apply IsS92.drew | apply IsS92.set_1 | refine IsS92.far ?_ NB0_321.out _) | exact HI0.out)), (by repeat (first | (with_reducible first | exact HK.out | apply KeepBut.set_ | apply keep_drewN | apply keep_drew | apply keep_alloc | refine keep_far ?_ GW321.out _) | exact HK.out)), (by repeat (first | (with_reducible first | exact HB.out | apply below_alloc | apply pw_below_drewN | apply below_drew1 | refine below_set ?_ (IsS92.ge HI0.out) | refine below_set ?_ GE321.out) | exact HB.out))⟩)
                      · skip
                        refine goes_ Try.func60 (by kernel_rfl) rfl #[.pointer (some ⟨g, 0, none⟩), .int .i64 3] (by rfl) rfl rfl (by (try simp only [List.map_toArray, List.map_cons, List.map_nil]); first | done | rfl | (simp only [List.length_drop, List.length_take]; rfl)) ?_
                        with_reducible refine (spec_l20Rd_pick.calls k1 g s0_0 t341 3 t345 t346 w0 _ ?side1 ?side2 A33.out).mono ?_
                        (case side1 => repeat (first | (with_reducible first | exact HI0.out | apply IsS92.alloc | apply IsS92.drewN | apply IsS92.drew | apply IsS92.set_1 | refine IsS92.far ?_ NB0_321.out _) | exact HI0.out))
                        (case side2 => repeat (first | (with_reducible first | exact HB.out | apply below_alloc | apply pw_below_drewN | apply below_drew1 | refine below_set ?_ (IsS92.ge HI0.out) | refine below_set ?_ GE321.out) | exact HB.out))
                        rintro e w43 ⟨rfl, hi, hb, hk⟩
                        refine ⟨_, rfl, ?_⟩
                        have n0_ := Aside0.mk (Kd.R_mono (Kd.R_keep (IsS92.apart (show IsS92 w0 _ g s0_0 t341 from by repeat (first | (with_reducible first | exact HI0.out | apply IsS92.alloc | apply IsS92.drewN | apply IsS92.drew | apply IsS92.set_1 | refine IsS92.far ?_ NB0_321.out _) | exact HI0.out)) (by (with_reducible repeat (first | apply Kd.R_alloc | apply Kd.R_drewN | apply Kd.R_drew)); exact HO_7.out) (by decide)) hk (fun _ h => h.2)) (fun _ h => h.1))
                        have n1_ := Aside0.mk (KeepBut.blk hk (g' := gb321) (o := .cells #[.int .i64 a1_0, .int .i64 a1_1] 41 (0, 0)) (by (with_reducible repeat (first | refine blk_drewN ?_ _ | refine blk_drew ?_ | refine blk_alloc ?_ _)); exact BK321.out) NB321_0.out (by simp))
                        have n2_ := Aside0.mk (KeepBut.trans (by repeat (first | (with_reducible first | exact HK.out | apply KeepBut.set_ | apply keep_drewN | apply keep_drew | apply keep_alloc | refine keep_far ?_ GW321.out _) | exact HK.out)) hk (.inl rfl))
                        have n3_ := Aside0.mk (hb)
                        have n4_ := Aside0.mk (hi)
                        clear HO_7
                        clear BK321
                        clear HK
                        clear HB
                        clear HI0
                        have HO_7 := n0_
                        have BK321 := n1_
                        have HK := n2_
                        have HB := n3_
                        have HI0 := n4_
                        clear n0_ n1_ n2_ n3_ n4_
                        (try clear hb)
                        (try clear hb2)
                        (try clear hk)
                        (try clear hi)
                        refine hK.out _ _ ⟨(blk_cell BK321.out 0).trans rfl, (blk_cell BK321.out 1).trans rfl⟩ (fun hHeld => ?_)
                        clear hK K
                        refine norm_ (a' := ?_) ?_ ?_
                        rotate_left
                        · show Act.put _ (some 69) _ = _
                          simp only [Act.put, List.setIfInBounds_toArray, List.set_cons_zero, List.set_cons_succ, i64_w, i32_w]
                          rfl
                        refine one_ (i := 11) (N := some 67) #[true, true, true, true, true, true, true, true, true, true, true, true, true, true, false, false, false, false] rfl rfl (one_of HT_.out (by kernel_rfl)) (by decide) (fun K hK => ?_)
                        refine Kd.R_lit_step (Kd.int .i64) _ 3 ?hg (N := 67) ?hd (xs := ([(-1), 1001, wrap64 ((wrap64 (a1_0 + a1_1)) + 1)] : List Int)) (inner := [.int .i64 (-1), .int .i64 1001, .int .i64 (wrap64 ((wrap64 (a1_0 + a1_1)) + 1))]) (ok := fun _ => True) (okp := fun _ => True) ?hr ?hp (fun _ hk => hk) trivial (Below.refl _ _) (Nat.le_refl _) (by simp) ?_; (case hd => rfl); (case hg => rfl); (case hr => first | (go_simp; done) | (go_simp; rfl)); (case hp => exact (Reps.one (show Kd.M (Kd.int .i64) _ _ _ (-1) [.int .i64 (-1)] from rfl) (Reps.one (show Kd.M (Kd.int .i64) _ _ _ 1001 [.int .i64 1001] from rfl) (Reps.one (show Kd.M (Kd.int .i64) _ _ _ (wrap64 ((wrap64 (a1_0 + a1_1)) + 1)) [.int .i64 (wrap64 ((wrap64 (a1_0 + a1_1)) + 1))] from rfl) (Reps.none _ _)))))
                        intro v343 w44 ho45 hb hg_ hnew_
                        clear hg_ hnew_
                        (first | rw [← Ny342.out] at ho45 | (simp only [Int.reduceToNat] at ho45; rw [← Ny342.out] at ho45))
                        have n0_ := Aside0.mk (Kd.R_elder' (by (with_reducible repeat (first | apply Kd.R_alloc | apply Kd.R_drewN | apply Kd.R_drew)); exact HO_7.out) (Kd.R_base ho45) hb)
                        have n1_ := Aside0.mk (Kd.R_lower (Kd.R_new' ho45 (Kd.R_lt (by (with_reducible repeat (first | apply Kd.R_alloc | apply Kd.R_drewN | apply Kd.R_drew)); exact HO_7.out))) (keep_size (w := w) (g := g) (row := none) (by repeat (first | (with_reducible first | exact HK.out | apply KeepBut.set_ | apply keep_drewN | apply keep_drew | apply keep_alloc | refine keep_far ?_ GW321.out _) | exact HK.out))))
                        have n2_ := Aside0.mk (blk_below (g := gb321) (o := .cells #[.int .i64 a1_0, .int .i64 a1_1] 41 (0, 0)) (by (with_reducible repeat (first | refine blk_drewN ?_ _ | refine blk_drew ?_ | refine blk_alloc ?_ _)); exact BK321.out) hb)
                        have n3_ := Aside0.mk (IsS92.below (by repeat (first | (with_reducible first | exact HI0.out | apply IsS92.alloc | apply IsS92.drewN | apply IsS92.drew | apply IsS92.set_1 | refine IsS92.far ?_ NB0_321.out _) | exact HI0.out)) hb)
                        have n4_ := Aside0.mk (KeepBut.trans (by repeat (first | (with_reducible first | exact HK.out | apply KeepBut.set_ | apply keep_drewN | apply keep_drew | apply keep_alloc | refine keep_far ?_ GW321.out _) | exact HK.out)) (KeepBut.of_below hb g none) (.inl rfl))
                        have n5_ := Aside0.mk (below_step (by repeat (first | (with_reducible first | exact HB.out | apply below_alloc | apply pw_below_drewN | apply below_drew1 | refine below_set ?_ (IsS92.ge HI0.out) | refine below_set ?_ GE321.out) | exact HB.out)) hb)
                        clear HO_7
                        clear BK321
                        clear HI0
                        clear HK
                        clear HB
                        have HO_7 := n0_
                        have HO344 := n1_
                        have BK321 := n2_
                        have HI0 := n3_
                        have HK := n4_
                        have HB := n5_
                        clear n0_ n1_ n2_ n3_ n4_ n5_
                        clear hb ho45
                        obtain ⟨Ao46, co46, eo46⟩ := Kd.R_slice HO344.out
                        subst eo46
                        obtain ⟨ado46, fo46, _⟩ := Kd.at_int (Kd.R_reads' HO344.out).2.2 0 (by decide) (by rw [Ny342.out]; simp)
                        cases fo46
                        refine hK.out _ _ ⟨(blk_cell BK321.out 0).trans rfl, (blk_cell BK321.out 1).trans rfl⟩ (fun hHeld => ?_)
                        clear hK K
                        refine norm_ (a' := ?_) ?_ ?_
                        rotate_left
                        · show Act.put _ (some 67) _ = _
                          simp only [Act.put, List.setIfInBounds_toArray, List.set_cons_zero, List.set_cons_succ, i64_w, i32_w]
                          rfl
                        exact norm_ (by simp only [putAll, Act.put, List.setIfInBounds_toArray, List.set_cons_zero, List.set_cons_succ]) (hCont (.slice (some ado46) y342.length co46, ado46) _ ⟨hHeld, (by (with_reducible repeat (first | apply Kd.R_alloc | apply Kd.R_drewN | apply Kd.R_drew)); exact Kd.R_mono HO344.out (fun _ hk => hk.2)), (by (with_reducible repeat (first | apply Kd.R_alloc | apply Kd.R_drewN | apply Kd.R_drew)); exact Kd.R_mono HO_7.out (fun _ hk => hk.2)), ⟨_, rfl⟩, (by (with_reducible repeat (first | refine blk_drewN ?_ _ | refine blk_drew ?_ | refine blk_alloc ?_ _)); exact BK321.out), (by repeat (first | (with_reducible first | exact HI0.out | apply IsS92.alloc | apply IsS92.drewN | apply IsS92.drew | apply IsS92.set_1 | refine IsS92.far ?_ NB0_321.out _) | exact HI0.out)), (by repeat (first | (with_reducible first | exact HK.out | apply KeepBut.set_ | apply keep_drewN | apply keep_drew | apply keep_alloc | refine keep_far ?_ GW321.out _) | exact HK.out)), (by repeat (first | (with_reducible first | exact HB.out | apply below_alloc | apply pw_below_drewN | apply below_drew1 | refine below_set ?_ (IsS92.ge HI0.out) | refine below_set ?_ GE321.out) | exact HB.out))⟩)
                    · skip
                      refine Kd.R_lit_step (Kd.int .i64) _ 3 ?hg (N := 67) ?hd (xs := ([(-1), 1001, wrap64 ((wrap64 (a1_0 + a1_1)) + 1)] : List Int)) (inner := [.int .i64 (-1), .int .i64 1001, .int .i64 (wrap64 ((wrap64 (a1_0 + a1_1)) + 1))]) (ok := fun _ => True) (okp := fun _ => True) ?hr ?hp (fun _ hk => hk) trivial (Below.refl _ _) (Nat.le_refl _) (by simp) ?_; (case hd => rfl); (case hg => rfl); (case hr => first | (go_simp; done) | (go_simp; rfl)); (case hp => exact (Reps.one (show Kd.M (Kd.int .i64) _ _ _ (-1) [.int .i64 (-1)] from rfl) (Reps.one (show Kd.M (Kd.int .i64) _ _ _ 1001 [.int .i64 1001] from rfl) (Reps.one (show Kd.M (Kd.int .i64) _ _ _ (wrap64 ((wrap64 (a1_0 + a1_1)) + 1)) [.int .i64 (wrap64 ((wrap64 (a1_0 + a1_1)) + 1))] from rfl) (Reps.none _ _)))))
                      intro v343 w42 ho43 hb hg_ hnew_
                      clear hg_ hnew_
                      (first | rw [← Ny342.out] at ho43 | (simp only [Int.reduceToNat] at ho43; rw [← Ny342.out] at ho43))
                      have n0_ := Aside0.mk (Kd.R_elder' (by (with_reducible repeat (first | apply Kd.R_alloc | apply Kd.R_drewN | apply Kd.R_drew)); exact HO_7.out) (Kd.R_base ho43) hb)
                      have n1_ := Aside0.mk (Kd.R_lower (Kd.R_new' ho43 (Kd.R_lt (by (with_reducible repeat (first | apply Kd.R_alloc | apply Kd.R_drewN | apply Kd.R_drew)); exact HO_7.out))) (keep_size (w := w) (g := g) (row := none) (by repeat (first | (with_reducible first | exact HK.out | apply KeepBut.set_ | apply keep_drewN | apply keep_drew | apply keep_alloc | refine keep_far ?_ GW321.out _) | exact HK.out))))
                      have n2_ := Aside0.mk (blk_below (g := gb321) (o := .cells #[.int .i64 a1_0, .int .i64 a1_1] 41 (0, 0)) (by (with_reducible repeat (first | refine blk_drewN ?_ _ | refine blk_drew ?_ | refine blk_alloc ?_ _)); exact BK321.out) hb)
                      have n3_ := Aside0.mk (IsS92.below (by repeat (first | (with_reducible first | exact HI0.out | apply IsS92.alloc | apply IsS92.drewN | apply IsS92.drew | apply IsS92.set_1 | refine IsS92.far ?_ NB0_321.out _) | exact HI0.out)) hb)
                      have n4_ := Aside0.mk (KeepBut.trans (by repeat (first | (with_reducible first | exact HK.out | apply KeepBut.set_ | apply keep_drewN | apply keep_drew | apply keep_alloc | refine keep_far ?_ GW321.out _) | exact HK.out)) (KeepBut.of_below hb g none) (.inl rfl))
                      have n5_ := Aside0.mk (below_step (by repeat (first | (with_reducible first | exact HB.out | apply below_alloc | apply pw_below_drewN | apply below_drew1 | refine below_set ?_ (IsS92.ge HI0.out) | refine below_set ?_ GE321.out) | exact HB.out)) hb)
                      clear HO_7
                      clear BK321
                      clear HI0
                      clear HK
                      clear HB
                      have HO_7 := n0_
                      have HO344 := n1_
                      have BK321 := n2_
                      have HI0 := n3_
                      have HK := n4_
                      have HB := n5_
                      clear n0_ n1_ n2_ n3_ n4_ n5_
                      clear hb ho43
                      obtain ⟨Ao44, co44, eo44⟩ := Kd.R_slice HO344.out
                      subst eo44
                      obtain ⟨ado44, fo44, _⟩ := Kd.at_int (Kd.R_reads' HO344.out).2.2 0 (by decide) (by rw [Ny342.out]; simp)
                      cases fo44
                      refine hK.out _ _ ⟨(blk_cell BK321.out 0).trans rfl, (blk_cell BK321.out 1).trans rfl⟩ (fun hHeld => ?_)
                      clear hK K
                      refine norm_ (a' := ?_) ?_ ?_
                      rotate_left
                      · show Act.put _ (some 67) _ = _
                        simp only [Act.put, List.setIfInBounds_toArray, List.set_cons_zero, List.set_cons_succ, i64_w, i32_w]
                        rfl
                      refine one_ (i := 4) (N := some 60) #[true, true, true, true, true, true, true, true, true, true, true, true, true, false, false, false, false, false] rfl rfl (one_of HT_.out (by kernel_rfl)) (by decide) (fun K hK => ?_)
                      refine goes_ Try.func60 (by kernel_rfl) rfl #[.pointer (some ⟨g, 0, none⟩), .int .i64 (x7_1.length : Int)] (by rfl) rfl rfl (by (try simp only [List.map_toArray, List.map_cons, List.map_nil]); first | done | rfl | (simp only [List.length_drop, List.length_take]; rfl)) ?_
                      with_reducible refine (spec_l20Rd_pick.calls k1 g s0_0 t339 (x7_1.length : Int) t340 t341 w0 _ ?side1 ?side2 A32.out).mono ?_
                      (case side1 => repeat (first | (with_reducible first | exact HI0.out | apply IsS92.alloc | apply IsS92.drewN | apply IsS92.drew | apply IsS92.set_1 | refine IsS92.far ?_ NB0_321.out _) | exact HI0.out))
                      (case side2 => repeat (first | (with_reducible first | exact HB.out | apply below_alloc | apply pw_below_drewN | apply below_drew1 | refine below_set ?_ (IsS92.ge HI0.out) | refine below_set ?_ GE321.out) | exact HB.out))
                      rintro e w45 ⟨rfl, hi, hb, hk⟩
                      refine ⟨_, rfl, ?_⟩
                      have n0_ := Aside0.mk (Kd.R_mono (Kd.R_keep (IsS92.apart (show IsS92 w0 _ g s0_0 t339 from by repeat (first | (with_reducible first | exact HI0.out | apply IsS92.alloc | apply IsS92.drewN | apply IsS92.drew | apply IsS92.set_1 | refine IsS92.far ?_ NB0_321.out _) | exact HI0.out)) (by (with_reducible repeat (first | apply Kd.R_alloc | apply Kd.R_drewN | apply Kd.R_drew)); exact HO_7.out) (by decide)) hk (fun _ h => h.2)) (fun _ h => h.1))
                      have n1_ := Aside0.mk (KeepBut.blk hk (g' := gb321) (o := .cells #[.int .i64 a1_0, .int .i64 a1_1] 41 (0, 0)) (by (with_reducible repeat (first | refine blk_drewN ?_ _ | refine blk_drew ?_ | refine blk_alloc ?_ _)); exact BK321.out) NB321_0.out (by simp))
                      have n2_ := Aside0.mk (Kd.R_mono (Kd.R_keep (IsS92.apart (show IsS92 w0 _ g s0_0 t339 from by repeat (first | (with_reducible first | exact HI0.out | apply IsS92.alloc | apply IsS92.drewN | apply IsS92.drew | apply IsS92.set_1 | refine IsS92.far ?_ NB0_321.out _) | exact HI0.out)) (by (with_reducible repeat (first | apply Kd.R_alloc | apply Kd.R_drewN | apply Kd.R_drew)); exact HO344.out) (by decide)) hk (fun _ h => h.2)) (fun _ h => h.1))
                      have n3_ := Aside0.mk (KeepBut.trans (by repeat (first | (with_reducible first | exact HK.out | apply KeepBut.set_ | apply keep_drewN | apply keep_drew | apply keep_alloc | refine keep_far ?_ GW321.out _) | exact HK.out)) hk (.inl rfl))
                      have n4_ := Aside0.mk (hb)
                      have n5_ := Aside0.mk (hi)
                      clear HO_7
                      clear BK321
                      clear HO344
                      clear HK
                      clear HB
                      clear HI0
                      have HO_7 := n0_
                      have BK321 := n1_
                      have HO344 := n2_
                      have HK := n3_
                      have HB := n4_
                      have HI0 := n5_
                      clear n0_ n1_ n2_ n3_ n4_ n5_
                      (try clear hb)
                      (try clear hb2)
                      (try clear hk)
                      (try clear hi)
                      refine hK.out _ _ ⟨(blk_cell BK321.out 0).trans rfl, (blk_cell BK321.out 1).trans rfl⟩ (fun hHeld => ?_)
                      clear hK K
                      refine norm_ (a' := ?_) ?_ ?_
                      rotate_left
                      · show Act.put _ (some 60) _ = _
                        simp only [Act.put, List.setIfInBounds_toArray, List.set_cons_zero, List.set_cons_succ, i64_w, i32_w]
                        rfl
                      refine one_ (i := 13) (N := some 69) #[true, true, true, true, true, true, true, true, true, true, true, true, true, true, false, false, false, false] rfl rfl (one_of HT_.out (by kernel_rfl)) (by decide) (fun K hK => ?_)
                      refine goes_ Try.func60 (by kernel_rfl) rfl #[.pointer (some ⟨g, 0, none⟩), .int .i64 3] (by rfl) rfl rfl (by (try simp only [List.map_toArray, List.map_cons, List.map_nil]); first | done | rfl | (simp only [List.length_drop, List.length_take]; rfl)) ?_
                      with_reducible refine (spec_l20Rd_pick.calls k1 g s0_0 t341 3 t345 t346 w0 _ ?side1 ?side2 A33.out).mono ?_
                      (case side1 => repeat (first | (with_reducible first | exact HI0.out | apply IsS92.alloc | apply IsS92.drewN | apply IsS92.drew | apply IsS92.set_1 | refine IsS92.far ?_ NB0_321.out _) | exact HI0.out))
                      (case side2 => repeat (first | (with_reducible first | exact HB.out | apply below_alloc | apply pw_below_drewN | apply below_drew1 | refine below_set ?_ (IsS92.ge HI0.out) | refine below_set ?_ GE321.out) | exact HB.out))
                      rintro e w46 ⟨rfl, hi, hb, hk⟩
                      refine ⟨_, rfl, ?_⟩
                      have n0_ := Aside0.mk (Kd.R_mono (Kd.R_keep (IsS92.apart (show IsS92 w0 _ g s0_0 t341 from by repeat (first | (with_reducible first | exact HI0.out | apply IsS92.alloc | apply IsS92.drewN | apply IsS92.drew | apply IsS92.set_1 | refine IsS92.far ?_ NB0_321.out _) | exact HI0.out)) (by (with_reducible repeat (first | apply Kd.R_alloc | apply Kd.R_drewN | apply Kd.R_drew)); exact HO_7.out) (by decide)) hk (fun _ h => h.2)) (fun _ h => h.1))
                      have n1_ := Aside0.mk (KeepBut.blk hk (g' := gb321) (o := .cells #[.int .i64 a1_0, .int .i64 a1_1] 41 (0, 0)) (by (with_reducible repeat (first | refine blk_drewN ?_ _ | refine blk_drew ?_ | refine blk_alloc ?_ _)); exact BK321.out) NB321_0.out (by simp))
                      have n2_ := Aside0.mk (Kd.R_mono (Kd.R_keep (IsS92.apart (show IsS92 w0 _ g s0_0 t341 from by repeat (first | (with_reducible first | exact HI0.out | apply IsS92.alloc | apply IsS92.drewN | apply IsS92.drew | apply IsS92.set_1 | refine IsS92.far ?_ NB0_321.out _) | exact HI0.out)) (by (with_reducible repeat (first | apply Kd.R_alloc | apply Kd.R_drewN | apply Kd.R_drew)); exact HO344.out) (by decide)) hk (fun _ h => h.2)) (fun _ h => h.1))
                      have n3_ := Aside0.mk (KeepBut.trans (by repeat (first | (with_reducible first | exact HK.out | apply KeepBut.set_ | apply keep_drewN | apply keep_drew | apply keep_alloc | refine keep_far ?_ GW321.out _) | exact HK.out)) hk (.inl rfl))
                      have n4_ := Aside0.mk (hb)
                      have n5_ := Aside0.mk (hi)
                      clear HO_7
                      clear BK321
                      clear HO344
                      clear HK
                      clear HB
                      clear HI0
                      have HO_7 := n0_
                      have BK321 := n1_
                      have HO344 := n2_
                      have HK := n3_
                      have HB := n4_
                      have HI0 := n5_
                      clear n0_ n1_ n2_ n3_ n4_ n5_
                      (try clear hb)
                      (try clear hb2)
                      (try clear hk)
                      (try clear hi)
                      refine hK.out _ _ ⟨(blk_cell BK321.out 0).trans rfl, (blk_cell BK321.out 1).trans rfl⟩ (fun hHeld => ?_)
                      clear hK K
                      refine norm_ (a' := ?_) ?_ ?_
                      rotate_left
                      · show Act.put _ (some 69) _ = _
                        simp only [Act.put, List.setIfInBounds_toArray, List.set_cons_zero, List.set_cons_succ, i64_w, i32_w]
                        rfl
                      exact norm_ (by simp only [putAll, Act.put, List.setIfInBounds_toArray, List.set_cons_zero, List.set_cons_succ]) (hCont (.slice (some ado44) y342.length co44, ado44) _ ⟨hHeld, (by (with_reducible repeat (first | apply Kd.R_alloc | apply Kd.R_drewN | apply Kd.R_drew)); exact Kd.R_mono HO344.out (fun _ hk => hk.2)), (by (with_reducible repeat (first | apply Kd.R_alloc | apply Kd.R_drewN | apply Kd.R_drew)); exact Kd.R_mono HO_7.out (fun _ hk => hk.2)), ⟨_, rfl⟩, (by (with_reducible repeat (first | refine blk_drewN ?_ _ | refine blk_drew ?_ | refine blk_alloc ?_ _)); exact BK321.out), (by repeat (first | (with_reducible first | exact HI0.out | apply IsS92.alloc | apply IsS92.drewN | apply IsS92.drew | apply IsS92.set_1 | refine IsS92.far ?_ NB0_321.out _) | exact HI0.out)), (by repeat (first | (with_reducible first | exact HK.out | apply KeepBut.set_ | apply keep_drewN | apply keep_drew | apply keep_alloc | refine keep_far ?_ GW321.out _) | exact HK.out)), (by repeat (first | (with_reducible first | exact HB.out | apply below_alloc | apply pw_below_drewN | apply below_drew1 | refine below_set ?_ (IsS92.ge HI0.out) | refine below_set ?_ GE321.out) | exact HB.out))⟩)
                  rintro ⟨v343, adz_v343⟩ w47 ⟨hS_, h0_, h1_, h2_, h3_, h4_, h5_, h6_⟩
                  have n0_ : Aside0 (Kd.R (Kd.int .i64) 3 w47 w.heap.size (fun k_ => some k_ ≠ (.slice Ao41 x7_1.length co41 : Value).ownBlock) v343 y342) := ⟨h0_⟩
                  have n1_ : Aside0 (Kd.R (Kd.int .i64) 3 w47 w.heap.size (fun k_ => some k_ ≠ (v343 : Value).ownBlock) (.slice Ao41 x7_1.length co41) x7_1) := ⟨h1_⟩
                  have n2_ : Aside0 (∃ c_, (v343 : Value) = .slice (some adz_v343) y342.length c_) := ⟨h2_⟩
                  have n3_ : Aside0 (w47.heap[gb321]? = some (.cells #[.int .i64 a1_0, .int .i64 a1_1] 41 (0, 0))) := ⟨h3_⟩
                  have n4_ : Aside0 (IsS92 w0 w47 g s0_0 t346) := ⟨h4_⟩
                  have n5_ : Aside0 (KeepBut w w47 g none) := ⟨h5_⟩
                  have n6_ : Aside0 (Below w0.heap.size w0 w47) := ⟨h6_⟩
                  clear HO_7
                  clear BK321
                  clear HI0
                  clear HK
                  clear HB
                  clear h0_ h1_ h2_ h3_ h4_ h5_ h6_
                  have HO344 := n0_
                  have HO_7 := n1_
                  have HA_HO344 := n2_
                  have BK321 := n3_
                  have HI0 := n4_
                  have HK := n5_
                  have HB := n6_
                  clear n0_ n1_ n2_ n3_ n4_ n5_ n6_
                  have hHeld : w47.cell? ⟨gb321, 0, none⟩ = some (.int .i64 a1_0) ∧ w47.cell? ⟨gb321, 1, none⟩ = some (.int .i64 a1_1) := hS_
                  obtain ⟨co48, eo48⟩ := HA_HO344.out
                  clear HA_HO344
                  subst eo48
                  have p38 : 0 ≤ (t340 : Int) := of_decide_eq_true (by first | (with_reducible assumption) | assumption)
                  have q38 : (t340 : Int) < ((x7_1.length : Int) : Int) := of_decide_eq_true (by first | (with_reducible assumption) | assumption)
                  obtain ⟨go38, co38, eo38, gb38, gl38, cl38, HG38⟩ := Kd.R_form HO_7.out (by omega)
                  (first | cases eo38 | (injection eo38 with ea_ en_ ec_; (first | subst ea_ | (injection ea_ with ea_; subst ea_)); subst ec_; clear en_))
                  have GB38 := Aside0.mk gb38
                  have GG38 := Aside0.mk HG38
                  clear gb38 gl38 HG38
                  obtain ⟨hx38_0, hf38_0⟩ := Kd.R_celln 0 HO_7.out (t340 : Int) p38 q38
                  replace p38 := eq_true p38
                  replace q38 := eq_true q38
                  have HN0_go38 := Aside0.mk (show g ≠ go38 from by have h_ := IsS92.own_ne HI0.out HO_7.out (by decide); intro e_; exact h_ (by rw [e_]; rfl))
                  have HP49 := Kd.R_putn HO_7.out (t340 : Int) (rd y342 t345)
                  rw [← Ny348.out] at HP49
                  have HQ49 := Aside0.mk HP49
                  clear HP49
                  refine norm_ (a' := ?_) ?_ ?_
                  rotate_left
                  · simp only [putAll, Act.put, List.setIfInBounds_toArray, List.set_cons_zero, List.set_cons_succ]
                    rfl
                  refine pure_ (i := 14) (N := some 70) (v := ?_) (a' := ?_) #[true, true, true, true, true, true, true, true, true, true, true, true, true, true, true, false, false, false] rfl rfl (any_of HT_.out (by kernel_rfl)) (fun _ _ _ h => h) (Or.inl ⟨by rfl, ?_⟩) ?_ ?_
                  rotate_left
                  · intro w'
                    go_simp
                    with_reducible rfl
                  rotate_left
                  · simp only [Act.put, List.setIfInBounds_toArray, List.set_cons_zero, List.set_cons_succ, i64_w, i32_w]
                    rfl
                  refine one_ (i := 15) (N := some 71) #[true, true, true, true, true, true, true, true, true, true, true, true, true, true, true, true, false, false] rfl rfl (one_of HT_.out (by kernel_rfl)) (by decide) (fun K hK => ?_)
                  (have p347 : 0 ≤ (t345 : Int) := of_decide_eq_true (by first | (with_reducible assumption) | assumption); have q347 : t345 < (y342.length : Int) := of_decide_eq_true (by first | (with_reducible assumption) | assumption); obtain ⟨ad347, e347, hx347_0⟩ := Kd.at_int (Kd.R_reads' HO344.out).2.2 t345 p347 q347; obtain rfl : adz_v343 = ad347 := (by injection e347))
                  refine value_ (w1 := ?_) (v := ?_) (by rfl) rfl ?_ ?_
                  rotate_left 2
                  · go_simp
                    constructor
                    · rfl
                    · rfl
                  clear hx347_0
                  refine hK.out _ _ ⟨(blk_cell BK321.out 0).trans rfl, (blk_cell BK321.out 1).trans rfl⟩ (fun hHeld => ?_)
                  clear hK K
                  refine norm_ (a' := ?_) ?_ ?_
                  rotate_left
                  · show Act.put _ (some 71) _ = _
                    simp only [Act.put, List.setIfInBounds_toArray, List.set_cons_zero, List.set_cons_succ, i64_w, i32_w]
                    rfl
                  refine pure_ (i := 16) (N := some 72) (v := ?_) (a' := ?_) #[true, true, true, true, true, true, true, true, true, true, true, true, true, true, true, true, true, false] rfl rfl (any_of HT_.out (by kernel_rfl)) (fun _ _ _ h => h) (Or.inl ⟨by rfl, ?_⟩) ?_ ?_
                  rotate_left
                  · intro w'
                    go_simp
                    with_reducible rfl
                  rotate_left
                  · simp only [Act.put, List.setIfInBounds_toArray, List.set_cons_zero, List.set_cons_succ, i64_w, i32_w]
                    rfl
                  refine last_ (i := 17) (N := none) #[true, true, true, true, true, true, true, true, true, true, true, true, true, true, true, true, true, true] rfl rfl (one_of HT_.out (by kernel_rfl)) (by decide) (fun K hK => ?_)
                  refine skip_ (w1 := ?_) (by rfl) rfl ?_ ?_
                  rotate_left
                  · go_simp
                    rfl
                  refine hK.out _ _ ?_
                  clear hK K
                  refine done_ (done_of HT_.out (by kernel_rfl)) ?_
                  try go_wp2
                  go_ret
                  exact ⟨_, by first | rfl | (simp [errW_none, errW_some] <;> rfl) | (simp [*, errW_none, errW_some] <;> rfl), by (with_reducible repeat (first | apply Kd.R_alloc | apply Kd.R_drewN | apply Kd.R_drew)); exact Kd.R_mono HQ49.out (fun _ hk => trivial), by repeat (first | (with_reducible first | exact HI0.out | apply IsS92.alloc | apply IsS92.drewN | apply IsS92.drew | apply IsS92.set_1 | refine IsS92.far ?_ HN0_go38.out _ | refine IsS92.far ?_ NB0_321.out _) | exact HI0.out), by repeat (first | (with_reducible first | exact HB.out | apply below_alloc | apply pw_below_drewN | apply below_drew1 | refine below_set ?_ (Nat.le_trans HL.out GB38.out) | refine below_set ?_ (IsS92.ge HI0.out) | refine below_set ?_ GE321.out) | exact HB.out), by repeat (first | (with_reducible first | exact HK.out | apply KeepBut.set_ | apply keep_drewN | apply keep_drew | apply keep_alloc | refine keep_far ?_ GB38.out _ | refine keep_far ?_ GW321.out _) | exact HK.out)⟩
                · rw [if_neg c37] at H
                  exact absurd H (by simp)
              · rw [if_neg c36] at H
                exact absurd H (by simp)
            · rw [if_neg c35] at H
              exact absurd H (by simp)
          · rw [if_neg c34] at H
            exact absurd H (by simp)
        · replace c31 := Bool.eq_false_iff.mpr c31
          subst c31
          have H1 : (some (x7_1, t339)) = some (r1, r2) := by rw [if_neg (show ¬ (false = true) by decide)] at H; exact H
          clear H
          have H := H1
          clear H1
          simp only [Option.some.injEq, Prod.mk.injEq] at H
          obtain ⟨rfl, rfl⟩ := H
          go_wp2_with (first | ((with_reducible refine gate_callee (f := 84) rfl ?_); refine goesL_ (some 55) rfl rfl Try.func84 (by kernel_rfl) rfl #[.pointer (some ⟨g, 0, none⟩), .int .i64 a2] rfl (by (try simp only [List.map_toArray, List.map_cons, List.map_nil]); first | done | rfl | (simp only [List.length_drop, List.length_take]; rfl)) ?_; (with_reducible refine (spec_l20Rd_odd.calls k1 g s0_0 x1001_1 a2 false t339 w0 _ ?side1 ?side2 A30.out).mono ?_); (case side1 => repeat (first | (with_reducible first | exact HI0.out | apply IsS92.alloc | apply IsS92.drewN | apply IsS92.drew | apply IsS92.set_1 | refine IsS92.far ?_ NB0_321.out _) | exact HI0.out)); (case side2 => repeat (first | (with_reducible first | exact HB.out | apply below_alloc | apply pw_below_drewN | apply below_drew1 | refine below_set ?_ (IsS92.ge HI0.out) | refine below_set ?_ GE321.out) | exact HB.out)); rintro e w50 ⟨rfl, hi, hb, hk⟩; refine ⟨_, rfl, ?_⟩; have n0_ := Aside0.mk (Kd.R_mono (Kd.R_keep (IsS92.apart (show IsS92 w0 _ g s0_0 x1001_1 from by repeat (first | (with_reducible first | exact HI0.out | apply IsS92.alloc | apply IsS92.drewN | apply IsS92.drew | apply IsS92.set_1 | refine IsS92.far ?_ NB0_321.out _) | exact HI0.out)) (by (with_reducible repeat (first | apply Kd.R_alloc | apply Kd.R_drewN | apply Kd.R_drew)); exact HO_7.out) (by decide)) hk (fun _ h => h.2)) (fun _ h => h.1)); have n1_ := Aside0.mk (KeepBut.blk hk (g' := gb321) (o := .cells #[.int .i64 a1_0, .int .i64 a1_1] 41 (0, 0)) (by (with_reducible repeat (first | refine blk_drewN ?_ _ | refine blk_drew ?_ | refine blk_alloc ?_ _)); exact BK321.out) NB321_0.out (by simp)); have n2_ := Aside0.mk (KeepBut.trans (by repeat (first | (with_reducible first | exact HK.out | apply KeepBut.set_ | apply keep_drewN | apply keep_drew | apply keep_alloc | refine keep_far ?_ GW321.out _) | exact HK.out)) hk (.inl rfl)); have n3_ := Aside0.mk (hb); have n4_ := Aside0.mk (hi); clear HO_7; clear BK321; clear HK; clear HB; clear HI0; have HO_7 := n0_; have BK321 := n1_; have HK := n2_; have HB := n3_; have HI0 := n4_; clear n0_ n1_ n2_ n3_ n4_; (try clear hb); (try clear hb2); (try clear hk); (try clear hi)))
          go_ret
          exact ⟨_, by first | rfl | (simp [errW_none, errW_some] <;> rfl) | (simp [*, errW_none, errW_some] <;> rfl), by (with_reducible repeat (first | apply Kd.R_alloc | apply Kd.R_drewN | apply Kd.R_drew)); exact HO_7.out, by repeat (first | (with_reducible first | exact HI0.out | apply IsS92.alloc | apply IsS92.drewN | apply IsS92.drew | apply IsS92.set_1 | refine IsS92.far ?_ NB0_321.out _) | exact HI0.out), by repeat (first | (with_reducible first | exact HB.out | apply below_alloc | apply pw_below_drewN | apply below_drew1 | refine below_set ?_ (IsS92.ge HI0.out) | refine below_set ?_ GE321.out) | exact HB.out), by repeat (first | (with_reducible first | exact HK.out | apply KeepBut.set_ | apply keep_drewN | apply keep_drew | apply keep_alloc | refine keep_far ?_ GW321.out _) | exact HK.out)⟩

end Go.Proofs.Ytkmpcmhkfnoeiaa.P
-- Laid by a program of this work.
namespace Go.Proofs.Ytkmpcmhkfnoeiaa.P
open Go.RowKit Go.Proofs.YtkmpcmhkfnoeiaaW.PrintWords Go.Proofs.YtkmpcmhkfnoeiaaW.PrintLast Go.Proofs.YtkmpcmhkfnoeiaaW.PrintMore
attribute [local go_sem] max2_int min2_int max_two min_two max_three min_three max_four min_four   -- for this text's walks alone
set_option linter.unusedVariables false
set_option linter.unusedSimpArgs false

/-! ### spec_l20Link: function 70 -/
def spec_l20Link.f (k : Nat) (s0_0 : List Int) (s0_1 : Int) (a1 : Int) : Option (Int × Int × Int) := (spec_l20Rd_pick.f k s0_0 s0_1 9).bind fun bt468 => ((spec_l20Rd_pick.f k s0_0 bt468.2 9).bind fun bt470 => ((spec_l20Rd_odd.f k s0_0 bt470.2 a1).bind fun bt473 => (if bt473.1 = true then ((some (([(⟨0, 0⟩ : S51), (⟨(-1), 1⟩ : S51), (⟨21, 1⟩ : S51), (⟨0, 21⟩ : S51)] : List (S51)) : List (S51))).bind fun y475 => ((spec_l20Rd_pick.f k s0_0 bt473.2 4).bind fun bt478 => (if 0 ≤ bt478.1 then (if bt478.1 < (y475.length : Int) then (some ((rd_T51 y475 bt478.1).f0, (rd_T51 y475 bt478.1).f1, bt478.2)) else (none)) else (none)))) else (some (bt468.1, wrap64 (1 + bt470.1), bt473.2)))))
theorem spec_l20Link.mono : ∀ a0 a1 a2 k, LeO (spec_l20Link.f k a0 a1 a2) (spec_l20Link.f (k + 1) a0 a1 a2) := by
  intro a0 a1 a2 k
  unfold spec_l20Link.f
  repeat' first
      | (with_reducible exact spec_l20Rd_odd.mono _ _ _ _)
      | (with_reducible exact spec_l20Rd_pick.mono _ _ _ _)
      | (with_reducible exact LeO.refl _)
      | (with_reducible exact LeO.none _)
      | (with_reducible refine LeO.ite ?_ ?_)
      | (with_reducible refine LeO.bind ?_ (fun _ => ?_))
      | exact spec_l20Rd_odd.mono _ _ _ _
      | exact spec_l20Rd_pick.mono _ _ _ _
      | exact LeO.none _
      | refine LeO.ite ?_ ?_
      | refine LeO.bind ?_ (fun _ => ?_)
set_option maxHeartbeats 8000000 in
set_option maxRecDepth 100000 in
theorem spec_l20Link.calls (k : Nat) (g : Nat) (s0_0 : List Int) (s0_1 : Int) (a1 : Int) (r1 : Int) (r2 : Int) (r3 : Int) (w0 w : World) (hI : IsS92 w0 w g s0_0 s0_1) (hB : Below w0.heap.size w0 w) (h : spec_l20Link.f k s0_0 s0_1 a1 = some (r1, r2, r3)) :
    Calls Try.prog 70 #[.pointer (some ⟨g, 0, none⟩), .int .i64 a1] w fun e w' => e = .returned (.agg #[.int .i64 r1, .int .i64 r2]) ∧ IsS92 w0 w' g s0_0 r3 ∧ Below w0.heap.size w0 w' ∧ KeepBut w w' g none := by
  have hu51 := Try.underlying51
  have HI0 := Aside0.mk hI
  have HK := Aside0.mk (KeepBut.refl w g none)
  have HL := Aside0.mk hB.size
  clear hI
  have HW0 := Aside0.mk hB.size
  have HB := Aside0.mk hB
  clear hB
  have H : ((spec_l20Rd_pick.f k s0_0 s0_1 9).bind fun bt468 => ((spec_l20Rd_pick.f k s0_0 bt468.2 9).bind fun bt470 => ((spec_l20Rd_odd.f k s0_0 bt470.2 a1).bind fun bt473 => (if bt473.1 = true then ((some (([(⟨0, 0⟩ : S51), (⟨(-1), 1⟩ : S51), (⟨21, 1⟩ : S51), (⟨0, 21⟩ : S51)] : List (S51)) : List (S51))).bind fun y475 => ((spec_l20Rd_pick.f k s0_0 bt473.2 4).bind fun bt478 => (if 0 ≤ bt478.1 then (if bt478.1 < (y475.length : Int) then (some ((rd_T51 y475 bt478.1).f0, (rd_T51 y475 bt478.1).f1, bt478.2)) else (none)) else (none)))) else (some (bt468.1, wrap64 (1 + bt470.1), bt473.2)))))) = some (r1, r2, r3) := h
  clear h
  replace H := Option.bind_eq_some_iff.mp H
  obtain ⟨⟨t468, t469⟩, A30, H⟩ := H
  replace H : ((spec_l20Rd_pick.f k s0_0 t469 9).bind fun bt470 => ((spec_l20Rd_odd.f k s0_0 bt470.2 a1).bind fun bt473 => (if bt473.1 = true then ((some (([(⟨0, 0⟩ : S51), (⟨(-1), 1⟩ : S51), (⟨21, 1⟩ : S51), (⟨0, 21⟩ : S51)] : List (S51)) : List (S51))).bind fun y475 => ((spec_l20Rd_pick.f k s0_0 bt473.2 4).bind fun bt478 => (if 0 ≤ bt478.1 then (if bt478.1 < (y475.length : Int) then (some ((rd_T51 y475 bt478.1).f0, (rd_T51 y475 bt478.1).f1, bt478.2)) else (none)) else (none)))) else (some (t468, wrap64 (1 + bt470.1), bt473.2))))) = some (r1, r2, r3) := H
  have A3 := Aside0.mk A30
  clear A30
  replace H := Option.bind_eq_some_iff.mp H
  obtain ⟨⟨t470, t471⟩, A40, H⟩ := H
  replace H : ((spec_l20Rd_odd.f k s0_0 t471 a1).bind fun bt473 => (if bt473.1 = true then ((some (([(⟨0, 0⟩ : S51), (⟨(-1), 1⟩ : S51), (⟨21, 1⟩ : S51), (⟨0, 21⟩ : S51)] : List (S51)) : List (S51))).bind fun y475 => ((spec_l20Rd_pick.f k s0_0 bt473.2 4).bind fun bt478 => (if 0 ≤ bt478.1 then (if bt478.1 < (y475.length : Int) then (some ((rd_T51 y475 bt478.1).f0, (rd_T51 y475 bt478.1).f1, bt478.2)) else (none)) else (none)))) else (some (t468, wrap64 (1 + t470), bt473.2)))) = some (r1, r2, r3) := H
  have A4 := Aside0.mk A40
  clear A40
  replace H := Option.bind_eq_some_iff.mp H
  obtain ⟨⟨t473, t474⟩, A50, H⟩ := H
  replace H : (if t473 = true then ((some (([(⟨0, 0⟩ : S51), (⟨(-1), 1⟩ : S51), (⟨21, 1⟩ : S51), (⟨0, 21⟩ : S51)] : List (S51)) : List (S51))).bind fun y475 => ((spec_l20Rd_pick.f k s0_0 t474 4).bind fun bt478 => (if 0 ≤ bt478.1 then (if bt478.1 < (y475.length : Int) then (some ((rd_T51 y475 bt478.1).f0, (rd_T51 y475 bt478.1).f1, bt478.2)) else (none)) else (none)))) else (some (t468, wrap64 (1 + t470), t474))) = some (r1, r2, r3) := H
  have A5 := Aside0.mk A50
  clear A50
  by_cases c6 : t473 = true
  · subst c6
    have H1 : ((some (([(⟨0, 0⟩ : S51), (⟨(-1), 1⟩ : S51), (⟨21, 1⟩ : S51), (⟨0, 21⟩ : S51)] : List (S51)) : List (S51))).bind fun y475 => ((spec_l20Rd_pick.f k s0_0 t474 4).bind fun bt478 => (if 0 ≤ bt478.1 then (if bt478.1 < (y475.length : Int) then (some ((rd_T51 y475 bt478.1).f0, (rd_T51 y475 bt478.1).f1, bt478.2)) else (none)) else (none)))) = some (r1, r2, r3) := by rw [if_pos rfl] at H; exact H
    clear H
    have H := H1
    clear H1
    obtain ⟨y475, hy475⟩ : ∃ y_ : List (S51), y_ = (([(⟨0, 0⟩ : S51), (⟨(-1), 1⟩ : S51), (⟨21, 1⟩ : S51), (⟨0, 21⟩ : S51)] : List (S51))) := ⟨_, rfl⟩
    replace H : ((spec_l20Rd_pick.f k s0_0 t474 4).bind fun bt478 => (if 0 ≤ bt478.1 then (if bt478.1 < (y475.length : Int) then (some ((rd_T51 y475 bt478.1).f0, (rd_T51 y475 bt478.1).f1, bt478.2)) else (none)) else (none))) = some (r1, r2, r3) := by first | (rw [hy475]; with_reducible exact H) | (have H2_ := (Option.bind_some _ _).symm.trans H; rw [hy475]; with_reducible exact H2_) | (have H2_ := (Option.bind_some _ _).symm.trans H; with_reducible exact H2_) | with_reducible exact H | (rw [hy475]; exact H) | exact H
    have Ny475 := Aside0.mk hy475
    clear hy475
    replace H := Option.bind_eq_some_iff.mp H
    obtain ⟨⟨t478, t479⟩, A70, H⟩ := H
    replace H : (if 0 ≤ t478 then (if t478 < (y475.length : Int) then (some ((rd_T51 y475 t478).f0, (rd_T51 y475 t478).f1, t479)) else (none)) else (none)) = some (r1, r2, r3) := H
    have A7 := Aside0.mk A70
    clear A70
    by_cases c8 : 0 ≤ t478
    · rw [if_pos c8] at H
      have c8b0 : decide (0 ≤ t478) = true := decide_eq_true c8
      clear c8
      by_cases c9 : t478 < (y475.length : Int)
      · rw [if_pos c9] at H
        have c9b0 : decide (t478 < (y475.length : Int)) = true := decide_eq_true c9
        clear c9
        simp only [Option.some.injEq, Prod.mk.injEq] at H
        obtain ⟨rfl, rfl, rfl⟩ := H
        go_enter Try.func70, Try.ntmps70
        go_wp2_with (first | ((with_reducible refine gate_dst (N := 4) rfl ?_); refine box_event ?hg (N := 4) ?hd (cs := #[.int .i64 0, .int .i64 0]) (t := 51) ?hr ?_; (case hd => rfl); (case hg => rfl); (case hr => first | (go_simp; done) | (go_simp; rfl)); intro gb467 hg w10 hbox hb; have n0_ := Aside0.mk (IsS92.below (by repeat (first | (with_reducible first | exact HI0.out | apply IsS92.alloc | apply IsS92.drewN | apply IsS92.drew | apply IsS92.set_1) | exact HI0.out)) hb); have n1_ := Aside0.mk (KeepBut.trans (by repeat (first | (with_reducible first | exact HK.out | apply KeepBut.set_ | apply keep_drewN | apply keep_drew | apply keep_alloc) | exact HK.out)) (KeepBut.of_below hb g none) (.inl rfl)); have n2_ := Aside0.mk (below_step (by repeat (first | (with_reducible first | exact HB.out | apply below_alloc | apply pw_below_drewN | apply below_drew1 | refine below_set ?_ (IsS92.ge HI0.out)) | exact HB.out)) hb); have n3_ := Aside0.mk (hbox); have n4_ := Aside0.mk ((by rw [hg]; exact (keep_size (w := w) (g := g) (row := none) (by repeat (first | (with_reducible first | exact HK.out | apply KeepBut.set_ | apply keep_drewN | apply keep_drew | apply keep_alloc) | exact HK.out))) : w.heap.size ≤ gb467)); have n5_ := Aside0.mk ((Nat.le_trans HW0.out (by rw [hg]; exact (keep_size (w := w) (g := g) (row := none) (by repeat (first | (with_reducible first | exact HK.out | apply KeepBut.set_ | apply keep_drewN | apply keep_drew | apply keep_alloc) | exact HK.out))) : w.heap.size ≤ gb467) : w0.heap.size ≤ gb467)); have n6_ := Aside0.mk ((by rw [hg]; exact Nat.ne_of_lt (IsS92.lt (show IsS92 w0 _ g s0_0 s0_1 from by repeat (first | (with_reducible first | exact HI0.out | apply IsS92.alloc | apply IsS92.drewN | apply IsS92.drew | apply IsS92.set_1) | exact HI0.out))) : g ≠ gb467)); have n7_ := Aside0.mk ((by rw [hg]; exact Nat.ne_of_gt (IsS92.lt (show IsS92 w0 _ g s0_0 s0_1 from by repeat (first | (with_reducible first | exact HI0.out | apply IsS92.alloc | apply IsS92.drewN | apply IsS92.drew | apply IsS92.set_1) | exact HI0.out))) : gb467 ≠ g)); clear HI0; clear HK; clear HB; have HI0 := n0_; have HK := n1_; have HB := n2_; have BK467 := n3_; have GW467 := n4_; have GE467 := n5_; have NB0_467 := n6_; have NB467_0 := n7_; clear n0_ n1_ n2_ n3_ n4_ n5_ n6_ n7_; clear hb hbox hg) | ((with_reducible refine gate_callee (f := 60) rfl ?_); refine goesL_ (some 7) rfl rfl Try.func60 (by kernel_rfl) rfl #[.pointer (some ⟨g, 0, none⟩), .int .i64 9] rfl (by (try simp only [List.map_toArray, List.map_cons, List.map_nil]); first | done | rfl | (simp only [List.length_drop, List.length_take]; rfl)) ?_; (with_reducible refine (spec_l20Rd_pick.calls k g s0_0 s0_1 9 t468 t469 w0 _ ?side1 ?side2 A3.out).mono ?_); (case side1 => repeat (first | (with_reducible first | exact HI0.out | apply IsS92.alloc | apply IsS92.drewN | apply IsS92.drew | apply IsS92.set_1 | refine IsS92.far ?_ NB0_467.out _) | exact HI0.out)); (case side2 => repeat (first | (with_reducible first | exact HB.out | apply below_alloc | apply pw_below_drewN | apply below_drew1 | refine below_set ?_ (IsS92.ge HI0.out) | refine below_set ?_ GE467.out) | exact HB.out)); rintro e w11 ⟨rfl, hi, hb, hk⟩; refine ⟨_, rfl, ?_⟩; have n0_ := Aside0.mk (KeepBut.blk hk (g' := gb467) (o := .cells #[.int .i64 0, .int .i64 0] 51 (0, 0)) (by (with_reducible repeat (first | refine blk_drewN ?_ _ | refine blk_drew ?_ | refine blk_alloc ?_ _)); exact BK467.out) NB467_0.out (by simp)); have n1_ := Aside0.mk (KeepBut.trans (by repeat (first | (with_reducible first | exact HK.out | apply KeepBut.set_ | apply keep_drewN | apply keep_drew | apply keep_alloc | refine keep_far ?_ GW467.out _) | exact HK.out)) hk (.inl rfl)); have n2_ := Aside0.mk (hb); have n3_ := Aside0.mk (hi); clear BK467; clear HK; clear HB; clear HI0; have BK467 := n0_; have HK := n1_; have HB := n2_; have HI0 := n3_; clear n0_ n1_ n2_ n3_; (try clear hb); (try clear hb2); (try clear hk); (try clear hi)) | ((with_reducible refine gate_callee (f := 60) rfl ?_); refine goesL_ (some 9) rfl rfl Try.func60 (by kernel_rfl) rfl #[.pointer (some ⟨g, 0, none⟩), .int .i64 9] rfl (by (try simp only [List.map_toArray, List.map_cons, List.map_nil]); first | done | rfl | (simp only [List.length_drop, List.length_take]; rfl)) ?_; (with_reducible refine (spec_l20Rd_pick.calls k g s0_0 t469 9 t470 t471 w0 _ ?side1 ?side2 A4.out).mono ?_); (case side1 => repeat (first | (with_reducible first | exact HI0.out | apply IsS92.alloc | apply IsS92.drewN | apply IsS92.drew | apply IsS92.set_1 | refine IsS92.far ?_ NB0_467.out _) | exact HI0.out)); (case side2 => repeat (first | (with_reducible first | exact HB.out | apply below_alloc | apply pw_below_drewN | apply below_drew1 | refine below_set ?_ (IsS92.ge HI0.out) | refine below_set ?_ GE467.out) | exact HB.out)); rintro e w12 ⟨rfl, hi, hb, hk⟩; refine ⟨_, rfl, ?_⟩; have n0_ := Aside0.mk (KeepBut.blk hk (g' := gb467) (o := .cells #[.int .i64 0, .int .i64 0] 51 (0, 0)) (by (with_reducible repeat (first | refine blk_drewN ?_ _ | refine blk_drew ?_ | refine blk_alloc ?_ _)); exact BK467.out) NB467_0.out (by simp)); have n1_ := Aside0.mk (KeepBut.trans (by repeat (first | (with_reducible first | exact HK.out | apply KeepBut.set_ | apply keep_drewN | apply keep_drew | apply keep_alloc | refine keep_far ?_ GW467.out _) | exact HK.out)) hk (.inl rfl)); have n2_ := Aside0.mk (hb); have n3_ := Aside0.mk (hi); clear BK467; clear HK; clear HB; clear HI0; have BK467 := n0_; have HK := n1_; have HB := n2_; have HI0 := n3_; clear n0_ n1_ n2_ n3_; (try clear hb); (try clear hb2); (try clear hk); (try clear hi)) | ((with_reducible refine gate_dst (N := 5) rfl ?_); refine box_event ?hg (N := 5) ?hd (cs := #[.int .i64 0, .int .i64 0]) (t := 51) ?hr ?_; (case hd => rfl); (case hg => rfl); (case hr => first | (go_simp; done) | (go_simp; rfl)); intro gb472 hg w13 hbox hb; have n0_ := Aside0.mk (IsS92.below (by repeat (first | (with_reducible first | exact HI0.out | apply IsS92.alloc | apply IsS92.drewN | apply IsS92.drew | apply IsS92.set_1 | refine IsS92.far ?_ NB0_467.out _) | exact HI0.out)) hb); have n1_ := Aside0.mk (blk_below (g := gb467) (o := .cells #[.int .i64 0, .int .i64 0] 51 (0, 0)) (by (with_reducible repeat (first | refine blk_drewN ?_ _ | refine blk_drew ?_ | refine blk_alloc ?_ _)); exact BK467.out) hb); have n2_ := Aside0.mk (KeepBut.trans (by repeat (first | (with_reducible first | exact HK.out | apply KeepBut.set_ | apply keep_drewN | apply keep_drew | apply keep_alloc | refine keep_far ?_ GW467.out _) | exact HK.out)) (KeepBut.of_below hb g none) (.inl rfl)); have n3_ := Aside0.mk (below_step (by repeat (first | (with_reducible first | exact HB.out | apply below_alloc | apply pw_below_drewN | apply below_drew1 | refine below_set ?_ (IsS92.ge HI0.out) | refine below_set ?_ GE467.out) | exact HB.out)) hb); have n4_ := Aside0.mk (hbox); have n5_ := Aside0.mk ((by rw [hg]; exact (keep_size (w := w) (g := g) (row := none) (by repeat (first | (with_reducible first | exact HK.out | apply KeepBut.set_ | apply keep_drewN | apply keep_drew | apply keep_alloc | refine keep_far ?_ GW467.out _) | exact HK.out))) : w.heap.size ≤ gb472)); have n6_ := Aside0.mk ((Nat.le_trans HW0.out (by rw [hg]; exact (keep_size (w := w) (g := g) (row := none) (by repeat (first | (with_reducible first | exact HK.out | apply KeepBut.set_ | apply keep_drewN | apply keep_drew | apply keep_alloc | refine keep_far ?_ GW467.out _) | exact HK.out))) : w.heap.size ≤ gb472) : w0.heap.size ≤ gb472)); have n7_ := Aside0.mk ((by rw [hg]; exact Nat.ne_of_lt (blk_lt (g := gb467) (o := .cells #[.int .i64 0, .int .i64 0] 51 (0, 0)) (by (with_reducible repeat (first | refine blk_drewN ?_ _ | refine blk_drew ?_ | refine blk_alloc ?_ _)); exact BK467.out)) : gb467 ≠ gb472)); have n8_ := Aside0.mk ((by rw [hg]; exact Nat.ne_of_gt (blk_lt (g := gb467) (o := .cells #[.int .i64 0, .int .i64 0] 51 (0, 0)) (by (with_reducible repeat (first | refine blk_drewN ?_ _ | refine blk_drew ?_ | refine blk_alloc ?_ _)); exact BK467.out)) : gb472 ≠ gb467)); have n9_ := Aside0.mk ((by rw [hg]; exact Nat.ne_of_lt (IsS92.lt (show IsS92 w0 _ g s0_0 t471 from by repeat (first | (with_reducible first | exact HI0.out | apply IsS92.alloc | apply IsS92.drewN | apply IsS92.drew | apply IsS92.set_1 | refine IsS92.far ?_ NB0_467.out _) | exact HI0.out))) : g ≠ gb472)); have n10_ := Aside0.mk ((by rw [hg]; exact Nat.ne_of_gt (IsS92.lt (show IsS92 w0 _ g s0_0 t471 from by repeat (first | (with_reducible first | exact HI0.out | apply IsS92.alloc | apply IsS92.drewN | apply IsS92.drew | apply IsS92.set_1 | refine IsS92.far ?_ NB0_467.out _) | exact HI0.out))) : gb472 ≠ g)); clear HI0; clear BK467; clear HK; clear HB; have HI0 := n0_; have BK467 := n1_; have HK := n2_; have HB := n3_; have BK472 := n4_; have GW472 := n5_; have GE472 := n6_; have NB467_472 := n7_; have NB472_467 := n8_; have NB0_472 := n9_; have NB472_0 := n10_; clear n0_ n1_ n2_ n3_ n4_ n5_ n6_ n7_ n8_ n9_ n10_; clear hb hbox hg; have hnb14 := NB472_467.out; have hnc14 := NB467_472.out; have hnb15 := NB472_0.out; have hnc15 := NB0_472.out; have hcz16_0 : w13.cell? ⟨gb472, 0, none⟩ = some (.int .i64 0) := (blk_cell BK472.out 0).trans rfl; have hcz16_1 : w13.cell? ⟨gb472, 1, none⟩ = some (.int .i64 0) := (blk_cell BK472.out 1).trans rfl; have hfz16_0 := blk_frozen BK472.out 0; have hfz16_1 := blk_frozen BK472.out 1) | ((with_reducible refine gate_callee (f := 84) rfl ?_); refine goesL_ (some 14) rfl rfl Try.func84 (by kernel_rfl) rfl #[.pointer (some ⟨g, 0, none⟩), .int .i64 a1] rfl (by (try simp only [List.map_toArray, List.map_cons, List.map_nil]); first | done | rfl | (simp only [List.length_drop, List.length_take]; rfl)) ?_; (with_reducible refine (spec_l20Rd_odd.calls k g s0_0 t471 a1 true t474 w0 _ ?side1 ?side2 A5.out).mono ?_); (case side1 => repeat (first | (with_reducible first | exact HI0.out | apply IsS92.alloc | apply IsS92.drewN | apply IsS92.drew | apply IsS92.set_1 | refine IsS92.far ?_ NB0_467.out _ | refine IsS92.far ?_ NB0_472.out _) | exact HI0.out)); (case side2 => repeat (first | (with_reducible first | exact HB.out | apply below_alloc | apply pw_below_drewN | apply below_drew1 | refine below_set ?_ (IsS92.ge HI0.out) | refine below_set ?_ GE467.out | refine below_set ?_ GE472.out) | exact HB.out)); rintro e w17 ⟨rfl, hi, hb, hk⟩; refine ⟨_, rfl, ?_⟩; have n0_ := Aside0.mk (KeepBut.blk hk (g' := gb467) (o := .cells #[.int .i64 0, .int .i64 0] 51 (0, 0)) (by (with_reducible repeat (first | refine blk_drewN ?_ _ | refine blk_drew ?_ | refine blk_alloc ?_ _)); refine blk_far ?_ NB467_472.out _; (with_reducible repeat (first | refine blk_drewN ?_ _ | refine blk_drew ?_ | refine blk_alloc ?_ _)); refine blk_far ?_ NB467_472.out _; (with_reducible repeat (first | refine blk_drewN ?_ _ | refine blk_drew ?_ | refine blk_alloc ?_ _)); exact BK467.out) NB467_0.out (by simp)); have n1_ := Aside0.mk (KeepBut.blk hk (g' := gb472) (o := .cells #[.int .i64 t468, .int .i64 (wrap64 (1 + t470))] 51 (0, 0)) (by (with_reducible repeat (first | refine blk_drewN ?_ _ | refine blk_drew ?_ | refine blk_alloc ?_ _)); refine blk_put (cs := #[.int .i64 t468, .int .i64 0]) ?_ 1 _ rfl; (with_reducible repeat (first | refine blk_drewN ?_ _ | refine blk_drew ?_ | refine blk_alloc ?_ _)); refine blk_put (cs := #[.int .i64 0, .int .i64 0]) ?_ 0 _ rfl; (with_reducible repeat (first | refine blk_drewN ?_ _ | refine blk_drew ?_ | refine blk_alloc ?_ _)); exact BK472.out) NB472_0.out (by simp)); have n2_ := Aside0.mk (KeepBut.trans (by repeat (first | (with_reducible first | exact HK.out | apply KeepBut.set_ | apply keep_drewN | apply keep_drew | apply keep_alloc | refine keep_far ?_ GW467.out _ | refine keep_far ?_ GW472.out _) | exact HK.out)) hk (.inl rfl)); have n3_ := Aside0.mk (hb); have n4_ := Aside0.mk (hi); clear BK467; clear BK472; clear HK; clear HB; clear HI0; have BK467 := n0_; have BK472 := n1_; have HK := n2_; have HB := n3_; have HI0 := n4_; clear n0_ n1_ n2_ n3_ n4_; (try clear hb); (try clear hb2); (try clear hk); (try clear hi)) | ((with_reducible refine gate_dst (N := 19) rfl ?_); refine Kd.R_lit k51 _ 51 ?hg (N := 19) ?hd (xs := ([(⟨0, 0⟩ : S51), (⟨(-1), 1⟩ : S51), (⟨21, 1⟩ : S51), (⟨0, 21⟩ : S51)] : List (S51))) (inner := [.int .i64 0, .int .i64 0, .int .i64 (-1), .int .i64 1, .int .i64 21, .int .i64 1, .int .i64 0, .int .i64 21]) (ok := fun _ => True) (okp := fun _ => True) ?hr ?hp (fun _ hk => hk) trivial (Below.refl _ _) (Nat.le_refl _) (by simp) ?_; (case hd => rfl); (case hg => rfl); (case hr => first | (go_simp; done) | (go_simp; rfl)); (case hp => exact (Reps.c2 (show Kd.M k51 _ _ _ (⟨0, 0⟩ : S51) [.int .i64 0, .int .i64 0] from (k51_mkM _ _ _ (⟨0, 0⟩ : S51) )) (Reps.c2 (show Kd.M k51 _ _ _ (⟨(-1), 1⟩ : S51) [.int .i64 (-1), .int .i64 1] from (k51_mkM _ _ _ (⟨(-1), 1⟩ : S51) )) (Reps.c2 (show Kd.M k51 _ _ _ (⟨21, 1⟩ : S51) [.int .i64 21, .int .i64 1] from (k51_mkM _ _ _ (⟨21, 1⟩ : S51) )) (Reps.c2 (show Kd.M k51 _ _ _ (⟨0, 21⟩ : S51) [.int .i64 0, .int .i64 21] from (k51_mkM _ _ _ (⟨0, 21⟩ : S51) )) (Reps.none _ _)))))); intro v476 w18 ho19 hb hg_ hnew_; clear hg_ hnew_; (first | rw [← Ny475.out] at ho19 | (simp only [Int.reduceToNat] at ho19; rw [← Ny475.out] at ho19)); have n0_ := Aside0.mk (Kd.R_lower (Kd.R_newB (Kd.R_newB ho19 (g := gb467) (o := .cells #[.int .i64 0, .int .i64 0] 51 (0, 0)) (by (with_reducible repeat (first | refine blk_drewN ?_ _ | refine blk_drew ?_ | refine blk_alloc ?_ _)); exact BK467.out)) (g := gb472) (o := .cells #[.int .i64 t468, .int .i64 (wrap64 (1 + t470))] 51 (0, 0)) (by (with_reducible repeat (first | refine blk_drewN ?_ _ | refine blk_drew ?_ | refine blk_alloc ?_ _)); exact BK472.out)) (keep_size (w := w) (g := g) (row := none) (by repeat (first | (with_reducible first | exact HK.out | apply KeepBut.set_ | apply keep_drewN | apply keep_drew | apply keep_alloc | refine keep_far ?_ GW467.out _ | refine keep_far ?_ GW472.out _) | exact HK.out)))); have n1_ := Aside0.mk (IsS92.below (by repeat (first | (with_reducible first | exact HI0.out | apply IsS92.alloc | apply IsS92.drewN | apply IsS92.drew | apply IsS92.set_1 | refine IsS92.far ?_ NB0_467.out _ | refine IsS92.far ?_ NB0_472.out _) | exact HI0.out)) hb); have n2_ := Aside0.mk (blk_below (g := gb467) (o := .cells #[.int .i64 0, .int .i64 0] 51 (0, 0)) (by (with_reducible repeat (first | refine blk_drewN ?_ _ | refine blk_drew ?_ | refine blk_alloc ?_ _)); exact BK467.out) hb); have n3_ := Aside0.mk (blk_below (g := gb472) (o := .cells #[.int .i64 t468, .int .i64 (wrap64 (1 + t470))] 51 (0, 0)) (by (with_reducible repeat (first | refine blk_drewN ?_ _ | refine blk_drew ?_ | refine blk_alloc ?_ _)); exact BK472.out) hb); have n4_ := Aside0.mk (KeepBut.trans (by repeat (first | (with_reducible first | exact HK.out | apply KeepBut.set_ | apply keep_drewN | apply keep_drew | apply keep_alloc | refine keep_far ?_ GW467.out _ | refine keep_far ?_ GW472.out _) | exact HK.out)) (KeepBut.of_below hb g none) (.inl rfl)); have n5_ := Aside0.mk (below_step (by repeat (first | (with_reducible first | exact HB.out | apply below_alloc | apply pw_below_drewN | apply below_drew1 | refine below_set ?_ (IsS92.ge HI0.out) | refine below_set ?_ GE467.out | refine below_set ?_ GE472.out) | exact HB.out)) hb); clear HI0; clear BK467; clear BK472; clear HK; clear HB; have HO477 := n0_; have HI0 := n1_; have BK467 := n2_; have BK472 := n3_; have HK := n4_; have HB := n5_; clear n0_ n1_ n2_ n3_ n4_ n5_; clear hb ho19) | ((with_reducible refine gate_callee (f := 60) rfl ?_); refine goesL_ (some 21) rfl rfl Try.func60 (by kernel_rfl) rfl #[.pointer (some ⟨g, 0, none⟩), .int .i64 4] rfl (by (try simp only [List.map_toArray, List.map_cons, List.map_nil]); first | done | rfl | (simp only [List.length_drop, List.length_take]; rfl)) ?_; (with_reducible refine (spec_l20Rd_pick.calls k g s0_0 t474 4 t478 t479 w0 _ ?side1 ?side2 A7.out).mono ?_); (case side1 => repeat (first | (with_reducible first | exact HI0.out | apply IsS92.alloc | apply IsS92.drewN | apply IsS92.drew | apply IsS92.set_1 | refine IsS92.far ?_ NB0_467.out _ | refine IsS92.far ?_ NB0_472.out _) | exact HI0.out)); (case side2 => repeat (first | (with_reducible first | exact HB.out | apply below_alloc | apply pw_below_drewN | apply below_drew1 | refine below_set ?_ (IsS92.ge HI0.out) | refine below_set ?_ GE467.out | refine below_set ?_ GE472.out) | exact HB.out)); rintro e w20 ⟨rfl, hi, hb, hk⟩; refine ⟨_, rfl, ?_⟩; have n0_ := Aside0.mk (KeepBut.blk hk (g' := gb467) (o := .cells #[.int .i64 0, .int .i64 0] 51 (0, 0)) (by (with_reducible repeat (first | refine blk_drewN ?_ _ | refine blk_drew ?_ | refine blk_alloc ?_ _)); exact BK467.out) NB467_0.out (by simp)); have n1_ := Aside0.mk (KeepBut.blk hk (g' := gb472) (o := .cells #[.int .i64 t468, .int .i64 (wrap64 (1 + t470))] 51 (0, 0)) (by (with_reducible repeat (first | refine blk_drewN ?_ _ | refine blk_drew ?_ | refine blk_alloc ?_ _)); exact BK472.out) NB472_0.out (by simp)); have n2_ := Aside0.mk (Kd.R_mono (Kd.R_keep (IsS92.apart (show IsS92 w0 _ g s0_0 t474 from by repeat (first | (with_reducible first | exact HI0.out | apply IsS92.alloc | apply IsS92.drewN | apply IsS92.drew | apply IsS92.set_1 | refine IsS92.far ?_ NB0_467.out _ | refine IsS92.far ?_ NB0_472.out _) | exact HI0.out)) (by (with_reducible repeat (first | apply Kd.R_alloc | apply Kd.R_drewN | apply Kd.R_drew)); exact HO477.out) (by decide)) hk (fun _ h => h.2)) (fun _ h => h.1)); have n3_ := Aside0.mk (KeepBut.trans (by repeat (first | (with_reducible first | exact HK.out | apply KeepBut.set_ | apply keep_drewN | apply keep_drew | apply keep_alloc | refine keep_far ?_ GW467.out _ | refine keep_far ?_ GW472.out _) | exact HK.out)) hk (.inl rfl)); have n4_ := Aside0.mk (hb); have n5_ := Aside0.mk (hi); clear BK467; clear BK472; clear HO477; clear HK; clear HB; clear HI0; have BK467 := n0_; have BK472 := n1_; have HO477 := n2_; have HK := n3_; have HB := n4_; have HI0 := n5_; clear n0_ n1_ n2_ n3_ n4_ n5_; (try clear hb); (try clear hb2); (try clear hk); (try clear hi); obtain ⟨Ao21, co21, eo21⟩ := Kd.R_slice HO477.out; subst eo21; have p480 : 0 ≤ (t478 : Int) := of_decide_eq_true (by first | (with_reducible assumption) | assumption); have q480 : t478 < (y475.length : Int) := of_decide_eq_true (by first | (with_reducible assumption) | assumption); obtain ⟨ad480, e480, hx480_0, hx480_1⟩ := at_T51 (Kd.R_reads' HO477.out).2.2 t478 p480 q480; cases e480; replace p480 := eq_true p480; replace q480 := eq_true q480; have hnb22 := NB467_0.out; have hnc22 := NB0_467.out; have hcz23_0 : w20.cell? ⟨gb467, 0, none⟩ = some (.int .i64 0) := (blk_cell BK467.out 0).trans rfl; have hcz23_1 : w20.cell? ⟨gb467, 1, none⟩ = some (.int .i64 0) := (blk_cell BK467.out 1).trans rfl; have hfz23_0 := blk_frozen BK467.out 0; have hfz23_1 := blk_frozen BK467.out 1))
        refine bodyPost_ret (results_cell_row rfl _ _ gb467 51 #[.int .i64 ((rd_T51 y475 t478).f0), .int .i64 ((rd_T51 y475 t478).f1)] (0, 0) _ rfl (by (with_reducible repeat (first | refine blk_drewN ?_ _ | refine blk_drew ?_ | refine blk_alloc ?_ _)); refine blk_put (cs := #[.int .i64 ((rd_T51 y475 t478).f0), .int .i64 0]) ?_ 1 _ rfl; (with_reducible repeat (first | refine blk_drewN ?_ _ | refine blk_drew ?_ | refine blk_alloc ?_ _)); refine blk_put (cs := #[.int .i64 0, .int .i64 0]) ?_ 0 _ rfl; (with_reducible repeat (first | refine blk_drewN ?_ _ | refine blk_drew ?_ | refine blk_alloc ?_ _)); exact BK467.out) Try.underlying51 rfl (by kernel_rfl)) rfl ?_
        exact ⟨by first | rfl | (simp [errW_none, errW_some] <;> rfl) | (simp [*, errW_none, errW_some] <;> rfl), by repeat (first | (with_reducible first | exact HI0.out | apply IsS92.alloc | apply IsS92.drewN | apply IsS92.drew | apply IsS92.set_1 | refine IsS92.far ?_ NB0_467.out _ | refine IsS92.far ?_ NB0_472.out _) | exact HI0.out), by repeat (first | (with_reducible first | exact HB.out | apply below_alloc | apply pw_below_drewN | apply below_drew1 | refine below_set ?_ (IsS92.ge HI0.out) | refine below_set ?_ GE467.out | refine below_set ?_ GE472.out) | exact HB.out), by repeat (first | (with_reducible first | exact HK.out | apply KeepBut.set_ | apply keep_drewN | apply keep_drew | apply keep_alloc | refine keep_far ?_ GW467.out _ | refine keep_far ?_ GW472.out _) | exact HK.out)⟩
      · rw [if_neg c9] at H
        exact absurd H (by simp)
    · rw [if_neg c8] at H
      exact absurd H (by simp)
  · replace c6 := Bool.eq_false_iff.mpr c6
    subst c6
    have H1 : (some (t468, wrap64 (1 + t470), t474)) = some (r1, r2, r3) := by rw [if_neg (show ¬ (false = true) by decide)] at H; exact H
    clear H
    have H := H1
    clear H1
    simp only [Option.some.injEq, Prod.mk.injEq] at H
    obtain ⟨rfl, rfl, rfl⟩ := H
    go_enter Try.func70, Try.ntmps70
    go_wp2_with (first | ((with_reducible refine gate_dst (N := 4) rfl ?_); refine box_event ?hg (N := 4) ?hd (cs := #[.int .i64 0, .int .i64 0]) (t := 51) ?hr ?_; (case hd => rfl); (case hg => rfl); (case hr => first | (go_simp; done) | (go_simp; rfl)); intro gb467 hg w24 hbox hb; have n0_ := Aside0.mk (IsS92.below (by repeat (first | (with_reducible first | exact HI0.out | apply IsS92.alloc | apply IsS92.drewN | apply IsS92.drew | apply IsS92.set_1) | exact HI0.out)) hb); have n1_ := Aside0.mk (KeepBut.trans (by repeat (first | (with_reducible first | exact HK.out | apply KeepBut.set_ | apply keep_drewN | apply keep_drew | apply keep_alloc) | exact HK.out)) (KeepBut.of_below hb g none) (.inl rfl)); have n2_ := Aside0.mk (below_step (by repeat (first | (with_reducible first | exact HB.out | apply below_alloc | apply pw_below_drewN | apply below_drew1 | refine below_set ?_ (IsS92.ge HI0.out)) | exact HB.out)) hb); have n3_ := Aside0.mk (hbox); have n4_ := Aside0.mk ((by rw [hg]; exact (keep_size (w := w) (g := g) (row := none) (by repeat (first | (with_reducible first | exact HK.out | apply KeepBut.set_ | apply keep_drewN | apply keep_drew | apply keep_alloc) | exact HK.out))) : w.heap.size ≤ gb467)); have n5_ := Aside0.mk ((Nat.le_trans HW0.out (by rw [hg]; exact (keep_size (w := w) (g := g) (row := none) (by repeat (first | (with_reducible first | exact HK.out | apply KeepBut.set_ | apply keep_drewN | apply keep_drew | apply keep_alloc) | exact HK.out))) : w.heap.size ≤ gb467) : w0.heap.size ≤ gb467)); have n6_ := Aside0.mk ((by rw [hg]; exact Nat.ne_of_lt (IsS92.lt (show IsS92 w0 _ g s0_0 s0_1 from by repeat (first | (with_reducible first | exact HI0.out | apply IsS92.alloc | apply IsS92.drewN | apply IsS92.drew | apply IsS92.set_1) | exact HI0.out))) : g ≠ gb467)); have n7_ := Aside0.mk ((by rw [hg]; exact Nat.ne_of_gt (IsS92.lt (show IsS92 w0 _ g s0_0 s0_1 from by repeat (first | (with_reducible first | exact HI0.out | apply IsS92.alloc | apply IsS92.drewN | apply IsS92.drew | apply IsS92.set_1) | exact HI0.out))) : gb467 ≠ g)); clear HI0; clear HK; clear HB; have HI0 := n0_; have HK := n1_; have HB := n2_; have BK467 := n3_; have GW467 := n4_; have GE467 := n5_; have NB0_467 := n6_; have NB467_0 := n7_; clear n0_ n1_ n2_ n3_ n4_ n5_ n6_ n7_; clear hb hbox hg) | ((with_reducible refine gate_callee (f := 60) rfl ?_); refine goesL_ (some 7) rfl rfl Try.func60 (by kernel_rfl) rfl #[.pointer (some ⟨g, 0, none⟩), .int .i64 9] rfl (by (try simp only [List.map_toArray, List.map_cons, List.map_nil]); first | done | rfl | (simp only [List.length_drop, List.length_take]; rfl)) ?_; (with_reducible refine (spec_l20Rd_pick.calls k g s0_0 s0_1 9 t468 t469 w0 _ ?side1 ?side2 A3.out).mono ?_); (case side1 => repeat (first | (with_reducible first | exact HI0.out | apply IsS92.alloc | apply IsS92.drewN | apply IsS92.drew | apply IsS92.set_1 | refine IsS92.far ?_ NB0_467.out _) | exact HI0.out)); (case side2 => repeat (first | (with_reducible first | exact HB.out | apply below_alloc | apply pw_below_drewN | apply below_drew1 | refine below_set ?_ (IsS92.ge HI0.out) | refine below_set ?_ GE467.out) | exact HB.out)); rintro e w25 ⟨rfl, hi, hb, hk⟩; refine ⟨_, rfl, ?_⟩; have n0_ := Aside0.mk (KeepBut.blk hk (g' := gb467) (o := .cells #[.int .i64 0, .int .i64 0] 51 (0, 0)) (by (with_reducible repeat (first | refine blk_drewN ?_ _ | refine blk_drew ?_ | refine blk_alloc ?_ _)); exact BK467.out) NB467_0.out (by simp)); have n1_ := Aside0.mk (KeepBut.trans (by repeat (first | (with_reducible first | exact HK.out | apply KeepBut.set_ | apply keep_drewN | apply keep_drew | apply keep_alloc | refine keep_far ?_ GW467.out _) | exact HK.out)) hk (.inl rfl)); have n2_ := Aside0.mk (hb); have n3_ := Aside0.mk (hi); clear BK467; clear HK; clear HB; clear HI0; have BK467 := n0_; have HK := n1_; have HB := n2_; have HI0 := n3_; clear n0_ n1_ n2_ n3_; (try clear hb); (try clear hb2); (try clear hk); (try clear hi)) | ((with_reducible refine gate_callee (f := 60) rfl ?_); refine goesL_ (some 9) rfl rfl Try.func60 (by kernel_rfl) rfl #[.pointer (some ⟨g, 0, none⟩), .int .i64 9] rfl (by (try simp only [List.map_toArray, List.map_cons, List.map_nil]); first | done | rfl | (simp only [List.length_drop, List.length_take]; rfl)) ?_; (with_reducible refine (spec_l20Rd_pick.calls k g s0_0 t469 9 t470 t471 w0 _ ?side1 ?side2 A4.out).mono ?_); (case side1 => repeat (first | (with_reducible first | exact HI0.out | apply IsS92.alloc | apply IsS92.drewN | apply IsS92.drew | apply IsS92.set_1 | refine IsS92.far ?_ NB0_467.out _) | exact HI0.out)); (case side2 => repeat (first | (with_reducible first | exact HB.out | apply below_alloc | apply pw_below_drewN | apply below_drew1 | refine below_set ?_ (IsS92.ge HI0.out) | refine below_set ?_ GE467.out) | exact HB.out)); rintro e w26 ⟨rfl, hi, hb, hk⟩; refine ⟨_, rfl, ?_⟩; have n0_ := Aside0.mk (KeepBut.blk hk (g' := gb467) (o := .cells #[.int .i64 0, .int .i64 0] 51 (0, 0)) (by (with_reducible repeat (first | refine blk_drewN ?_ _ | refine blk_drew ?_ | refine blk_alloc ?_ _)); exact BK467.out) NB467_0.out (by simp)); have n1_ := Aside0.mk (KeepBut.trans (by repeat (first | (with_reducible first | exact HK.out | apply KeepBut.set_ | apply keep_drewN | apply keep_drew | apply keep_alloc | refine keep_far ?_ GW467.out _) | exact HK.out)) hk (.inl rfl)); have n2_ := Aside0.mk (hb); have n3_ := Aside0.mk (hi); clear BK467; clear HK; clear HB; clear HI0; have BK467 := n0_; have HK := n1_; have HB := n2_; have HI0 := n3_; clear n0_ n1_ n2_ n3_; (try clear hb); (try clear hb2); (try clear hk); (try clear hi)) | ((with_reducible refine gate_dst (N := 5) rfl ?_); refine box_event ?hg (N := 5) ?hd (cs := #[.int .i64 0, .int .i64 0]) (t := 51) ?hr ?_; (case hd => rfl); (case hg => rfl); (case hr => first | (go_simp; done) | (go_simp; rfl)); intro gb472 hg w27 hbox hb; have n0_ := Aside0.mk (IsS92.below (by repeat (first | (with_reducible first | exact HI0.out | apply IsS92.alloc | apply IsS92.drewN | apply IsS92.drew | apply IsS92.set_1 | refine IsS92.far ?_ NB0_467.out _) | exact HI0.out)) hb); have n1_ := Aside0.mk (blk_below (g := gb467) (o := .cells #[.int .i64 0, .int .i64 0] 51 (0, 0)) (by (with_reducible repeat (first | refine blk_drewN ?_ _ | refine blk_drew ?_ | refine blk_alloc ?_ _)); exact BK467.out) hb); have n2_ := Aside0.mk (KeepBut.trans (by repeat (first | (with_reducible first | exact HK.out | apply KeepBut.set_ | apply keep_drewN | apply keep_drew | apply keep_alloc | refine keep_far ?_ GW467.out _) | exact HK.out)) (KeepBut.of_below hb g none) (.inl rfl)); have n3_ := Aside0.mk (below_step (by repeat (first | (with_reducible first | exact HB.out | apply below_alloc | apply pw_below_drewN | apply below_drew1 | refine below_set ?_ (IsS92.ge HI0.out) | refine below_set ?_ GE467.out) | exact HB.out)) hb); have n4_ := Aside0.mk (hbox); have n5_ := Aside0.mk ((by rw [hg]; exact (keep_size (w := w) (g := g) (row := none) (by repeat (first | (with_reducible first | exact HK.out | apply KeepBut.set_ | apply keep_drewN | apply keep_drew | apply keep_alloc | refine keep_far ?_ GW467.out _) | exact HK.out))) : w.heap.size ≤ gb472)); have n6_ := Aside0.mk ((Nat.le_trans HW0.out (by rw [hg]; exact (keep_size (w := w) (g := g) (row := none) (by repeat (first | (with_reducible first | exact HK.out | apply KeepBut.set_ | apply keep_drewN | apply keep_drew | apply keep_alloc | refine keep_far ?_ GW467.out _) | exact HK.out))) : w.heap.size ≤ gb472) : w0.heap.size ≤ gb472)); have n7_ := Aside0.mk ((by rw [hg]; exact Nat.ne_of_lt (blk_lt (g := gb467) (o := .cells #[.int .i64 0, .int .i64 0] 51 (0, 0)) (by (with_reducible repeat (first | refine blk_drewN ?_ _ | refine blk_drew ?_ | refine blk_alloc ?_ _)); exact BK467.out)) : gb467 ≠ gb472)); have n8_ := Aside0.mk ((by rw [hg]; exact Nat.ne_of_gt (blk_lt (g := gb467) (o := .cells #[.int .i64 0, .int .i64 0] 51 (0, 0)) (by (with_reducible repeat (first | refine blk_drewN ?_ _ | refine blk_drew ?_ | refine blk_alloc ?_ _)); exact BK467.out)) : gb472 ≠ gb467)); have n9_ := Aside0.mk ((by rw [hg]; exact Nat.ne_of_lt (IsS92.lt (show IsS92 w0 _ g s0_0 t471 from by repeat (first | (with_reducible first | exact HI0.out | apply IsS92.alloc | apply IsS92.drewN | apply IsS92.drew | apply IsS92.set_1 | refine IsS92.far ?_ NB0_467.out _) | exact HI0.out))) : g ≠ gb472)); have n10_ := Aside0.mk ((by rw [hg]; exact Nat.ne_of_gt (IsS92.lt (show IsS92 w0 _ g s0_0 t471 from by repeat (first | (with_reducible first | exact HI0.out | apply IsS92.alloc | apply IsS92.drewN | apply IsS92.drew | apply IsS92.set_1 | refine IsS92.far ?_ NB0_467.out _) | exact HI0.out))) : gb472 ≠ g)); clear HI0; clear BK467; clear HK; clear HB; have HI0 := n0_; have BK467 := n1_; have HK := n2_; have HB := n3_; have BK472 := n4_; have GW472 := n5_; have GE472 := n6_; have NB467_472 := n7_; have NB472_467 := n8_; have NB0_472 := n9_; have NB472_0 := n10_; clear n0_ n1_ n2_ n3_ n4_ n5_ n6_ n7_ n8_ n9_ n10_; clear hb hbox hg; have hnb28 := NB472_467.out; have hnc28 := NB467_472.out; have hnb29 := NB472_0.out; have hnc29 := NB0_472.out; have hcz30_0 : w27.cell? ⟨gb472, 0, none⟩ = some (.int .i64 0) := (blk_cell BK472.out 0).trans rfl; have hcz30_1 : w27.cell? ⟨gb472, 1, none⟩ = some (.int .i64 0) := (blk_cell BK472.out 1).trans rfl; have hfz30_0 := blk_frozen BK472.out 0; have hfz30_1 := blk_frozen BK472.out 1) | ((with_reducible refine gate_callee (f := 84) rfl ?_); refine goesL_ (some 14) rfl rfl Try.func84 (by kernel_rfl) rfl #[.pointer (some ⟨g, 0, none⟩), .int .i64 a1] rfl (by (try simp only [List.map_toArray, List.map_cons, List.map_nil]); first | done | rfl | (simp only [List.length_drop, List.length_take]; rfl)) ?_; (with_reducible refine (spec_l20Rd_odd.calls k g s0_0 t471 a1 false t474 w0 _ ?side1 ?side2 A5.out).mono ?_); (case side1 => repeat (first | (with_reducible first | exact HI0.out | apply IsS92.alloc | apply IsS92.drewN | apply IsS92.drew | apply IsS92.set_1 | refine IsS92.far ?_ NB0_467.out _ | refine IsS92.far ?_ NB0_472.out _) | exact HI0.out)); (case side2 => repeat (first | (with_reducible first | exact HB.out | apply below_alloc | apply pw_below_drewN | apply below_drew1 | refine below_set ?_ (IsS92.ge HI0.out) | refine below_set ?_ GE467.out | refine below_set ?_ GE472.out) | exact HB.out)); rintro e w31 ⟨rfl, hi, hb, hk⟩; refine ⟨_, rfl, ?_⟩; have n0_ := Aside0.mk (KeepBut.blk hk (g' := gb467) (o := .cells #[.int .i64 0, .int .i64 0] 51 (0, 0)) (by (with_reducible repeat (first | refine blk_drewN ?_ _ | refine blk_drew ?_ | refine blk_alloc ?_ _)); refine blk_far ?_ NB467_472.out _; (with_reducible repeat (first | refine blk_drewN ?_ _ | refine blk_drew ?_ | refine blk_alloc ?_ _)); refine blk_far ?_ NB467_472.out _; (with_reducible repeat (first | refine blk_drewN ?_ _ | refine blk_drew ?_ | refine blk_alloc ?_ _)); exact BK467.out) NB467_0.out (by simp)); have n1_ := Aside0.mk (KeepBut.blk hk (g' := gb472) (o := .cells #[.int .i64 t468, .int .i64 (wrap64 (1 + t470))] 51 (0, 0)) (by (with_reducible repeat (first | refine blk_drewN ?_ _ | refine blk_drew ?_ | refine blk_alloc ?_ _)); refine blk_put (cs := #[.int .i64 t468, .int .i64 0]) ?_ 1 _ rfl; (with_reducible repeat (first | refine blk_drewN ?_ _ | refine blk_drew ?_ | refine blk_alloc ?_ _)); refine blk_put (cs := #[.int .i64 0, .int .i64 0]) ?_ 0 _ rfl; (with_reducible repeat (first | refine blk_drewN ?_ _ | refine blk_drew ?_ | refine blk_alloc ?_ _)); exact BK472.out) NB472_0.out (by simp)); have n2_ := Aside0.mk (KeepBut.trans (by repeat (first | (with_reducible first | exact HK.out | apply KeepBut.set_ | apply keep_drewN | apply keep_drew | apply keep_alloc | refine keep_far ?_ GW467.out _ | refine keep_far ?_ GW472.out _) | exact HK.out)) hk (.inl rfl)); have n3_ := Aside0.mk (hb); have n4_ := Aside0.mk (hi); clear BK467; clear BK472; clear HK; clear HB; clear HI0; have BK467 := n0_; have BK472 := n1_; have HK := n2_; have HB := n3_; have HI0 := n4_; clear n0_ n1_ n2_ n3_ n4_; (try clear hb); (try clear hb2); (try clear hk); (try clear hi); have hcz32_0 : w31.cell? ⟨gb472, 0, none⟩ = some (.int .i64 t468) := (blk_cell BK472.out 0).trans rfl; have hcz32_1 : w31.cell? ⟨gb472, 1, none⟩ = some (.int .i64 (wrap64 (1 + t470))) := (blk_cell BK472.out 1).trans rfl; have hfz32_0 := blk_frozen BK472.out 0; have hfz32_1 := blk_frozen BK472.out 1; have hnb33 := NB467_0.out; have hnc33 := NB0_467.out; have hcz34_0 : w31.cell? ⟨gb467, 0, none⟩ = some (.int .i64 0) := (blk_cell BK467.out 0).trans rfl; have hcz34_1 : w31.cell? ⟨gb467, 1, none⟩ = some (.int .i64 0) := (blk_cell BK467.out 1).trans rfl; have hfz34_0 := blk_frozen BK467.out 0; have hfz34_1 := blk_frozen BK467.out 1))
    refine bodyPost_ret (results_cell_row rfl _ _ gb467 51 #[.int .i64 t468, .int .i64 (wrap64 (1 + t470))] (0, 0) _ rfl (by (with_reducible repeat (first | refine blk_drewN ?_ _ | refine blk_drew ?_ | refine blk_alloc ?_ _)); refine blk_put (cs := #[.int .i64 t468, .int .i64 0]) ?_ 1 _ rfl; (with_reducible repeat (first | refine blk_drewN ?_ _ | refine blk_drew ?_ | refine blk_alloc ?_ _)); refine blk_put (cs := #[.int .i64 0, .int .i64 0]) ?_ 0 _ rfl; (with_reducible repeat (first | refine blk_drewN ?_ _ | refine blk_drew ?_ | refine blk_alloc ?_ _)); exact BK467.out) Try.underlying51 rfl (by kernel_rfl)) rfl ?_
    exact ⟨by first | rfl | (simp [errW_none, errW_some] <;> rfl) | (simp [*, errW_none, errW_some] <;> rfl), by repeat (first | (with_reducible first | exact HI0.out | apply IsS92.alloc | apply IsS92.drewN | apply IsS92.drew | apply IsS92.set_1 | refine IsS92.far ?_ NB0_467.out _ | refine IsS92.far ?_ NB0_472.out _) | exact HI0.out), by repeat (first | (with_reducible first | exact HB.out | apply below_alloc | apply pw_below_drewN | apply below_drew1 | refine below_set ?_ (IsS92.ge HI0.out) | refine below_set ?_ GE467.out | refine below_set ?_ GE472.out) | exact HB.out), by repeat (first | (with_reducible first | exact HK.out | apply KeepBut.set_ | apply keep_drewN | apply keep_drew | apply keep_alloc | refine keep_far ?_ GW467.out _ | refine keep_far ?_ GW472.out _) | exact HK.out)⟩

end Go.Proofs.Ytkmpcmhkfnoeiaa.P
-- Laid by a program of this work.
namespace Go.Proofs.Ytkmpcmhkfnoeiaa.P
open Go.RowKit Go.Proofs.YtkmpcmhkfnoeiaaW.PrintWords Go.Proofs.YtkmpcmhkfnoeiaaW.PrintLast Go.Proofs.YtkmpcmhkfnoeiaaW.PrintMore
attribute [local go_sem] max2_int min2_int max_two min_two max_three min_three max_four min_four   -- for this text's walks alone
set_option linter.unusedVariables false
set_option linter.unusedSimpArgs false

/-! ### spec_DrawTraffic: function 37 -/
def spec_DrawTraffic.f (k : Nat) (l0 : List Int) : Option (Int × Int × Int × Int × List Int) := (spec_l20Open.f l0).bind fun bt528 => ((spec_l20Flow.f k bt528.1 bt528.2 0).bind fun bt531 => ((spec_l20Link.f k bt528.1 bt531.2.2 0).bind fun bt535 => ((spec_l20Amounts.f k bt528.1 bt535.2.2 bt531.1 bt531.2.1 0).bind fun bt538 => (some (bt531.1, bt531.2.1, bt535.1, bt535.2.1, bt538.1)))))
theorem spec_DrawTraffic.mono : ∀ a0 k, LeO (spec_DrawTraffic.f k a0) (spec_DrawTraffic.f (k + 1) a0) := by
  intro a0 k
  unfold spec_DrawTraffic.f
  repeat' first
      | (with_reducible exact spec_l20Amounts.mono _ _ _ _ _ _)
      | (with_reducible exact spec_l20Flow.mono _ _ _ _)
      | (with_reducible exact spec_l20Link.mono _ _ _ _)
      | (with_reducible exact LeO.refl _)
      | (with_reducible exact LeO.none _)
      | (with_reducible refine LeO.ite ?_ ?_)
      | (with_reducible refine LeO.bind ?_ (fun _ => ?_))
      | exact spec_l20Amounts.mono _ _ _ _ _ _
      | exact spec_l20Flow.mono _ _ _ _
      | exact spec_l20Link.mono _ _ _ _
      | exact LeO.none _
      | refine LeO.ite ?_ ?_
      | refine LeO.bind ?_ (fun _ => ?_)
def spec_DrawTraffic.T3 : Bool × List (List Nat × List Nat) := (true, [([], []), ([], []), ([1], [1]), ([], []), ([], []), ([3, 4, 2], [3, 4]), ([0, 5, 0], [0]), ([2, 6, 0, 1, 2, 6], [2]), ([5, 7, 0, 1, 2, 3, 4, 5, 6, 7], [5])])
def spec_DrawTraffic.B3 : List Nat := [0, 0, 2, 0, 0, 30, 63, 127, 255]
theorem spec_DrawTraffic.tab3 : rtab .any (opsOf Try.f37 3) = spec_DrawTraffic.T3 := by kernel_rfl
theorem spec_DrawTraffic.bits3 : waitsOk spec_DrawTraffic.T3.2 spec_DrawTraffic.B3 = true := by kernel_rfl
set_option maxHeartbeats 8000000 in
set_option maxRecDepth 100000 in
theorem spec_DrawTraffic.calls (k : Nat) (A0 : Option Addr) (c0 : Nat) (l0 : List Int) (r1 : Int) (r2 : Int) (r3 : Int) (r4 : Int) (r5 : List Int) (w : World) (hr0 : Kd.C (Kd.int .u8) w A0 l0.length l0) (hc0 : l0.length ≤ c0) (h : spec_DrawTraffic.f k l0 = some (r1, r2, r3, r4, r5)) :
    Calls Try.prog 37 #[.slice A0 l0.length c0] w fun e w' => ∃ v4_ : Value, e = .returned (.tuple #[.agg #[.int .i64 r1, .int .i64 r2], .agg #[.int .i64 r3, .int .i64 r4], v4_]) ∧ Kd.R (Kd.int .i64) 3 w' w.heap.size (fun _ => True) v4_ r5 ∧ Below w.heap.size w w' := by
  have hu41 := Try.underlying41
  have hu51 := Try.underlying51
  have HR0 := Aside0.mk hr0
  have HC0 := Aside0.mk hc0
  clear hr0 hc0
  have HB := Aside0.mk (Below.refl w.heap.size w)
  have H : ((spec_l20Open.f l0).bind fun bt528 => ((spec_l20Flow.f k bt528.1 bt528.2 0).bind fun bt531 => ((spec_l20Link.f k bt528.1 bt531.2.2 0).bind fun bt535 => ((spec_l20Amounts.f k bt528.1 bt535.2.2 bt531.1 bt531.2.1 0).bind fun bt538 => (some (bt531.1, bt531.2.1, bt535.1, bt535.2.1, bt538.1)))))) = some (r1, r2, r3, r4, r5) := h
  clear h
  replace H := Option.bind_eq_some_iff.mp H
  obtain ⟨⟨t528, t529⟩, A20, H⟩ := H
  replace H : ((spec_l20Flow.f k t528 t529 0).bind fun bt531 => ((spec_l20Link.f k t528 bt531.2.2 0).bind fun bt535 => ((spec_l20Amounts.f k t528 bt535.2.2 bt531.1 bt531.2.1 0).bind fun bt538 => (some (bt531.1, bt531.2.1, bt535.1, bt535.2.1, bt538.1))))) = some (r1, r2, r3, r4, r5) := H
  have A2 := Aside0.mk A20
  clear A20
  replace H := Option.bind_eq_some_iff.mp H
  obtain ⟨⟨t531, t532, t533⟩, A30, H⟩ := H
  replace H : ((spec_l20Link.f k t528 t533 0).bind fun bt535 => ((spec_l20Amounts.f k t528 bt535.2.2 t531 t532 0).bind fun bt538 => (some (t531, t532, bt535.1, bt535.2.1, bt538.1)))) = some (r1, r2, r3, r4, r5) := H
  have A3 := Aside0.mk A30
  clear A30
  replace H := Option.bind_eq_some_iff.mp H
  obtain ⟨⟨t535, t536, t537⟩, A40, H⟩ := H
  replace H : ((spec_l20Amounts.f k t528 t537 t531 t532 0).bind fun bt538 => (some (t531, t532, t535, t536, bt538.1))) = some (r1, r2, r3, r4, r5) := H
  have A4 := Aside0.mk A40
  clear A40
  replace H := Option.bind_eq_some_iff.mp H
  obtain ⟨⟨t538, t541⟩, A50, H⟩ := H
  replace H : (some (t531, t532, t535, t536, t538)) = some (r1, r2, r3, r4, r5) := H
  have A5 := Aside0.mk A50
  clear A50
  simp only [Option.some.injEq, Prod.mk.injEq] at H
  obtain ⟨rfl, rfl, rfl, rfl, rfl⟩ := H
  go_enter Try.func37, Try.ntmps37
  try go_wp2_with (first | ((with_reducible refine gate_dst (N := 2) rfl ?_); refine box_event ?hg (N := 2) ?hd (cs := #[.int .i64 0, .int .i64 0]) (t := 41) ?hr ?_; (case hd => rfl); (case hg => rfl); (case hr => first | (go_simp; done) | (go_simp; rfl)); intro gb526 hg w6 hbox hb; have n0_ := Aside0.mk (below_step (by repeat (first | (with_reducible first | exact HB.out | apply below_alloc | apply pw_below_drewN | apply below_drew1) | exact HB.out)) hb); have n1_ := Aside0.mk (hbox); have n2_ := Aside0.mk ((by rw [hg]; exact (below_size (by repeat (first | (with_reducible first | exact HB.out | apply below_alloc | apply pw_below_drewN | apply below_drew1) | exact HB.out))) : w.heap.size ≤ gb526)); have n3_ := Aside0.mk ((by rw [hg]; exact (below_size (by repeat (first | (with_reducible first | exact HB.out | apply below_alloc | apply pw_below_drewN | apply below_drew1) | exact HB.out))) : w.heap.size ≤ gb526)); clear HB; have HB := n0_; have BK526 := n1_; have GW526 := n2_; have GE526 := n3_; clear n0_ n1_ n2_ n3_; clear hb hbox hg) | ((with_reducible refine gate_dst (N := 3) rfl ?_); refine box_event ?hg (N := 3) ?hd (cs := #[.int .i64 0, .int .i64 0]) (t := 51) ?hr ?_; (case hd => rfl); (case hg => rfl); (case hr => first | (go_simp; done) | (go_simp; rfl)); intro gb527 hg w7 hbox hb; have n0_ := Aside0.mk (blk_below (g := gb526) (o := .cells #[.int .i64 0, .int .i64 0] 41 (0, 0)) (by (with_reducible repeat (first | refine blk_drewN ?_ _ | refine blk_drew ?_ | refine blk_alloc ?_ _)); exact BK526.out) hb); have n1_ := Aside0.mk (below_step (by repeat (first | (with_reducible first | exact HB.out | apply below_alloc | apply pw_below_drewN | apply below_drew1 | refine below_set ?_ GE526.out) | exact HB.out)) hb); have n2_ := Aside0.mk (hbox); have n3_ := Aside0.mk ((by rw [hg]; exact (below_size (by repeat (first | (with_reducible first | exact HB.out | apply below_alloc | apply pw_below_drewN | apply below_drew1 | refine below_set ?_ GE526.out) | exact HB.out))) : w.heap.size ≤ gb527)); have n4_ := Aside0.mk ((by rw [hg]; exact (below_size (by repeat (first | (with_reducible first | exact HB.out | apply below_alloc | apply pw_below_drewN | apply below_drew1 | refine below_set ?_ GE526.out) | exact HB.out))) : w.heap.size ≤ gb527)); have n5_ := Aside0.mk ((by rw [hg]; exact Nat.ne_of_lt (blk_lt (g := gb526) (o := .cells #[.int .i64 0, .int .i64 0] 41 (0, 0)) (by (with_reducible repeat (first | refine blk_drewN ?_ _ | refine blk_drew ?_ | refine blk_alloc ?_ _)); exact BK526.out)) : gb526 ≠ gb527)); have n6_ := Aside0.mk ((by rw [hg]; exact Nat.ne_of_gt (blk_lt (g := gb526) (o := .cells #[.int .i64 0, .int .i64 0] 41 (0, 0)) (by (with_reducible repeat (first | refine blk_drewN ?_ _ | refine blk_drew ?_ | refine blk_alloc ?_ _)); exact BK526.out)) : gb527 ≠ gb526)); clear BK526; clear HB; have BK526 := n0_; have HB := n1_; have BK527 := n2_; have GW527 := n3_; have GE527 := n4_; have NB526_527 := n5_; have NB527_526 := n6_; clear n0_ n1_ n2_ n3_ n4_ n5_ n6_; clear hb hbox hg) | ((with_reducible refine gate_callee (f := 58) rfl ?_); refine goesL_ (some 8) rfl rfl Try.func58 (by kernel_rfl) rfl #[.slice A0 l0.length c0] rfl (by (try simp only [List.map_toArray, List.map_cons, List.map_nil]); first | done | rfl | (simp only [List.length_drop, List.length_take]; rfl)) ?_; (with_reducible refine (spec_l20Open.calls _ _ l0 t528 t529 w _ ?side1 ?side2 ?side3 A2.out).mono ?_); (case side1 => repeat (first | (with_reducible first | exact HB.out | apply below_alloc | apply pw_below_drewN | apply below_drew1 | refine below_set ?_ GE526.out | refine below_set ?_ GE527.out) | exact HB.out)); (case side2 => exact HR0.out); (case side3 => exact HC0.out); rintro e w8 ⟨g530, rfl, hi, hb, hb2⟩; refine ⟨_, rfl, ?_⟩; have n0_ := Aside0.mk (blk_below (g := gb526) (o := .cells #[.int .i64 0, .int .i64 0] 41 (0, 0)) (by (with_reducible repeat (first | refine blk_drewN ?_ _ | refine blk_drew ?_ | refine blk_alloc ?_ _)); exact BK526.out) hb2); have n1_ := Aside0.mk (blk_below (g := gb527) (o := .cells #[.int .i64 0, .int .i64 0] 51 (0, 0)) (by (with_reducible repeat (first | refine blk_drewN ?_ _ | refine blk_drew ?_ | refine blk_alloc ?_ _)); exact BK527.out) hb2); have n2_ := Aside0.mk (hb); have n3_ := Aside0.mk (hi); have n4_ := Aside0.mk (IsS92.ne_blk hi (blk_below (g := gb526) (o := .cells #[.int .i64 0, .int .i64 0] 41 (0, 0)) (by (with_reducible repeat (first | refine blk_drewN ?_ _ | refine blk_drew ?_ | refine blk_alloc ?_ _)); exact BK526.out) hb2) (by decide)); have n5_ := Aside0.mk (Ne.symm (IsS92.ne_blk hi (blk_below (g := gb526) (o := .cells #[.int .i64 0, .int .i64 0] 41 (0, 0)) (by (with_reducible repeat (first | refine blk_drewN ?_ _ | refine blk_drew ?_ | refine blk_alloc ?_ _)); exact BK526.out) hb2) (by decide))); have n6_ := Aside0.mk (IsS92.ne_blk hi (blk_below (g := gb527) (o := .cells #[.int .i64 0, .int .i64 0] 51 (0, 0)) (by (with_reducible repeat (first | refine blk_drewN ?_ _ | refine blk_drew ?_ | refine blk_alloc ?_ _)); exact BK527.out) hb2) (by decide)); have n7_ := Aside0.mk (Ne.symm (IsS92.ne_blk hi (blk_below (g := gb527) (o := .cells #[.int .i64 0, .int .i64 0] 51 (0, 0)) (by (with_reducible repeat (first | refine blk_drewN ?_ _ | refine blk_drew ?_ | refine blk_alloc ?_ _)); exact BK527.out) hb2) (by decide))); clear BK526; clear BK527; clear HB; have BK526 := n0_; have BK527 := n1_; have HB := n2_; have HI530 := n3_; have NB530_526 := n4_; have NB526_530 := n5_; have NB530_527 := n6_; have NB527_530 := n7_; clear n0_ n1_ n2_ n3_ n4_ n5_ n6_ n7_; (try clear hb); (try clear hb2); (try clear hk); (try clear hi)) | ((with_reducible refine gate_callee (f := 66) rfl ?_); refine goesL_ (some 10) rfl rfl Try.func66 (by kernel_rfl) rfl #[.pointer (some ⟨g530, 0, none⟩), .int .i64 0] rfl (by (try simp only [List.map_toArray, List.map_cons, List.map_nil]); first | done | rfl | (simp only [List.length_drop, List.length_take]; rfl)) ?_; (with_reducible refine (spec_l20Flow.calls k g530 t528 t529 0 t531 t532 t533 w _ ?side1 ?side2 A3.out).mono ?_); (case side1 => repeat (first | (with_reducible first | exact HI530.out | apply IsS92.alloc | apply IsS92.drewN | apply IsS92.drew | apply IsS92.set_1 | refine IsS92.far ?_ NB530_526.out _ | refine IsS92.far ?_ NB530_527.out _) | exact HI530.out)); (case side2 => repeat (first | (with_reducible first | exact HB.out | apply below_alloc | apply pw_below_drewN | apply below_drew1 | refine below_set ?_ (IsS92.ge HI530.out) | refine below_set ?_ GE526.out | refine below_set ?_ GE527.out) | exact HB.out)); rintro e w9 ⟨rfl, hi, hb, hk⟩; refine ⟨_, rfl, ?_⟩; have n0_ := Aside0.mk (KeepBut.blk hk (g' := gb526) (o := .cells #[.int .i64 0, .int .i64 0] 41 (0, 0)) (by (with_reducible repeat (first | refine blk_drewN ?_ _ | refine blk_drew ?_ | refine blk_alloc ?_ _)); exact BK526.out) NB526_530.out (by simp)); have n1_ := Aside0.mk (KeepBut.blk hk (g' := gb527) (o := .cells #[.int .i64 0, .int .i64 0] 51 (0, 0)) (by (with_reducible repeat (first | refine blk_drewN ?_ _ | refine blk_drew ?_ | refine blk_alloc ?_ _)); exact BK527.out) NB527_530.out (by simp)); have n2_ := Aside0.mk (hb); have n3_ := Aside0.mk (hi); clear BK526; clear BK527; clear HB; clear HI530; have BK526 := n0_; have BK527 := n1_; have HB := n2_; have HI530 := n3_; clear n0_ n1_ n2_ n3_; (try clear hb); (try clear hb2); (try clear hk); (try clear hi)) | ((with_reducible refine gate_dst (N := 6) rfl ?_); refine box_event ?hg (N := 6) ?hd (cs := #[.int .i64 0, .int .i64 0]) (t := 41) ?hr ?_; (case hd => rfl); (case hg => rfl); (case hr => first | (go_simp; done) | (go_simp; rfl)); intro gb534 hg w10 hbox hb; have n0_ := Aside0.mk (blk_below (g := gb526) (o := .cells #[.int .i64 0, .int .i64 0] 41 (0, 0)) (by (with_reducible repeat (first | refine blk_drewN ?_ _ | refine blk_drew ?_ | refine blk_alloc ?_ _)); exact BK526.out) hb); have n1_ := Aside0.mk (blk_below (g := gb527) (o := .cells #[.int .i64 0, .int .i64 0] 51 (0, 0)) (by (with_reducible repeat (first | refine blk_drewN ?_ _ | refine blk_drew ?_ | refine blk_alloc ?_ _)); exact BK527.out) hb); have n2_ := Aside0.mk (IsS92.below (by repeat (first | (with_reducible first | exact HI530.out | apply IsS92.alloc | apply IsS92.drewN | apply IsS92.drew | apply IsS92.set_1 | refine IsS92.far ?_ NB530_526.out _ | refine IsS92.far ?_ NB530_527.out _) | exact HI530.out)) hb); have n3_ := Aside0.mk (below_step (by repeat (first | (with_reducible first | exact HB.out | apply below_alloc | apply pw_below_drewN | apply below_drew1 | refine below_set ?_ (IsS92.ge HI530.out) | refine below_set ?_ GE526.out | refine below_set ?_ GE527.out) | exact HB.out)) hb); have n4_ := Aside0.mk (hbox); have n5_ := Aside0.mk ((by rw [hg]; exact (below_size (by repeat (first | (with_reducible first | exact HB.out | apply below_alloc | apply pw_below_drewN | apply below_drew1 | refine below_set ?_ (IsS92.ge HI530.out) | refine below_set ?_ GE526.out | refine below_set ?_ GE527.out) | exact HB.out))) : w.heap.size ≤ gb534)); have n6_ := Aside0.mk ((by rw [hg]; exact (below_size (by repeat (first | (with_reducible first | exact HB.out | apply below_alloc | apply pw_below_drewN | apply below_drew1 | refine below_set ?_ (IsS92.ge HI530.out) | refine below_set ?_ GE526.out | refine below_set ?_ GE527.out) | exact HB.out))) : w.heap.size ≤ gb534)); have n7_ := Aside0.mk ((by rw [hg]; exact Nat.ne_of_lt (blk_lt (g := gb526) (o := .cells #[.int .i64 0, .int .i64 0] 41 (0, 0)) (by (with_reducible repeat (first | refine blk_drewN ?_ _ | refine blk_drew ?_ | refine blk_alloc ?_ _)); exact BK526.out)) : gb526 ≠ gb534)); have n8_ := Aside0.mk ((by rw [hg]; exact Nat.ne_of_gt (blk_lt (g := gb526) (o := .cells #[.int .i64 0, .int .i64 0] 41 (0, 0)) (by (with_reducible repeat (first | refine blk_drewN ?_ _ | refine blk_drew ?_ | refine blk_alloc ?_ _)); exact BK526.out)) : gb534 ≠ gb526)); have n9_ := Aside0.mk ((by rw [hg]; exact Nat.ne_of_lt (blk_lt (g := gb527) (o := .cells #[.int .i64 0, .int .i64 0] 51 (0, 0)) (by (with_reducible repeat (first | refine blk_drewN ?_ _ | refine blk_drew ?_ | refine blk_alloc ?_ _)); exact BK527.out)) : gb527 ≠ gb534)); have n10_ := Aside0.mk ((by rw [hg]; exact Nat.ne_of_gt (blk_lt (g := gb527) (o := .cells #[.int .i64 0, .int .i64 0] 51 (0, 0)) (by (with_reducible repeat (first | refine blk_drewN ?_ _ | refine blk_drew ?_ | refine blk_alloc ?_ _)); exact BK527.out)) : gb534 ≠ gb527)); have n11_ := Aside0.mk ((by rw [hg]; exact Nat.ne_of_lt (IsS92.lt (show IsS92 w _ g530 t528 t533 from by repeat (first | (with_reducible first | exact HI530.out | apply IsS92.alloc | apply IsS92.drewN | apply IsS92.drew | apply IsS92.set_1 | refine IsS92.far ?_ NB530_526.out _ | refine IsS92.far ?_ NB530_527.out _) | exact HI530.out))) : g530 ≠ gb534)); have n12_ := Aside0.mk ((by rw [hg]; exact Nat.ne_of_gt (IsS92.lt (show IsS92 w _ g530 t528 t533 from by repeat (first | (with_reducible first | exact HI530.out | apply IsS92.alloc | apply IsS92.drewN | apply IsS92.drew | apply IsS92.set_1 | refine IsS92.far ?_ NB530_526.out _ | refine IsS92.far ?_ NB530_527.out _) | exact HI530.out))) : gb534 ≠ g530)); clear BK526; clear BK527; clear HI530; clear HB; have BK526 := n0_; have BK527 := n1_; have HI530 := n2_; have HB := n3_; have BK534 := n4_; have GW534 := n5_; have GE534 := n6_; have NB526_534 := n7_; have NB534_526 := n8_; have NB527_534 := n9_; have NB534_527 := n10_; have NB530_534 := n11_; have NB534_530 := n12_; clear n0_ n1_ n2_ n3_ n4_ n5_ n6_ n7_ n8_ n9_ n10_ n11_ n12_; clear hb hbox hg; have hnb11 := NB534_526.out; have hnc11 := NB526_534.out; have hnb12 := NB534_527.out; have hnc12 := NB527_534.out; have hnb13 := NB534_530.out; have hnc13 := NB530_534.out; have hcz14_0 : w10.cell? ⟨gb534, 0, none⟩ = some (.int .i64 0) := (blk_cell BK534.out 0).trans rfl; have hcz14_1 : w10.cell? ⟨gb534, 1, none⟩ = some (.int .i64 0) := (blk_cell BK534.out 1).trans rfl; have hfz14_0 := blk_frozen BK534.out 0; have hfz14_1 := blk_frozen BK534.out 1))
  have n0_ : Aside0 (((w10.setCell ⟨gb534, 0, none⟩ (.int .i64 t531)).setCell ⟨gb534, 1, none⟩ (.int .i64 t532)).heap[gb526]? = some (.cells #[.int .i64 0, .int .i64 0] 41 (0, 0))) := ⟨by (with_reducible repeat (first | refine blk_drewN ?_ _ | refine blk_drew ?_ | refine blk_alloc ?_ _)); refine blk_far ?_ NB526_534.out _; (with_reducible repeat (first | refine blk_drewN ?_ _ | refine blk_drew ?_ | refine blk_alloc ?_ _)); refine blk_far ?_ NB526_534.out _; (with_reducible repeat (first | refine blk_drewN ?_ _ | refine blk_drew ?_ | refine blk_alloc ?_ _)); exact BK526.out⟩
  have n1_ : Aside0 (((w10.setCell ⟨gb534, 0, none⟩ (.int .i64 t531)).setCell ⟨gb534, 1, none⟩ (.int .i64 t532)).heap[gb527]? = some (.cells #[.int .i64 0, .int .i64 0] 51 (0, 0))) := ⟨by (with_reducible repeat (first | refine blk_drewN ?_ _ | refine blk_drew ?_ | refine blk_alloc ?_ _)); refine blk_far ?_ NB527_534.out _; (with_reducible repeat (first | refine blk_drewN ?_ _ | refine blk_drew ?_ | refine blk_alloc ?_ _)); refine blk_far ?_ NB527_534.out _; (with_reducible repeat (first | refine blk_drewN ?_ _ | refine blk_drew ?_ | refine blk_alloc ?_ _)); exact BK527.out⟩
  have n2_ : Aside0 (((w10.setCell ⟨gb534, 0, none⟩ (.int .i64 t531)).setCell ⟨gb534, 1, none⟩ (.int .i64 t532)).heap[gb534]? = some (.cells #[.int .i64 t531, .int .i64 t532] 41 (0, 0))) := ⟨by (with_reducible repeat (first | refine blk_drewN ?_ _ | refine blk_drew ?_ | refine blk_alloc ?_ _)); refine blk_put (cs := #[.int .i64 t531, .int .i64 0]) ?_ 1 _ rfl; (with_reducible repeat (first | refine blk_drewN ?_ _ | refine blk_drew ?_ | refine blk_alloc ?_ _)); refine blk_put (cs := #[.int .i64 0, .int .i64 0]) ?_ 0 _ rfl; (with_reducible repeat (first | refine blk_drewN ?_ _ | refine blk_drew ?_ | refine blk_alloc ?_ _)); exact BK534.out⟩
  have n3_ : Aside0 (IsS92 w ((w10.setCell ⟨gb534, 0, none⟩ (.int .i64 t531)).setCell ⟨gb534, 1, none⟩ (.int .i64 t532)) g530 t528 t533) := ⟨by repeat (first | (with_reducible first | exact HI530.out | apply IsS92.alloc | apply IsS92.drewN | apply IsS92.drew | apply IsS92.set_1 | refine IsS92.far ?_ NB530_526.out _ | refine IsS92.far ?_ NB530_527.out _ | refine IsS92.far ?_ NB530_534.out _) | exact HI530.out)⟩
  have n4_ : Aside0 (Below w.heap.size w ((w10.setCell ⟨gb534, 0, none⟩ (.int .i64 t531)).setCell ⟨gb534, 1, none⟩ (.int .i64 t532))) := ⟨by repeat (first | (with_reducible first | exact HB.out | apply below_alloc | apply pw_below_drewN | apply below_drew1 | refine below_set ?_ (IsS92.ge HI530.out) | refine below_set ?_ GE526.out | refine below_set ?_ GE527.out | refine below_set ?_ GE534.out) | exact HB.out)⟩
  (try clear BK526)
  (try clear BK527)
  (try clear BK534)
  (try clear HI530)
  (try clear HB)
  generalize ((w10.setCell ⟨gb534, 0, none⟩ (.int .i64 t531)).setCell ⟨gb534, 1, none⟩ (.int .i64 t532)) = w15 at n0_ n1_ n2_ n3_ n4_ ⊢
  have BK526 := n0_
  have BK527 := n1_
  have BK534 := n2_
  have HI530 := n3_
  have HB := n4_
  clear n0_ n1_ n2_ n3_ n4_
  have n0_ := Aside0.mk (blk_drew BK526.out)
  have n1_ := Aside0.mk (blk_drew BK527.out)
  have n2_ := Aside0.mk (blk_drew BK534.out)
  have n3_ := Aside0.mk (IsS92.drew HI530.out)
  have n4_ := Aside0.mk (below_drew1 HB.out)
  clear BK526
  clear BK527
  clear BK534
  clear HI530
  clear HB
  have BK526 := n0_
  have BK527 := n1_
  have BK534 := n2_
  have HI530 := n3_
  have HB := n4_
  clear n0_ n1_ n2_ n3_ n4_
  refine start_ (n := 9) (S := fun w' => w'.cell? ⟨gb534, 0, none⟩ = some (.int .i64 t531) ∧ w'.cell? ⟨gb534, 1, none⟩ = some (.int .i64 t532)) (ds := []) #[false, false, false, false, false, false, false, false, false] (by kernel_rfl) rfl rfl ⟨(blk_cell BK534.out 0).trans rfl, (blk_cell BK534.out 1).trans rfl⟩ (fun hHeld => ?_); refine with_tabW spec_DrawTraffic.tab3 spec_DrawTraffic.bits3 (fun HT_ HW_ => ?_)
  generalize w15.drew = w16 at BK526 BK527 BK534 HI530 HB hHeld ⊢
  refine pure_ (i := 1) (N := some 12) (v := ?_) (a' := ?_) #[false, true, false, false, false, false, false, false, false] rfl rfl (any_of HT_.out (by kernel_rfl)) (fun _ _ _ h => h) (Or.inl ⟨by rfl, ?_⟩) ?_ ?_
  rotate_left
  · intro w'
    go_simp
    with_reducible rfl
  rotate_left
  · simp only [Act.put, List.setIfInBounds_toArray, List.set_cons_zero, List.set_cons_succ, i64_w, i32_w]
    rfl
  refine pure_ (i := 3) (N := some 14) (v := ?_) (a' := ?_) #[false, true, false, true, false, false, false, false, false] rfl rfl (any_of HT_.out (by kernel_rfl)) (fun _ _ _ h => h) (Or.inl ⟨by rfl, ?_⟩) ?_ ?_
  rotate_left
  · intro w'
    go_simp
    with_reducible rfl
  rotate_left
  · simp only [Act.put, List.setIfInBounds_toArray, List.set_cons_zero, List.set_cons_succ, i64_w, i32_w]
    rfl
  refine take_ (i := 0) (N := some 11) (v := ?_) (a' := ?_) #[true, true, false, true, false, false, false, false, false] rfl rfl (take_ofW HT_.out HW_.out (by kernel_rfl)) (fun _ _ _ h => h) (Or.inl ⟨by rfl, ?_⟩) hHeld ?_ ?_
  rotate_left
  · rintro w' ⟨s0, s1⟩
    go_simp
    with_reducible rfl
  rotate_left
  · simp only [Act.put, List.setIfInBounds_toArray, List.set_cons_zero, List.set_cons_succ, i64_w, i32_w]
    rfl
  refine take_ (i := 4) (N := some 15) (v := ?_) (a' := ?_) #[true, true, false, true, true, false, false, false, false] rfl rfl (take_ofW HT_.out HW_.out (by kernel_rfl)) (fun _ _ _ h => h) (Or.inl ⟨by rfl, ?_⟩) hHeld ?_ ?_
  rotate_left
  · rintro w' ⟨s0, s1⟩
    go_simp
    with_reducible rfl
  rotate_left
  · simp only [Act.put, List.setIfInBounds_toArray, List.set_cons_zero, List.set_cons_succ, i64_w, i32_w]
    rfl
  refine one_ (i := 2) (N := some 13) #[true, true, true, true, true, false, false, false, false] rfl rfl (one_of HT_.out (by kernel_rfl)) (by decide) (fun K hK => ?_)
  refine goes_ Try.func70 (by kernel_rfl) rfl #[.pointer (some ⟨g530, 0, none⟩), .int .i64 0] (by rfl) rfl rfl (by (try simp only [List.map_toArray, List.map_cons, List.map_nil]); first | done | rfl | (simp only [List.length_drop, List.length_take]; rfl)) ?_
  with_reducible refine (spec_l20Link.calls k g530 t528 t533 0 t535 t536 t537 w _ ?side1 ?side2 A4.out).mono ?_
  (case side1 => repeat (first | (with_reducible first | exact HI530.out | apply IsS92.alloc | apply IsS92.drewN | apply IsS92.drew | apply IsS92.set_1 | refine IsS92.far ?_ NB530_526.out _ | refine IsS92.far ?_ NB530_527.out _ | refine IsS92.far ?_ NB530_534.out _) | exact HI530.out))
  (case side2 => repeat (first | (with_reducible first | exact HB.out | apply below_alloc | apply pw_below_drewN | apply below_drew1 | refine below_set ?_ (IsS92.ge HI530.out) | refine below_set ?_ GE526.out | refine below_set ?_ GE527.out | refine below_set ?_ GE534.out) | exact HB.out))
  rintro e w17 ⟨rfl, hi, hb, hk⟩
  refine ⟨_, rfl, ?_⟩
  have n0_ := Aside0.mk (KeepBut.blk hk (g' := gb526) (o := .cells #[.int .i64 0, .int .i64 0] 41 (0, 0)) (by (with_reducible repeat (first | refine blk_drewN ?_ _ | refine blk_drew ?_ | refine blk_alloc ?_ _)); exact BK526.out) NB526_530.out (by simp))
  have n1_ := Aside0.mk (KeepBut.blk hk (g' := gb527) (o := .cells #[.int .i64 0, .int .i64 0] 51 (0, 0)) (by (with_reducible repeat (first | refine blk_drewN ?_ _ | refine blk_drew ?_ | refine blk_alloc ?_ _)); exact BK527.out) NB527_530.out (by simp))
  have n2_ := Aside0.mk (KeepBut.blk hk (g' := gb534) (o := .cells #[.int .i64 t531, .int .i64 t532] 41 (0, 0)) (by (with_reducible repeat (first | refine blk_drewN ?_ _ | refine blk_drew ?_ | refine blk_alloc ?_ _)); exact BK534.out) NB534_530.out (by simp))
  have n3_ := Aside0.mk (hb)
  have n4_ := Aside0.mk (hi)
  clear BK526
  clear BK527
  clear BK534
  clear HB
  clear HI530
  have BK526 := n0_
  have BK527 := n1_
  have BK534 := n2_
  have HB := n3_
  have HI530 := n4_
  clear n0_ n1_ n2_ n3_ n4_
  (try clear hb)
  (try clear hb2)
  (try clear hk)
  (try clear hi)
  refine hK.out _ _ ⟨(blk_cell BK534.out 0).trans rfl, (blk_cell BK534.out 1).trans rfl⟩ (fun hHeld => ?_)
  clear hK K
  refine norm_ (a' := ?_) ?_ ?_
  rotate_left
  · show Act.put _ (some 13) _ = _
    simp only [Act.put, List.setIfInBounds_toArray, List.set_cons_zero, List.set_cons_succ, i64_w, i32_w]
    rfl
  refine one_ (i := 5) (N := some 16) #[true, true, true, true, true, true, false, false, false] rfl rfl (one_of HT_.out (by kernel_rfl)) (by decide) (fun K hK => ?_)
  refine goes_ Try.func67 (by kernel_rfl) rfl #[.pointer (some ⟨g530, 0, none⟩), .agg #[.int .i64 t531, .int .i64 t532], .int .i64 0] (by rfl) rfl rfl (by (try simp only [List.map_toArray, List.map_cons, List.map_nil]); first | done | rfl | (simp only [List.length_drop, List.length_take]; rfl)) ?_
  with_reducible refine (spec_l20Amounts.calls k g530 t528 t537 t531 t532 0 t538 t541 w _ ?side1 ?side2 A5.out).mono ?_
  (case side1 => repeat (first | (with_reducible first | exact HI530.out | apply IsS92.alloc | apply IsS92.drewN | apply IsS92.drew | apply IsS92.set_1 | refine IsS92.far ?_ NB530_526.out _ | refine IsS92.far ?_ NB530_527.out _ | refine IsS92.far ?_ NB530_534.out _) | exact HI530.out))
  (case side2 => repeat (first | (with_reducible first | exact HB.out | apply below_alloc | apply pw_below_drewN | apply below_drew1 | refine below_set ?_ (IsS92.ge HI530.out) | refine below_set ?_ GE526.out | refine below_set ?_ GE527.out | refine below_set ?_ GE534.out) | exact HB.out))
  rintro e w18 ⟨v539, rfl, ho0, hi, hb, hk⟩
  refine ⟨_, rfl, ?_⟩
  have n0_ := Aside0.mk (KeepBut.blk hk (g' := gb526) (o := .cells #[.int .i64 0, .int .i64 0] 41 (0, 0)) (by (with_reducible repeat (first | refine blk_drewN ?_ _ | refine blk_drew ?_ | refine blk_alloc ?_ _)); exact BK526.out) NB526_530.out (by simp))
  have n1_ := Aside0.mk (KeepBut.blk hk (g' := gb527) (o := .cells #[.int .i64 0, .int .i64 0] 51 (0, 0)) (by (with_reducible repeat (first | refine blk_drewN ?_ _ | refine blk_drew ?_ | refine blk_alloc ?_ _)); exact BK527.out) NB527_530.out (by simp))
  have n2_ := Aside0.mk (KeepBut.blk hk (g' := gb534) (o := .cells #[.int .i64 t531, .int .i64 t532] 41 (0, 0)) (by (with_reducible repeat (first | refine blk_drewN ?_ _ | refine blk_drew ?_ | refine blk_alloc ?_ _)); exact BK534.out) NB534_530.out (by simp))
  have n3_ := Aside0.mk (Kd.R_lower ho0 (below_size (by repeat (first | (with_reducible first | exact HB.out | apply below_alloc | apply pw_below_drewN | apply below_drew1 | refine below_set ?_ (IsS92.ge HI530.out) | refine below_set ?_ GE526.out | refine below_set ?_ GE527.out | refine below_set ?_ GE534.out) | exact HB.out))))
  have n4_ := Aside0.mk (hb)
  have n5_ := Aside0.mk (hi)
  clear BK526
  clear BK527
  clear BK534
  clear HB
  clear HI530
  have BK526 := n0_
  have BK527 := n1_
  have BK534 := n2_
  have HO540 := n3_
  have HB := n4_
  have HI530 := n5_
  clear n0_ n1_ n2_ n3_ n4_ n5_
  (try clear hb)
  (try clear hb2)
  (try clear hk)
  (try clear hi)
  (try clear ho0)
  refine hK.out _ _ ⟨(blk_cell BK534.out 0).trans rfl, (blk_cell BK534.out 1).trans rfl⟩ (fun hHeld => ?_)
  clear hK K
  refine norm_ (a' := ?_) ?_ ?_
  rotate_left
  · show Act.put _ (some 16) _ = _
    simp only [Act.put, List.setIfInBounds_toArray, List.set_cons_zero, List.set_cons_succ, i64_w, i32_w]
    rfl
  refine one_ (i := 6) (N := none) #[true, true, true, true, true, true, true, false, false] rfl rfl (one_of HT_.out (by kernel_rfl)) (by decide) (fun K hK => ?_)
  have hs19 : w18.cell? ⟨gb526, 0, none⟩ = some (.int .i64 0) := (blk_cell BK526.out 0).trans rfl
  have hfs19 := blk_frozen BK526.out 0
  have hns19_1 := NB527_526.out
  have hns19_2 := NB534_526.out
  have hms19_1 := NB526_527.out
  have hms19_2 := NB526_534.out
  have hs20 : w18.cell? ⟨gb526, 1, none⟩ = some (.int .i64 0) := (blk_cell BK526.out 1).trans rfl
  have hfs20 := blk_frozen BK526.out 1
  have hns20_1 := NB527_526.out
  have hns20_2 := NB534_526.out
  have hms20_1 := NB526_527.out
  have hms20_2 := NB526_534.out
  refine skip_ (w1 := ?_) (by rfl) rfl ?_ ?_
  rotate_left
  · go_simp
    rfl
  refine hK.out _ _ ⟨((cell_far (p := ⟨gb526, _, none⟩) NB534_526.out _).trans (((cell_far (p := ⟨gb526, _, none⟩) NB534_526.out _).trans (hHeld.1)))), ((cell_far (p := ⟨gb526, _, none⟩) NB534_526.out _).trans (((cell_far (p := ⟨gb526, _, none⟩) NB534_526.out _).trans (hHeld.2))))⟩ (fun hHeld => ?_)
  clear hK K
  refine one_ (i := 7) (N := none) #[true, true, true, true, true, true, true, true, false] rfl rfl (one_of HT_.out (by kernel_rfl)) (by decide) (fun K hK => ?_)
  have hs21 : w18.cell? ⟨gb527, 0, none⟩ = some (.int .i64 0) := (blk_cell BK527.out 0).trans rfl
  have hfs21 := blk_frozen BK527.out 0
  have hns21_0 := NB526_527.out
  have hns21_2 := NB534_527.out
  have hms21_0 := NB527_526.out
  have hms21_2 := NB527_534.out
  have hs22 : w18.cell? ⟨gb527, 1, none⟩ = some (.int .i64 0) := (blk_cell BK527.out 1).trans rfl
  have hfs22 := blk_frozen BK527.out 1
  have hns22_0 := NB526_527.out
  have hns22_2 := NB534_527.out
  have hms22_0 := NB527_526.out
  have hms22_2 := NB527_534.out
  refine skip_ (w1 := ?_) (by rfl) rfl ?_ ?_
  rotate_left
  · go_simp
    rfl
  refine hK.out _ _ ⟨((cell_far (p := ⟨gb527, _, none⟩) NB534_527.out _).trans (((cell_far (p := ⟨gb527, _, none⟩) NB534_527.out _).trans (hHeld.1)))), ((cell_far (p := ⟨gb527, _, none⟩) NB534_527.out _).trans (((cell_far (p := ⟨gb527, _, none⟩) NB534_527.out _).trans (hHeld.2))))⟩ (fun hHeld => ?_)
  clear hK K
  refine pure_ (i := 8) (N := some 4) (v := ?_) (a' := ?_) #[true, true, true, true, true, true, true, true, true] rfl rfl (any_of HT_.out (by kernel_rfl)) (fun _ _ _ h => h) (Or.inl ⟨by rfl, ?_⟩) ?_ ?_
  rotate_left
  · intro w'
    go_simp
    with_reducible rfl
  rotate_left
  · simp only [Act.put, List.setIfInBounds_toArray, List.set_cons_zero, List.set_cons_succ, i64_w, i32_w]
    rfl
  refine done_ (done_of HT_.out (by kernel_rfl)) ?_
  try go_wp2
  refine bodyPost_ret (results_list (rs := [.cell 2 41, .cell 3 51, .tmp 4]) rfl (by simp) (.cell gb526 41 #[.int .i64 t531, .int .i64 t532] (0, 0) _ rfl (by (with_reducible repeat (first | refine blk_drewN ?_ _ | refine blk_drew ?_ | refine blk_alloc ?_ _)); refine blk_far ?_ NB526_527.out _; (with_reducible repeat (first | refine blk_drewN ?_ _ | refine blk_drew ?_ | refine blk_alloc ?_ _)); refine blk_far ?_ NB526_527.out _; (with_reducible repeat (first | refine blk_drewN ?_ _ | refine blk_drew ?_ | refine blk_alloc ?_ _)); refine blk_put (cs := #[.int .i64 t531, .int .i64 0]) ?_ 1 _ rfl; (with_reducible repeat (first | refine blk_drewN ?_ _ | refine blk_drew ?_ | refine blk_alloc ?_ _)); refine blk_put (cs := #[.int .i64 0, .int .i64 0]) ?_ 0 _ rfl; (with_reducible repeat (first | refine blk_drewN ?_ _ | refine blk_drew ?_ | refine blk_alloc ?_ _)); exact BK526.out) Try.underlying41 rfl (by kernel_rfl) (.cell gb527 51 #[.int .i64 t535, .int .i64 t536] (0, 0) _ rfl (by (with_reducible repeat (first | refine blk_drewN ?_ _ | refine blk_drew ?_ | refine blk_alloc ?_ _)); refine blk_put (cs := #[.int .i64 t535, .int .i64 0]) ?_ 1 _ rfl; (with_reducible repeat (first | refine blk_drewN ?_ _ | refine blk_drew ?_ | refine blk_alloc ?_ _)); refine blk_put (cs := #[.int .i64 0, .int .i64 0]) ?_ 0 _ rfl; (with_reducible repeat (first | refine blk_drewN ?_ _ | refine blk_drew ?_ | refine blk_alloc ?_ _)); refine blk_far ?_ NB527_526.out _; (with_reducible repeat (first | refine blk_drewN ?_ _ | refine blk_drew ?_ | refine blk_alloc ?_ _)); refine blk_far ?_ NB527_526.out _; (with_reducible repeat (first | refine blk_drewN ?_ _ | refine blk_drew ?_ | refine blk_alloc ?_ _)); exact BK527.out) Try.underlying51 rfl (by kernel_rfl) (.tmp .nil)))) rfl ?_
  exact ⟨_, by first | rfl | (simp [errW_none, errW_some] <;> rfl) | (simp [*, errW_none, errW_some] <;> rfl), by (with_reducible repeat (first | apply Kd.R_alloc | apply Kd.R_drewN | apply Kd.R_drew)); exact Kd.R_mono (Kd.R_far (p := ⟨gb527, 1, none⟩) (Kd.R_far (p := ⟨gb527, 0, none⟩) (Kd.R_far (p := ⟨gb526, 1, none⟩) (Kd.R_far (p := ⟨gb526, 0, none⟩) (Kd.R_types (Kd.R_types HO540.out BK526.out (by decide)) BK527.out (by decide)) (fun _ hk => hk.1.2) (.int .i64 t531)) (fun _ hk => hk.1.2) (.int .i64 t532)) (fun _ hk => hk.2) (.int .i64 t535)) (fun _ hk => hk.2) (.int .i64 t536)) (fun _ hk => trivial), by repeat (first | (with_reducible first | exact HB.out | apply below_alloc | apply pw_below_drewN | apply below_drew1 | refine below_set ?_ (IsS92.ge HI530.out) | refine below_set ?_ GE526.out | refine below_set ?_ GE527.out | refine below_set ?_ GE534.out) | exact HB.out)⟩

end Go.Proofs.Ytkmpcmhkfnoeiaa.P
-- Laid by a program of this work.
namespace Go.Proofs.Ytkmpcmhkfnoeiaa.P
open Go.RowKit Go.Proofs.YtkmpcmhkfnoeiaaW.PrintWords Go.Proofs.YtkmpcmhkfnoeiaaW.PrintLast Go.Proofs.YtkmpcmhkfnoeiaaW.PrintMore
attribute [local go_sem] max2_int min2_int max_two min_two max_three min_three max_four min_four   -- for this text's walks alone
set_option linter.unusedVariables false
set_option linter.unusedSimpArgs false

/-! ### impl_ceil: function 72 -/
def impl_ceil.f (a0 : Int) (a1 : Int) : Option (Int) := if a1 = 0 then (none) else (some (wrap64 (Int.tdiv (wrap64 ((wrap64 (a0 + a1)) - 1)) a1)))
set_option maxHeartbeats 8000000 in
set_option maxRecDepth 100000 in
theorem impl_ceil.calls (a0 : Int) (a1 : Int) (r : Int) (w : World) (h : impl_ceil.f a0 a1 = some r) :
    Calls Try.prog 72 #[.int .i64 a0, .int .i64 a1] w fun e w' => e = .returned (.int .i64 r) ∧ Drawn0 w w' := by
  have H : (if a1 = 0 then (none) else (some (wrap64 (Int.tdiv (wrap64 ((wrap64 (a0 + a1)) - 1)) a1)))) = some r := h
  clear h
  by_cases c3 : a1 = 0
  · rw [if_pos c3] at H
    exact absurd H (by simp)
  · rw [if_neg c3] at H
    have c3b0 : (a1 == 0) = false := beq_eq_false_iff_ne.mpr c3
    have c3b1 : (a1 != 0) = true := bne_iff_ne.mpr c3
    obtain rfl := Option.some.inj H
    go_enter Try.func72, Try.ntmps72
    go_wp2
    go_ret
    exact ⟨by first | rfl | (simp; done) | (simp [*]; done), by repeat (first | exact Drawn0.refl _ | apply Drawn0.step)⟩

end Go.Proofs.Ytkmpcmhkfnoeiaa.P
-- Laid by a program of this work.
namespace Go.Proofs.Ytkmpcmhkfnoeiaa.P
open Go.RowKit Go.Proofs.YtkmpcmhkfnoeiaaW.PrintWords Go.Proofs.YtkmpcmhkfnoeiaaW.PrintLast Go.Proofs.YtkmpcmhkfnoeiaaW.PrintMore
attribute [local go_sem] max2_int min2_int max_two min_two max_three min_three max_four min_four   -- for this text's walks alone
set_option linter.unusedVariables false
set_option linter.unusedSimpArgs false

/-! ### impl_served: function 71 -/
def impl_served.f (a0_0 : Int) (a0_1 : Int) (a1_0 : Int) (a1_1 : Int) : Option (Bool) := (impl_FlowValid.f a0_0 a0_1).bind fun t544 => (if t544 = true then ((impl_LinkValid.f a1_0 a1_1).bind fun t545 => (if t545 = true then (some (decide (a0_1 ≤ a1_1))) else (some false))) else (some false))
set_option maxHeartbeats 8000000 in
set_option maxRecDepth 100000 in
theorem impl_served.calls (a0_0 : Int) (a0_1 : Int) (a1_0 : Int) (a1_1 : Int) (r : Bool) (w : World) (h : impl_served.f a0_0 a0_1 a1_0 a1_1 = some r) :
    Calls Try.prog 71 #[.agg #[.int .i64 a0_0, .int .i64 a0_1], .agg #[.int .i64 a1_0, .int .i64 a1_1]] w fun e w' => e = .returned (.bool r) ∧ Below w.heap.size w w' := by
  have hu41 := Try.underlying41
  have hu51 := Try.underlying51
  have HB := Aside0.mk (Below.refl w.heap.size w)
  have H : ((impl_FlowValid.f a0_0 a0_1).bind fun t544 => (if t544 = true then ((impl_LinkValid.f a1_0 a1_1).bind fun t545 => (if t545 = true then (some (decide (a0_1 ≤ a1_1))) else (some false))) else (some false))) = some r := h
  clear h
  replace H := Option.bind_eq_some_iff.mp H
  obtain ⟨t544, A30, H⟩ := H
  replace H : (if t544 = true then ((impl_LinkValid.f a1_0 a1_1).bind fun t545 => (if t545 = true then (some (decide (a0_1 ≤ a1_1))) else (some false))) else (some false)) = some r := H
  have A3 := Aside0.mk A30
  clear A30
  by_cases c4 : t544 = true
  · subst c4
    have H1 : ((impl_LinkValid.f a1_0 a1_1).bind fun t545 => (if t545 = true then (some (decide (a0_1 ≤ a1_1))) else (some false))) = some r := by rw [if_pos rfl] at H; exact H
    clear H
    have H := H1
    clear H1
    replace H := Option.bind_eq_some_iff.mp H
    obtain ⟨t545, A50, H⟩ := H
    replace H : (if t545 = true then (some (decide (a0_1 ≤ a1_1))) else (some false)) = some r := H
    have A5 := Aside0.mk A50
    clear A50
    by_cases c6 : t545 = true
    · subst c6
      have H1 : (some (decide (a0_1 ≤ a1_1))) = some r := by rw [if_pos rfl] at H; exact H
      clear H
      have H := H1
      clear H1
      obtain rfl := Option.some.inj H
      go_enter Try.func71, Try.ntmps71
      go_wp2_with (first | ((with_reducible refine gate_dst (N := 2) rfl ?_); refine box_event ?hg (N := 2) ?hd (cs := #[.int .i64 a0_0, .int .i64 a0_1]) (t := 41) ?hr ?_; (case hd => rfl); (case hg => rfl); (case hr => first | (go_simp; done) | (go_simp; rfl)); intro gb542 hg w7 hbox hb; have n0_ := Aside0.mk (below_step (by repeat (first | (with_reducible first | exact HB.out | apply below_alloc | apply pw_below_drewN | apply below_drew1) | exact HB.out)) hb); have n1_ := Aside0.mk (hbox); have n2_ := Aside0.mk ((by rw [hg]; exact (below_size (by repeat (first | (with_reducible first | exact HB.out | apply below_alloc | apply pw_below_drewN | apply below_drew1) | exact HB.out))) : w.heap.size ≤ gb542)); have n3_ := Aside0.mk ((by rw [hg]; exact (below_size (by repeat (first | (with_reducible first | exact HB.out | apply below_alloc | apply pw_below_drewN | apply below_drew1) | exact HB.out))) : w.heap.size ≤ gb542)); clear HB; have HB := n0_; have BK542 := n1_; have GW542 := n2_; have GE542 := n3_; clear n0_ n1_ n2_ n3_; clear hb hbox hg) | ((with_reducible refine gate_dst (N := 3) rfl ?_); refine box_event ?hg (N := 3) ?hd (cs := #[.int .i64 a1_0, .int .i64 a1_1]) (t := 51) ?hr ?_; (case hd => rfl); (case hg => rfl); (case hr => first | (go_simp; done) | (go_simp; rfl)); intro gb543 hg w8 hbox hb; have n0_ := Aside0.mk (blk_below (g := gb542) (o := .cells #[.int .i64 a0_0, .int .i64 a0_1] 41 (0, 0)) (by (with_reducible repeat (first | refine blk_drewN ?_ _ | refine blk_drew ?_ | refine blk_alloc ?_ _)); exact BK542.out) hb); have n1_ := Aside0.mk (below_step (by repeat (first | (with_reducible first | exact HB.out | apply below_alloc | apply pw_below_drewN | apply below_drew1 | refine below_set ?_ GE542.out) | exact HB.out)) hb); have n2_ := Aside0.mk (hbox); have n3_ := Aside0.mk ((by rw [hg]; exact (below_size (by repeat (first | (with_reducible first | exact HB.out | apply below_alloc | apply pw_below_drewN | apply below_drew1 | refine below_set ?_ GE542.out) | exact HB.out))) : w.heap.size ≤ gb543)); have n4_ := Aside0.mk ((by rw [hg]; exact (below_size (by repeat (first | (with_reducible first | exact HB.out | apply below_alloc | apply pw_below_drewN | apply below_drew1 | refine below_set ?_ GE542.out) | exact HB.out))) : w.heap.size ≤ gb543)); have n5_ := Aside0.mk ((by rw [hg]; exact Nat.ne_of_lt (blk_lt (g := gb542) (o := .cells #[.int .i64 a0_0, .int .i64 a0_1] 41 (0, 0)) (by (with_reducible repeat (first | refine blk_drewN ?_ _ | refine blk_drew ?_ | refine blk_alloc ?_ _)); exact BK542.out)) : gb542 ≠ gb543)); have n6_ := Aside0.mk ((by rw [hg]; exact Nat.ne_of_gt (blk_lt (g := gb542) (o := .cells #[.int .i64 a0_0, .int .i64 a0_1] 41 (0, 0)) (by (with_reducible repeat (first | refine blk_drewN ?_ _ | refine blk_drew ?_ | refine blk_alloc ?_ _)); exact BK542.out)) : gb543 ≠ gb542)); clear BK542; clear HB; have BK542 := n0_; have HB := n1_; have BK543 := n2_; have GW543 := n3_; have GE543 := n4_; have NB542_543 := n5_; have NB543_542 := n6_; clear n0_ n1_ n2_ n3_ n4_ n5_ n6_; clear hb hbox hg; have hnb9 := NB542_543.out; have hnc9 := NB543_542.out; have hcz10_0 : w8.cell? ⟨gb542, 0, none⟩ = some (.int .i64 a0_0) := (blk_cell BK542.out 0).trans rfl; have hcz10_1 : w8.cell? ⟨gb542, 1, none⟩ = some (.int .i64 a0_1) := (blk_cell BK542.out 1).trans rfl; have hfz10_0 := blk_frozen BK542.out 0; have hfz10_1 := blk_frozen BK542.out 1) | ((with_reducible refine gate_callee (f := 64) rfl ?_); refine goesL_ (some 6) rfl rfl Try.func64 (by kernel_rfl) rfl #[.agg #[.int .i64 a0_0, .int .i64 a0_1]] rfl (by (try simp only [List.map_toArray, List.map_cons, List.map_nil]); first | done | rfl | (simp only [List.length_drop, List.length_take]; rfl)) ?_; (with_reducible refine (impl_FlowValid.calls a0_0 a0_1 true _ A3.out).mono ?_); rintro e w11 ⟨rfl, hb⟩; refine ⟨_, rfl, ?_⟩; have n0_ := Aside0.mk (blk_below (g := gb542) (o := .cells #[.int .i64 a0_0, .int .i64 a0_1] 41 (0, 0)) (by (with_reducible repeat (first | refine blk_drewN ?_ _ | refine blk_drew ?_ | refine blk_alloc ?_ _)); exact BK542.out) hb); have n1_ := Aside0.mk (blk_below (g := gb543) (o := .cells #[.int .i64 a1_0, .int .i64 a1_1] 51 (0, 0)) (by (with_reducible repeat (first | refine blk_drewN ?_ _ | refine blk_drew ?_ | refine blk_alloc ?_ _)); exact BK543.out) hb); have n2_ := Aside0.mk (below_step (by repeat (first | (with_reducible first | exact HB.out | apply below_alloc | apply pw_below_drewN | apply below_drew1 | refine below_set ?_ GE542.out | refine below_set ?_ GE543.out) | exact HB.out)) hb); clear BK542; clear BK543; clear HB; have BK542 := n0_; have BK543 := n1_; have HB := n2_; clear n0_ n1_ n2_; (try clear hb); (try clear hb2); (try clear hk); (try clear hi); have hcz12_0 : w11.cell? ⟨gb543, 0, none⟩ = some (.int .i64 a1_0) := (blk_cell BK543.out 0).trans rfl; have hcz12_1 : w11.cell? ⟨gb543, 1, none⟩ = some (.int .i64 a1_1) := (blk_cell BK543.out 1).trans rfl; have hfz12_0 := blk_frozen BK543.out 0; have hfz12_1 := blk_frozen BK543.out 1) | (go_at_call 69; (with_reducible refine (impl_LinkValid.calls a1_0 a1_1 true _ A5.out).mono ?_); rintro e w13 ⟨rfl, hb⟩; have n0_ := Aside0.mk (blk_below (g := gb542) (o := .cells #[.int .i64 a0_0, .int .i64 a0_1] 41 (0, 0)) (by (with_reducible repeat (first | refine blk_drewN ?_ _ | refine blk_drew ?_ | refine blk_alloc ?_ _)); exact BK542.out) hb); have n1_ := Aside0.mk (blk_below (g := gb543) (o := .cells #[.int .i64 a1_0, .int .i64 a1_1] 51 (0, 0)) (by (with_reducible repeat (first | refine blk_drewN ?_ _ | refine blk_drew ?_ | refine blk_alloc ?_ _)); exact BK543.out) hb); have n2_ := Aside0.mk (below_step (by repeat (first | (with_reducible first | exact HB.out | apply below_alloc | apply pw_below_drewN | apply below_drew1 | refine below_set ?_ GE542.out | refine below_set ?_ GE543.out) | exact HB.out)) hb); clear BK542; clear BK543; clear HB; have BK542 := n0_; have BK543 := n1_; have HB := n2_; clear n0_ n1_ n2_; (try clear hb); (try clear hb2); (try clear hk); (try clear hi); have hcz14_0 : w13.cell? ⟨gb542, 0, none⟩ = some (.int .i64 a0_0) := (blk_cell BK542.out 0).trans rfl; have hcz14_1 : w13.cell? ⟨gb542, 1, none⟩ = some (.int .i64 a0_1) := (blk_cell BK542.out 1).trans rfl; have hfz14_0 := blk_frozen BK542.out 0; have hfz14_1 := blk_frozen BK542.out 1; have hcz15_0 : w13.cell? ⟨gb543, 0, none⟩ = some (.int .i64 a1_0) := (blk_cell BK543.out 0).trans rfl; have hcz15_1 : w13.cell? ⟨gb543, 1, none⟩ = some (.int .i64 a1_1) := (blk_cell BK543.out 1).trans rfl; have hfz15_0 := blk_frozen BK543.out 0; have hfz15_1 := blk_frozen BK543.out 1))
      go_ret
      exact ⟨by first | rfl | (simp [errW_none, errW_some] <;> rfl) | (simp [*, errW_none, errW_some] <;> rfl), by repeat (first | (with_reducible first | exact HB.out | apply below_alloc | apply pw_below_drewN | apply below_drew1 | refine below_set ?_ GE542.out | refine below_set ?_ GE543.out) | exact HB.out)⟩
    · replace c6 := Bool.eq_false_iff.mpr c6
      subst c6
      have H1 : (some false) = some r := by rw [if_neg (show ¬ (false = true) by decide)] at H; exact H
      clear H
      have H := H1
      clear H1
      obtain rfl := Option.some.inj H
      go_enter Try.func71, Try.ntmps71
      go_wp2_with (first | ((with_reducible refine gate_dst (N := 2) rfl ?_); refine box_event ?hg (N := 2) ?hd (cs := #[.int .i64 a0_0, .int .i64 a0_1]) (t := 41) ?hr ?_; (case hd => rfl); (case hg => rfl); (case hr => first | (go_simp; done) | (go_simp; rfl)); intro gb542 hg w16 hbox hb; have n0_ := Aside0.mk (below_step (by repeat (first | (with_reducible first | exact HB.out | apply below_alloc | apply pw_below_drewN | apply below_drew1) | exact HB.out)) hb); have n1_ := Aside0.mk (hbox); have n2_ := Aside0.mk ((by rw [hg]; exact (below_size (by repeat (first | (with_reducible first | exact HB.out | apply below_alloc | apply pw_below_drewN | apply below_drew1) | exact HB.out))) : w.heap.size ≤ gb542)); have n3_ := Aside0.mk ((by rw [hg]; exact (below_size (by repeat (first | (with_reducible first | exact HB.out | apply below_alloc | apply pw_below_drewN | apply below_drew1) | exact HB.out))) : w.heap.size ≤ gb542)); clear HB; have HB := n0_; have BK542 := n1_; have GW542 := n2_; have GE542 := n3_; clear n0_ n1_ n2_ n3_; clear hb hbox hg) | ((with_reducible refine gate_dst (N := 3) rfl ?_); refine box_event ?hg (N := 3) ?hd (cs := #[.int .i64 a1_0, .int .i64 a1_1]) (t := 51) ?hr ?_; (case hd => rfl); (case hg => rfl); (case hr => first | (go_simp; done) | (go_simp; rfl)); intro gb543 hg w17 hbox hb; have n0_ := Aside0.mk (blk_below (g := gb542) (o := .cells #[.int .i64 a0_0, .int .i64 a0_1] 41 (0, 0)) (by (with_reducible repeat (first | refine blk_drewN ?_ _ | refine blk_drew ?_ | refine blk_alloc ?_ _)); exact BK542.out) hb); have n1_ := Aside0.mk (below_step (by repeat (first | (with_reducible first | exact HB.out | apply below_alloc | apply pw_below_drewN | apply below_drew1 | refine below_set ?_ GE542.out) | exact HB.out)) hb); have n2_ := Aside0.mk (hbox); have n3_ := Aside0.mk ((by rw [hg]; exact (below_size (by repeat (first | (with_reducible first | exact HB.out | apply below_alloc | apply pw_below_drewN | apply below_drew1 | refine below_set ?_ GE542.out) | exact HB.out))) : w.heap.size ≤ gb543)); have n4_ := Aside0.mk ((by rw [hg]; exact (below_size (by repeat (first | (with_reducible first | exact HB.out | apply below_alloc | apply pw_below_drewN | apply below_drew1 | refine below_set ?_ GE542.out) | exact HB.out))) : w.heap.size ≤ gb543)); have n5_ := Aside0.mk ((by rw [hg]; exact Nat.ne_of_lt (blk_lt (g := gb542) (o := .cells #[.int .i64 a0_0, .int .i64 a0_1] 41 (0, 0)) (by (with_reducible repeat (first | refine blk_drewN ?_ _ | refine blk_drew ?_ | refine blk_alloc ?_ _)); exact BK542.out)) : gb542 ≠ gb543)); have n6_ := Aside0.mk ((by rw [hg]; exact Nat.ne_of_gt (blk_lt (g := gb542) (o := .cells #[.int .i64 a0_0, .int .i64 a0_1] 41 (0, 0)) (by (with_reducible repeat (first | refine blk_drewN ?_ _ | refine blk_drew ?_ | refine blk_alloc ?_ _)); exact BK542.out)) : gb543 ≠ gb542)); clear BK542; clear HB; have BK542 := n0_; have HB := n1_; have BK543 := n2_; have GW543 := n3_; have GE543 := n4_; have NB542_543 := n5_; have NB543_542 := n6_; clear n0_ n1_ n2_ n3_ n4_ n5_ n6_; clear hb hbox hg; have hnb18 := NB542_543.out; have hnc18 := NB543_542.out; have hcz19_0 : w17.cell? ⟨gb542, 0, none⟩ = some (.int .i64 a0_0) := (blk_cell BK542.out 0).trans rfl; have hcz19_1 : w17.cell? ⟨gb542, 1, none⟩ = some (.int .i64 a0_1) := (blk_cell BK542.out 1).trans rfl; have hfz19_0 := blk_frozen BK542.out 0; have hfz19_1 := blk_frozen BK542.out 1) | ((with_reducible refine gate_callee (f := 64) rfl ?_); refine goesL_ (some 6) rfl rfl Try.func64 (by kernel_rfl) rfl #[.agg #[.int .i64 a0_0, .int .i64 a0_1]] rfl (by (try simp only [List.map_toArray, List.map_cons, List.map_nil]); first | done | rfl | (simp only [List.length_drop, List.length_take]; rfl)) ?_; (with_reducible refine (impl_FlowValid.calls a0_0 a0_1 true _ A3.out).mono ?_); rintro e w20 ⟨rfl, hb⟩; refine ⟨_, rfl, ?_⟩; have n0_ := Aside0.mk (blk_below (g := gb542) (o := .cells #[.int .i64 a0_0, .int .i64 a0_1] 41 (0, 0)) (by (with_reducible repeat (first | refine blk_drewN ?_ _ | refine blk_drew ?_ | refine blk_alloc ?_ _)); exact BK542.out) hb); have n1_ := Aside0.mk (blk_below (g := gb543) (o := .cells #[.int .i64 a1_0, .int .i64 a1_1] 51 (0, 0)) (by (with_reducible repeat (first | refine blk_drewN ?_ _ | refine blk_drew ?_ | refine blk_alloc ?_ _)); exact BK543.out) hb); have n2_ := Aside0.mk (below_step (by repeat (first | (with_reducible first | exact HB.out | apply below_alloc | apply pw_below_drewN | apply below_drew1 | refine below_set ?_ GE542.out | refine below_set ?_ GE543.out) | exact HB.out)) hb); clear BK542; clear BK543; clear HB; have BK542 := n0_; have BK543 := n1_; have HB := n2_; clear n0_ n1_ n2_; (try clear hb); (try clear hb2); (try clear hk); (try clear hi); have hcz21_0 : w20.cell? ⟨gb543, 0, none⟩ = some (.int .i64 a1_0) := (blk_cell BK543.out 0).trans rfl; have hcz21_1 : w20.cell? ⟨gb543, 1, none⟩ = some (.int .i64 a1_1) := (blk_cell BK543.out 1).trans rfl; have hfz21_0 := blk_frozen BK543.out 0; have hfz21_1 := blk_frozen BK543.out 1) | (go_at_call 69; (with_reducible refine (impl_LinkValid.calls a1_0 a1_1 false _ A5.out).mono ?_); rintro e w22 ⟨rfl, hb⟩; have n0_ := Aside0.mk (blk_below (g := gb542) (o := .cells #[.int .i64 a0_0, .int .i64 a0_1] 41 (0, 0)) (by (with_reducible repeat (first | refine blk_drewN ?_ _ | refine blk_drew ?_ | refine blk_alloc ?_ _)); exact BK542.out) hb); have n1_ := Aside0.mk (blk_below (g := gb543) (o := .cells #[.int .i64 a1_0, .int .i64 a1_1] 51 (0, 0)) (by (with_reducible repeat (first | refine blk_drewN ?_ _ | refine blk_drew ?_ | refine blk_alloc ?_ _)); exact BK543.out) hb); have n2_ := Aside0.mk (below_step (by repeat (first | (with_reducible first | exact HB.out | apply below_alloc | apply pw_below_drewN | apply below_drew1 | refine below_set ?_ GE542.out | refine below_set ?_ GE543.out) | exact HB.out)) hb); clear BK542; clear BK543; clear HB; have BK542 := n0_; have BK543 := n1_; have HB := n2_; clear n0_ n1_ n2_; (try clear hb); (try clear hb2); (try clear hk); (try clear hi)))
      go_ret
      exact ⟨by first | rfl | (simp [errW_none, errW_some] <;> rfl) | (simp [*, errW_none, errW_some] <;> rfl), by repeat (first | (with_reducible first | exact HB.out | apply below_alloc | apply pw_below_drewN | apply below_drew1 | refine below_set ?_ GE542.out | refine below_set ?_ GE543.out) | exact HB.out)⟩
  · replace c4 := Bool.eq_false_iff.mpr c4
    subst c4
    have H1 : (some false) = some r := by rw [if_neg (show ¬ (false = true) by decide)] at H; exact H
    clear H
    have H := H1
    clear H1
    obtain rfl := Option.some.inj H
    go_enter Try.func71, Try.ntmps71
    go_wp2_with (first | ((with_reducible refine gate_dst (N := 2) rfl ?_); refine box_event ?hg (N := 2) ?hd (cs := #[.int .i64 a0_0, .int .i64 a0_1]) (t := 41) ?hr ?_; (case hd => rfl); (case hg => rfl); (case hr => first | (go_simp; done) | (go_simp; rfl)); intro gb542 hg w23 hbox hb; have n0_ := Aside0.mk (below_step (by repeat (first | (with_reducible first | exact HB.out | apply below_alloc | apply pw_below_drewN | apply below_drew1) | exact HB.out)) hb); have n1_ := Aside0.mk (hbox); have n2_ := Aside0.mk ((by rw [hg]; exact (below_size (by repeat (first | (with_reducible first | exact HB.out | apply below_alloc | apply pw_below_drewN | apply below_drew1) | exact HB.out))) : w.heap.size ≤ gb542)); have n3_ := Aside0.mk ((by rw [hg]; exact (below_size (by repeat (first | (with_reducible first | exact HB.out | apply below_alloc | apply pw_below_drewN | apply below_drew1) | exact HB.out))) : w.heap.size ≤ gb542)); clear HB; have HB := n0_; have BK542 := n1_; have GW542 := n2_; have GE542 := n3_; clear n0_ n1_ n2_ n3_; clear hb hbox hg) | ((with_reducible refine gate_dst (N := 3) rfl ?_); refine box_event ?hg (N := 3) ?hd (cs := #[.int .i64 a1_0, .int .i64 a1_1]) (t := 51) ?hr ?_; (case hd => rfl); (case hg => rfl); (case hr => first | (go_simp; done) | (go_simp; rfl)); intro gb543 hg w24 hbox hb; have n0_ := Aside0.mk (blk_below (g := gb542) (o := .cells #[.int .i64 a0_0, .int .i64 a0_1] 41 (0, 0)) (by (with_reducible repeat (first | refine blk_drewN ?_ _ | refine blk_drew ?_ | refine blk_alloc ?_ _)); exact BK542.out) hb); have n1_ := Aside0.mk (below_step (by repeat (first | (with_reducible first | exact HB.out | apply below_alloc | apply pw_below_drewN | apply below_drew1 | refine below_set ?_ GE542.out) | exact HB.out)) hb); have n2_ := Aside0.mk (hbox); have n3_ := Aside0.mk ((by rw [hg]; exact (below_size (by repeat (first | (with_reducible first | exact HB.out | apply below_alloc | apply pw_below_drewN | apply below_drew1 | refine below_set ?_ GE542.out) | exact HB.out))) : w.heap.size ≤ gb543)); have n4_ := Aside0.mk ((by rw [hg]; exact (below_size (by repeat (first | (with_reducible first | exact HB.out | apply below_alloc | apply pw_below_drewN | apply below_drew1 | refine below_set ?_ GE542.out) | exact HB.out))) : w.heap.size ≤ gb543)); have n5_ := Aside0.mk ((by rw [hg]; exact Nat.ne_of_lt (blk_lt (g := gb542) (o := .cells #[.int .i64 a0_0, .int .i64 a0_1] 41 (0, 0)) (by (with_reducible repeat (first | refine blk_drewN ?_ _ | refine blk_drew ?_ | refine blk_alloc ?_ _)); exact BK542.out)) : gb542 ≠ gb543)); have n6_ := Aside0.mk ((by rw [hg]; exact Nat.ne_of_gt (blk_lt (g := gb542) (o := .cells #[.int .i64 a0_0, .int .i64 a0_1] 41 (0, 0)) (by (with_reducible repeat (first | refine blk_drewN ?_ _ | refine blk_drew ?_ | refine blk_alloc ?_ _)); exact BK542.out)) : gb543 ≠ gb542)); clear BK542; clear HB; have BK542 := n0_; have HB := n1_; have BK543 := n2_; have GW543 := n3_; have GE543 := n4_; have NB542_543 := n5_; have NB543_542 := n6_; clear n0_ n1_ n2_ n3_ n4_ n5_ n6_; clear hb hbox hg; have hnb25 := NB542_543.out; have hnc25 := NB543_542.out; have hcz26_0 : w24.cell? ⟨gb542, 0, none⟩ = some (.int .i64 a0_0) := (blk_cell BK542.out 0).trans rfl; have hcz26_1 : w24.cell? ⟨gb542, 1, none⟩ = some (.int .i64 a0_1) := (blk_cell BK542.out 1).trans rfl; have hfz26_0 := blk_frozen BK542.out 0; have hfz26_1 := blk_frozen BK542.out 1) | ((with_reducible refine gate_callee (f := 64) rfl ?_); refine goesL_ (some 6) rfl rfl Try.func64 (by kernel_rfl) rfl #[.agg #[.int .i64 a0_0, .int .i64 a0_1]] rfl (by (try simp only [List.map_toArray, List.map_cons, List.map_nil]); first | done | rfl | (simp only [List.length_drop, List.length_take]; rfl)) ?_; (with_reducible refine (impl_FlowValid.calls a0_0 a0_1 false _ A3.out).mono ?_); rintro e w27 ⟨rfl, hb⟩; refine ⟨_, rfl, ?_⟩; have n0_ := Aside0.mk (blk_below (g := gb542) (o := .cells #[.int .i64 a0_0, .int .i64 a0_1] 41 (0, 0)) (by (with_reducible repeat (first | refine blk_drewN ?_ _ | refine blk_drew ?_ | refine blk_alloc ?_ _)); exact BK542.out) hb); have n1_ := Aside0.mk (blk_below (g := gb543) (o := .cells #[.int .i64 a1_0, .int .i64 a1_1] 51 (0, 0)) (by (with_reducible repeat (first | refine blk_drewN ?_ _ | refine blk_drew ?_ | refine blk_alloc ?_ _)); exact BK543.out) hb); have n2_ := Aside0.mk (below_step (by repeat (first | (with_reducible first | exact HB.out | apply below_alloc | apply pw_below_drewN | apply below_drew1 | refine below_set ?_ GE542.out | refine below_set ?_ GE543.out) | exact HB.out)) hb); clear BK542; clear BK543; clear HB; have BK542 := n0_; have BK543 := n1_; have HB := n2_; clear n0_ n1_ n2_; (try clear hb); (try clear hb2); (try clear hk); (try clear hi)))
    go_ret
    exact ⟨by first | rfl | (simp [errW_none, errW_some] <;> rfl) | (simp [*, errW_none, errW_some] <;> rfl), by repeat (first | (with_reducible first | exact HB.out | apply below_alloc | apply pw_below_drewN | apply below_drew1 | refine below_set ?_ GE542.out | refine below_set ?_ GE543.out) | exact HB.out)⟩

end Go.Proofs.Ytkmpcmhkfnoeiaa.P
-- Laid by a program of this work.
namespace Go.Proofs.Ytkmpcmhkfnoeiaa.P
open Go.RowKit Go.Proofs.YtkmpcmhkfnoeiaaW.PrintWords Go.Proofs.YtkmpcmhkfnoeiaaW.PrintLast Go.Proofs.YtkmpcmhkfnoeiaaW.PrintMore
attribute [local go_sem] max2_int min2_int max_two min_two max_three min_three max_four min_four   -- for this text's walks alone
set_option linter.unusedVariables false
set_option linter.unusedSimpArgs false

/-! ### impl_DelayBound: function 39 -/
def impl_DelayBound.f (a0_0 : Int) (a0_1 : Int) (a1_0 : Int) (a1_1 : Int) : Option (Int) := (impl_served.f a0_0 a0_1 a1_0 a1_1).bind fun t571 => (if t571 = true then ((impl_ceil.f a0_0 a1_1).bind fun t572 => (some (wrap64 (a1_0 + t572)))) else (some (-1)))
set_option maxHeartbeats 8000000 in
set_option maxRecDepth 100000 in
theorem impl_DelayBound.calls (a0_0 : Int) (a0_1 : Int) (a1_0 : Int) (a1_1 : Int) (r : Int) (w : World) (h : impl_DelayBound.f a0_0 a0_1 a1_0 a1_1 = some r) :
    Calls Try.prog 39 #[.agg #[.int .i64 a0_0, .int .i64 a0_1], .agg #[.int .i64 a1_0, .int .i64 a1_1]] w fun e w' => e = .returned (.int .i64 r) ∧ Below w.heap.size w w' := by
  have hu41 := Try.underlying41
  have hu51 := Try.underlying51
  have HB := Aside0.mk (Below.refl w.heap.size w)
  have H : ((impl_served.f a0_0 a0_1 a1_0 a1_1).bind fun t571 => (if t571 = true then ((impl_ceil.f a0_0 a1_1).bind fun t572 => (some (wrap64 (a1_0 + t572)))) else (some (-1)))) = some r := h
  clear h
  replace H := Option.bind_eq_some_iff.mp H
  obtain ⟨t571, A30, H⟩ := H
  replace H : (if t571 = true then ((impl_ceil.f a0_0 a1_1).bind fun t572 => (some (wrap64 (a1_0 + t572)))) else (some (-1))) = some r := H
  have A3 := Aside0.mk A30
  clear A30
  by_cases c4 : t571 = true
  · subst c4
    have H1 : ((impl_ceil.f a0_0 a1_1).bind fun t572 => (some (wrap64 (a1_0 + t572)))) = some r := by rw [if_pos rfl] at H; exact H
    clear H
    have H := H1
    clear H1
    replace H := Option.bind_eq_some_iff.mp H
    obtain ⟨t572, A50, H⟩ := H
    replace H : (some (wrap64 (a1_0 + t572))) = some r := H
    have A5 := Aside0.mk A50
    clear A50
    obtain rfl := Option.some.inj H
    go_enter Try.func39, Try.ntmps39
    go_wp2_with (first | ((with_reducible refine gate_dst (N := 2) rfl ?_); refine box_event ?hg (N := 2) ?hd (cs := #[.int .i64 a0_0, .int .i64 a0_1]) (t := 41) ?hr ?_; (case hd => rfl); (case hg => rfl); (case hr => first | (go_simp; done) | (go_simp; rfl)); intro gb569 hg w6 hbox hb; have n0_ := Aside0.mk (below_step (by repeat (first | (with_reducible first | exact HB.out | apply below_alloc | apply pw_below_drewN | apply below_drew1) | exact HB.out)) hb); have n1_ := Aside0.mk (hbox); have n2_ := Aside0.mk ((by rw [hg]; exact (below_size (by repeat (first | (with_reducible first | exact HB.out | apply below_alloc | apply pw_below_drewN | apply below_drew1) | exact HB.out))) : w.heap.size ≤ gb569)); have n3_ := Aside0.mk ((by rw [hg]; exact (below_size (by repeat (first | (with_reducible first | exact HB.out | apply below_alloc | apply pw_below_drewN | apply below_drew1) | exact HB.out))) : w.heap.size ≤ gb569)); clear HB; have HB := n0_; have BK569 := n1_; have GW569 := n2_; have GE569 := n3_; clear n0_ n1_ n2_ n3_; clear hb hbox hg) | ((with_reducible refine gate_dst (N := 3) rfl ?_); refine box_event ?hg (N := 3) ?hd (cs := #[.int .i64 a1_0, .int .i64 a1_1]) (t := 51) ?hr ?_; (case hd => rfl); (case hg => rfl); (case hr => first | (go_simp; done) | (go_simp; rfl)); intro gb570 hg w7 hbox hb; have n0_ := Aside0.mk (blk_below (g := gb569) (o := .cells #[.int .i64 a0_0, .int .i64 a0_1] 41 (0, 0)) (by (with_reducible repeat (first | refine blk_drewN ?_ _ | refine blk_drew ?_ | refine blk_alloc ?_ _)); exact BK569.out) hb); have n1_ := Aside0.mk (below_step (by repeat (first | (with_reducible first | exact HB.out | apply below_alloc | apply pw_below_drewN | apply below_drew1 | refine below_set ?_ GE569.out) | exact HB.out)) hb); have n2_ := Aside0.mk (hbox); have n3_ := Aside0.mk ((by rw [hg]; exact (below_size (by repeat (first | (with_reducible first | exact HB.out | apply below_alloc | apply pw_below_drewN | apply below_drew1 | refine below_set ?_ GE569.out) | exact HB.out))) : w.heap.size ≤ gb570)); have n4_ := Aside0.mk ((by rw [hg]; exact (below_size (by repeat (first | (with_reducible first | exact HB.out | apply below_alloc | apply pw_below_drewN | apply below_drew1 | refine below_set ?_ GE569.out) | exact HB.out))) : w.heap.size ≤ gb570)); have n5_ := Aside0.mk ((by rw [hg]; exact Nat.ne_of_lt (blk_lt (g := gb569) (o := .cells #[.int .i64 a0_0, .int .i64 a0_1] 41 (0, 0)) (by (with_reducible repeat (first | refine blk_drewN ?_ _ | refine blk_drew ?_ | refine blk_alloc ?_ _)); exact BK569.out)) : gb569 ≠ gb570)); have n6_ := Aside0.mk ((by rw [hg]; exact Nat.ne_of_gt (blk_lt (g := gb569) (o := .cells #[.int .i64 a0_0, .int .i64 a0_1] 41 (0, 0)) (by (with_reducible repeat (first | refine blk_drewN ?_ _ | refine blk_drew ?_ | refine blk_alloc ?_ _)); exact BK569.out)) : gb570 ≠ gb569)); clear BK569; clear HB; have BK569 := n0_; have HB := n1_; have BK570 := n2_; have GW570 := n3_; have GE570 := n4_; have NB569_570 := n5_; have NB570_569 := n6_; clear n0_ n1_ n2_ n3_ n4_ n5_ n6_; clear hb hbox hg; have hnb8 := NB569_570.out; have hnc8 := NB570_569.out; have hcz9_0 : w7.cell? ⟨gb569, 0, none⟩ = some (.int .i64 a0_0) := (blk_cell BK569.out 0).trans rfl; have hcz9_1 : w7.cell? ⟨gb569, 1, none⟩ = some (.int .i64 a0_1) := (blk_cell BK569.out 1).trans rfl; have hfz9_0 := blk_frozen BK569.out 0; have hfz9_1 := blk_frozen BK569.out 1; have hcz10_0 : w7.cell? ⟨gb570, 0, none⟩ = some (.int .i64 a1_0) := (blk_cell BK570.out 0).trans rfl; have hcz10_1 : w7.cell? ⟨gb570, 1, none⟩ = some (.int .i64 a1_1) := (blk_cell BK570.out 1).trans rfl; have hfz10_0 := blk_frozen BK570.out 0; have hfz10_1 := blk_frozen BK570.out 1) | (go_at_call 71; (with_reducible refine (impl_served.calls a0_0 a0_1 a1_0 a1_1 true _ A3.out).mono ?_); rintro e w11 ⟨rfl, hb⟩; have n0_ := Aside0.mk (blk_below (g := gb569) (o := .cells #[.int .i64 a0_0, .int .i64 a0_1] 41 (0, 0)) (by (with_reducible repeat (first | refine blk_drewN ?_ _ | refine blk_drew ?_ | refine blk_alloc ?_ _)); exact BK569.out) hb); have n1_ := Aside0.mk (blk_below (g := gb570) (o := .cells #[.int .i64 a1_0, .int .i64 a1_1] 51 (0, 0)) (by (with_reducible repeat (first | refine blk_drewN ?_ _ | refine blk_drew ?_ | refine blk_alloc ?_ _)); exact BK570.out) hb); have n2_ := Aside0.mk (below_step (by repeat (first | (with_reducible first | exact HB.out | apply below_alloc | apply pw_below_drewN | apply below_drew1 | refine below_set ?_ GE569.out | refine below_set ?_ GE570.out) | exact HB.out)) hb); clear BK569; clear BK570; clear HB; have BK569 := n0_; have BK570 := n1_; have HB := n2_; clear n0_ n1_ n2_; (try clear hb); (try clear hb2); (try clear hk); (try clear hi); have hcz12_0 : w11.cell? ⟨gb570, 0, none⟩ = some (.int .i64 a1_0) := (blk_cell BK570.out 0).trans rfl; have hcz12_1 : w11.cell? ⟨gb570, 1, none⟩ = some (.int .i64 a1_1) := (blk_cell BK570.out 1).trans rfl; have hfz12_0 := blk_frozen BK570.out 0; have hfz12_1 := blk_frozen BK570.out 1; have hcz13_0 : w11.cell? ⟨gb569, 0, none⟩ = some (.int .i64 a0_0) := (blk_cell BK569.out 0).trans rfl; have hcz13_1 : w11.cell? ⟨gb569, 1, none⟩ = some (.int .i64 a0_1) := (blk_cell BK569.out 1).trans rfl; have hfz13_0 := blk_frozen BK569.out 0; have hfz13_1 := blk_frozen BK569.out 1) | (go_at_call 72; (with_reducible refine (impl_ceil.calls a0_0 a1_1 t572 _ A5.out).mono ?_); rintro e w' ⟨rfl, ⟨nd, rfl⟩⟩; (try first | exact ⟨rfl, _, World.drewN_drewN _ _ _⟩ | exact ⟨rfl, _, Eq.trans (World.drewN_drewN _ _ _) (congrArg (World.drewN _) (Nat.add_assoc _ _ _))⟩)))
    repeat (go_quiet (first | ((with_reducible refine gate_dst (N := 2) rfl ?_); refine box_event ?hg (N := 2) ?hd (cs := #[.int .i64 a0_0, .int .i64 a0_1]) (t := 41) ?hr ?_; (case hd => rfl); (case hg => rfl); (case hr => first | (go_simp; done) | (go_simp; rfl)); intro gb569 hg w6 hbox hb; have n0_ := Aside0.mk (below_step (by repeat (first | (with_reducible first | exact HB.out | apply below_alloc | apply pw_below_drewN | apply below_drew1) | exact HB.out)) hb); have n1_ := Aside0.mk (hbox); have n2_ := Aside0.mk ((by rw [hg]; exact (below_size (by repeat (first | (with_reducible first | exact HB.out | apply below_alloc | apply pw_below_drewN | apply below_drew1) | exact HB.out))) : w.heap.size ≤ gb569)); have n3_ := Aside0.mk ((by rw [hg]; exact (below_size (by repeat (first | (with_reducible first | exact HB.out | apply below_alloc | apply pw_below_drewN | apply below_drew1) | exact HB.out))) : w.heap.size ≤ gb569)); clear HB; have HB := n0_; have BK569 := n1_; have GW569 := n2_; have GE569 := n3_; clear n0_ n1_ n2_ n3_; clear hb hbox hg) | ((with_reducible refine gate_dst (N := 3) rfl ?_); refine box_event ?hg (N := 3) ?hd (cs := #[.int .i64 a1_0, .int .i64 a1_1]) (t := 51) ?hr ?_; (case hd => rfl); (case hg => rfl); (case hr => first | (go_simp; done) | (go_simp; rfl)); intro gb570 hg w7 hbox hb; have n0_ := Aside0.mk (blk_below (g := gb569) (o := .cells #[.int .i64 a0_0, .int .i64 a0_1] 41 (0, 0)) (by (with_reducible repeat (first | refine blk_drewN ?_ _ | refine blk_drew ?_ | refine blk_alloc ?_ _)); exact BK569.out) hb); have n1_ := Aside0.mk (below_step (by repeat (first | (with_reducible first | exact HB.out | apply below_alloc | apply pw_below_drewN | apply below_drew1 | refine below_set ?_ GE569.out) | exact HB.out)) hb); have n2_ := Aside0.mk (hbox); have n3_ := Aside0.mk ((by rw [hg]; exact (below_size (by repeat (first | (with_reducible first | exact HB.out | apply below_alloc | apply pw_below_drewN | apply below_drew1 | refine below_set ?_ GE569.out) | exact HB.out))) : w.heap.size ≤ gb570)); have n4_ := Aside0.mk ((by rw [hg]; exact (below_size (by repeat (first | (with_reducible first | exact HB.out | apply below_alloc | apply pw_below_drewN | apply below_drew1 | refine below_set ?_ GE569.out) | exact HB.out))) : w.heap.size ≤ gb570)); have n5_ := Aside0.mk ((by rw [hg]; exact Nat.ne_of_lt (blk_lt (g := gb569) (o := .cells #[.int .i64 a0_0, .int .i64 a0_1] 41 (0, 0)) (by (with_reducible repeat (first | refine blk_drewN ?_ _ | refine blk_drew ?_ | refine blk_alloc ?_ _)); exact BK569.out)) : gb569 ≠ gb570)); have n6_ := Aside0.mk ((by rw [hg]; exact Nat.ne_of_gt (blk_lt (g := gb569) (o := .cells #[.int .i64 a0_0, .int .i64 a0_1] 41 (0, 0)) (by (with_reducible repeat (first | refine blk_drewN ?_ _ | refine blk_drew ?_ | refine blk_alloc ?_ _)); exact BK569.out)) : gb570 ≠ gb569)); clear BK569; clear HB; have BK569 := n0_; have HB := n1_; have BK570 := n2_; have GW570 := n3_; have GE570 := n4_; have NB569_570 := n5_; have NB570_569 := n6_; clear n0_ n1_ n2_ n3_ n4_ n5_ n6_; clear hb hbox hg; have hnb8 := NB569_570.out; have hnc8 := NB570_569.out; have hcz9_0 : w7.cell? ⟨gb569, 0, none⟩ = some (.int .i64 a0_0) := (blk_cell BK569.out 0).trans rfl; have hcz9_1 : w7.cell? ⟨gb569, 1, none⟩ = some (.int .i64 a0_1) := (blk_cell BK569.out 1).trans rfl; have hfz9_0 := blk_frozen BK569.out 0; have hfz9_1 := blk_frozen BK569.out 1; have hcz10_0 : w7.cell? ⟨gb570, 0, none⟩ = some (.int .i64 a1_0) := (blk_cell BK570.out 0).trans rfl; have hcz10_1 : w7.cell? ⟨gb570, 1, none⟩ = some (.int .i64 a1_1) := (blk_cell BK570.out 1).trans rfl; have hfz10_0 := blk_frozen BK570.out 0; have hfz10_1 := blk_frozen BK570.out 1) | (go_at_call 71; (with_reducible refine (impl_served.calls a0_0 a0_1 a1_0 a1_1 true _ A3.out).mono ?_); rintro e w11 ⟨rfl, hb⟩; have n0_ := Aside0.mk (blk_below (g := gb569) (o := .cells #[.int .i64 a0_0, .int .i64 a0_1] 41 (0, 0)) (by (with_reducible repeat (first | refine blk_drewN ?_ _ | refine blk_drew ?_ | refine blk_alloc ?_ _)); exact BK569.out) hb); have n1_ := Aside0.mk (blk_below (g := gb570) (o := .cells #[.int .i64 a1_0, .int .i64 a1_1] 51 (0, 0)) (by (with_reducible repeat (first | refine blk_drewN ?_ _ | refine blk_drew ?_ | refine blk_alloc ?_ _)); exact BK570.out) hb); have n2_ := Aside0.mk (below_step (by repeat (first | (with_reducible first | exact HB.out | apply below_alloc | apply pw_below_drewN | apply below_drew1 | refine below_set ?_ GE569.out | refine below_set ?_ GE570.out) | exact HB.out)) hb); clear BK569; clear BK570; clear HB; have BK569 := n0_; have BK570 := n1_; have HB := n2_; clear n0_ n1_ n2_; (try clear hb); (try clear hb2); (try clear hk); (try clear hi); have hcz12_0 : w11.cell? ⟨gb570, 0, none⟩ = some (.int .i64 a1_0) := (blk_cell BK570.out 0).trans rfl; have hcz12_1 : w11.cell? ⟨gb570, 1, none⟩ = some (.int .i64 a1_1) := (blk_cell BK570.out 1).trans rfl; have hfz12_0 := blk_frozen BK570.out 0; have hfz12_1 := blk_frozen BK570.out 1; have hcz13_0 : w11.cell? ⟨gb569, 0, none⟩ = some (.int .i64 a0_0) := (blk_cell BK569.out 0).trans rfl; have hcz13_1 : w11.cell? ⟨gb569, 1, none⟩ = some (.int .i64 a0_1) := (blk_cell BK569.out 1).trans rfl; have hfz13_0 := blk_frozen BK569.out 0; have hfz13_1 := blk_frozen BK569.out 1) | (go_at_call 72; (with_reducible refine (impl_ceil.calls a0_0 a1_1 t572 _ A5.out).mono ?_); rintro e w' ⟨rfl, ⟨nd, rfl⟩⟩; (try first | exact ⟨rfl, _, World.drewN_drewN _ _ _⟩ | exact ⟨rfl, _, Eq.trans (World.drewN_drewN _ _ _) (congrArg (World.drewN _) (Nat.add_assoc _ _ _))⟩))); try go_wp2_with (first | ((with_reducible refine gate_dst (N := 2) rfl ?_); refine box_event ?hg (N := 2) ?hd (cs := #[.int .i64 a0_0, .int .i64 a0_1]) (t := 41) ?hr ?_; (case hd => rfl); (case hg => rfl); (case hr => first | (go_simp; done) | (go_simp; rfl)); intro gb569 hg w6 hbox hb; have n0_ := Aside0.mk (below_step (by repeat (first | (with_reducible first | exact HB.out | apply below_alloc | apply pw_below_drewN | apply below_drew1) | exact HB.out)) hb); have n1_ := Aside0.mk (hbox); have n2_ := Aside0.mk ((by rw [hg]; exact (below_size (by repeat (first | (with_reducible first | exact HB.out | apply below_alloc | apply pw_below_drewN | apply below_drew1) | exact HB.out))) : w.heap.size ≤ gb569)); have n3_ := Aside0.mk ((by rw [hg]; exact (below_size (by repeat (first | (with_reducible first | exact HB.out | apply below_alloc | apply pw_below_drewN | apply below_drew1) | exact HB.out))) : w.heap.size ≤ gb569)); clear HB; have HB := n0_; have BK569 := n1_; have GW569 := n2_; have GE569 := n3_; clear n0_ n1_ n2_ n3_; clear hb hbox hg) | ((with_reducible refine gate_dst (N := 3) rfl ?_); refine box_event ?hg (N := 3) ?hd (cs := #[.int .i64 a1_0, .int .i64 a1_1]) (t := 51) ?hr ?_; (case hd => rfl); (case hg => rfl); (case hr => first | (go_simp; done) | (go_simp; rfl)); intro gb570 hg w7 hbox hb; have n0_ := Aside0.mk (blk_below (g := gb569) (o := .cells #[.int .i64 a0_0, .int .i64 a0_1] 41 (0, 0)) (by (with_reducible repeat (first | refine blk_drewN ?_ _ | refine blk_drew ?_ | refine blk_alloc ?_ _)); exact BK569.out) hb); have n1_ := Aside0.mk (below_step (by repeat (first | (with_reducible first | exact HB.out | apply below_alloc | apply pw_below_drewN | apply below_drew1 | refine below_set ?_ GE569.out) | exact HB.out)) hb); have n2_ := Aside0.mk (hbox); have n3_ := Aside0.mk ((by rw [hg]; exact (below_size (by repeat (first | (with_reducible first | exact HB.out | apply below_alloc | apply pw_below_drewN | apply below_drew1 | refine below_set ?_ GE569.out) | exact HB.out))) : w.heap.size ≤ gb570)); have n4_ := Aside0.mk ((by rw [hg]; exact (below_size (by repeat (first | (with_reducible first | exact HB.out | apply below_alloc | apply pw_below_drewN | apply below_drew1 | refine below_set ?_ GE569.out) | exact HB.out))) : w.heap.size ≤ gb570)); have n5_ := Aside0.mk ((by rw [hg]; exact Nat.ne_of_lt (blk_lt (g := gb569) (o := .cells #[.int .i64 a0_0, .int .i64 a0_1] 41 (0, 0)) (by (with_reducible repeat (first | refine blk_drewN ?_ _ | refine blk_drew ?_ | refine blk_alloc ?_ _)); exact BK569.out)) : gb569 ≠ gb570)); have n6_ := Aside0.mk ((by rw [hg]; exact Nat.ne_of_gt (blk_lt (g := gb569) (o := .cells #[.int .i64 a0_0, .int .i64 a0_1] 41 (0, 0)) (by (with_reducible repeat (first | refine blk_drewN ?_ _ | refine blk_drew ?_ | refine blk_alloc ?_ _)); exact BK569.out)) : gb570 ≠ gb569)); clear BK569; clear HB; have BK569 := n0_; have HB := n1_; have BK570 := n2_; have GW570 := n3_; have GE570 := n4_; have NB569_570 := n5_; have NB570_569 := n6_; clear n0_ n1_ n2_ n3_ n4_ n5_ n6_; clear hb hbox hg; have hnb8 := NB569_570.out; have hnc8 := NB570_569.out; have hcz9_0 : w7.cell? ⟨gb569, 0, none⟩ = some (.int .i64 a0_0) := (blk_cell BK569.out 0).trans rfl; have hcz9_1 : w7.cell? ⟨gb569, 1, none⟩ = some (.int .i64 a0_1) := (blk_cell BK569.out 1).trans rfl; have hfz9_0 := blk_frozen BK569.out 0; have hfz9_1 := blk_frozen BK569.out 1; have hcz10_0 : w7.cell? ⟨gb570, 0, none⟩ = some (.int .i64 a1_0) := (blk_cell BK570.out 0).trans rfl; have hcz10_1 : w7.cell? ⟨gb570, 1, none⟩ = some (.int .i64 a1_1) := (blk_cell BK570.out 1).trans rfl; have hfz10_0 := blk_frozen BK570.out 0; have hfz10_1 := blk_frozen BK570.out 1) | (go_at_call 71; (with_reducible refine (impl_served.calls a0_0 a0_1 a1_0 a1_1 true _ A3.out).mono ?_); rintro e w11 ⟨rfl, hb⟩; have n0_ := Aside0.mk (blk_below (g := gb569) (o := .cells #[.int .i64 a0_0, .int .i64 a0_1] 41 (0, 0)) (by (with_reducible repeat (first | refine blk_drewN ?_ _ | refine blk_drew ?_ | refine blk_alloc ?_ _)); exact BK569.out) hb); have n1_ := Aside0.mk (blk_below (g := gb570) (o := .cells #[.int .i64 a1_0, .int .i64 a1_1] 51 (0, 0)) (by (with_reducible repeat (first | refine blk_drewN ?_ _ | refine blk_drew ?_ | refine blk_alloc ?_ _)); exact BK570.out) hb); have n2_ := Aside0.mk (below_step (by repeat (first | (with_reducible first | exact HB.out | apply below_alloc | apply pw_below_drewN | apply below_drew1 | refine below_set ?_ GE569.out | refine below_set ?_ GE570.out) | exact HB.out)) hb); clear BK569; clear BK570; clear HB; have BK569 := n0_; have BK570 := n1_; have HB := n2_; clear n0_ n1_ n2_; (try clear hb); (try clear hb2); (try clear hk); (try clear hi); have hcz12_0 : w11.cell? ⟨gb570, 0, none⟩ = some (.int .i64 a1_0) := (blk_cell BK570.out 0).trans rfl; have hcz12_1 : w11.cell? ⟨gb570, 1, none⟩ = some (.int .i64 a1_1) := (blk_cell BK570.out 1).trans rfl; have hfz12_0 := blk_frozen BK570.out 0; have hfz12_1 := blk_frozen BK570.out 1; have hcz13_0 : w11.cell? ⟨gb569, 0, none⟩ = some (.int .i64 a0_0) := (blk_cell BK569.out 0).trans rfl; have hcz13_1 : w11.cell? ⟨gb569, 1, none⟩ = some (.int .i64 a0_1) := (blk_cell BK569.out 1).trans rfl; have hfz13_0 := blk_frozen BK569.out 0; have hfz13_1 := blk_frozen BK569.out 1) | (go_at_call 72; (with_reducible refine (impl_ceil.calls a0_0 a1_1 t572 _ A5.out).mono ?_); rintro e w' ⟨rfl, ⟨nd, rfl⟩⟩; (try first | exact ⟨rfl, _, World.drewN_drewN _ _ _⟩ | exact ⟨rfl, _, Eq.trans (World.drewN_drewN _ _ _) (congrArg (World.drewN _) (Nat.add_assoc _ _ _))⟩))))
    go_ret
    exact ⟨by first | rfl | (simp [errW_none, errW_some] <;> rfl) | (simp [*, errW_none, errW_some] <;> rfl), by repeat (first | (with_reducible first | exact HB.out | apply below_alloc | apply pw_below_drewN | apply below_drew1 | refine below_set ?_ GE569.out | refine below_set ?_ GE570.out) | exact HB.out)⟩
  · replace c4 := Bool.eq_false_iff.mpr c4
    subst c4
    have H1 : (some (-1)) = some r := by rw [if_neg (show ¬ (false = true) by decide)] at H; exact H
    clear H
    have H := H1
    clear H1
    obtain rfl := Option.some.inj H
    go_enter Try.func39, Try.ntmps39
    go_wp2_with (first | ((with_reducible refine gate_dst (N := 2) rfl ?_); refine box_event ?hg (N := 2) ?hd (cs := #[.int .i64 a0_0, .int .i64 a0_1]) (t := 41) ?hr ?_; (case hd => rfl); (case hg => rfl); (case hr => first | (go_simp; done) | (go_simp; rfl)); intro gb569 hg w14 hbox hb; have n0_ := Aside0.mk (below_step (by repeat (first | (with_reducible first | exact HB.out | apply below_alloc | apply pw_below_drewN | apply below_drew1) | exact HB.out)) hb); have n1_ := Aside0.mk (hbox); have n2_ := Aside0.mk ((by rw [hg]; exact (below_size (by repeat (first | (with_reducible first | exact HB.out | apply below_alloc | apply pw_below_drewN | apply below_drew1) | exact HB.out))) : w.heap.size ≤ gb569)); have n3_ := Aside0.mk ((by rw [hg]; exact (below_size (by repeat (first | (with_reducible first | exact HB.out | apply below_alloc | apply pw_below_drewN | apply below_drew1) | exact HB.out))) : w.heap.size ≤ gb569)); clear HB; have HB := n0_; have BK569 := n1_; have GW569 := n2_; have GE569 := n3_; clear n0_ n1_ n2_ n3_; clear hb hbox hg) | ((with_reducible refine gate_dst (N := 3) rfl ?_); refine box_event ?hg (N := 3) ?hd (cs := #[.int .i64 a1_0, .int .i64 a1_1]) (t := 51) ?hr ?_; (case hd => rfl); (case hg => rfl); (case hr => first | (go_simp; done) | (go_simp; rfl)); intro gb570 hg w15 hbox hb; have n0_ := Aside0.mk (blk_below (g := gb569) (o := .cells #[.int .i64 a0_0, .int .i64 a0_1] 41 (0, 0)) (by (with_reducible repeat (first | refine blk_drewN ?_ _ | refine blk_drew ?_ | refine blk_alloc ?_ _)); exact BK569.out) hb); have n1_ := Aside0.mk (below_step (by repeat (first | (with_reducible first | exact HB.out | apply below_alloc | apply pw_below_drewN | apply below_drew1 | refine below_set ?_ GE569.out) | exact HB.out)) hb); have n2_ := Aside0.mk (hbox); have n3_ := Aside0.mk ((by rw [hg]; exact (below_size (by repeat (first | (with_reducible first | exact HB.out | apply below_alloc | apply pw_below_drewN | apply below_drew1 | refine below_set ?_ GE569.out) | exact HB.out))) : w.heap.size ≤ gb570)); have n4_ := Aside0.mk ((by rw [hg]; exact (below_size (by repeat (first | (with_reducible first | exact HB.out | apply below_alloc | apply pw_below_drewN | apply below_drew1 | refine below_set ?_ GE569.out) | exact HB.out))) : w.heap.size ≤ gb570)); have n5_ := Aside0.mk ((by rw [hg]; exact Nat.ne_of_lt (blk_lt (g := gb569) (o := .cells #[.int .i64 a0_0, .int .i64 a0_1] 41 (0, 0)) (by (with_reducible repeat (first | refine blk_drewN ?_ _ | refine blk_drew ?_ | refine blk_alloc ?_ _)); exact BK569.out)) : gb569 ≠ gb570)); have n6_ := Aside0.mk ((by rw [hg]; exact Nat.ne_of_gt (blk_lt (g := gb569) (o := .cells #[.int .i64 a0_0, .int .i64 a0_1] 41 (0, 0)) (by (with_reducible repeat (first | refine blk_drewN ?_ _ | refine blk_drew ?_ | refine blk_alloc ?_ _)); exact BK569.out)) : gb570 ≠ gb569)); clear BK569; clear HB; have BK569 := n0_; have HB := n1_; have BK570 := n2_; have GW570 := n3_; have GE570 := n4_; have NB569_570 := n5_; have NB570_569 := n6_; clear n0_ n1_ n2_ n3_ n4_ n5_ n6_; clear hb hbox hg; have hnb16 := NB569_570.out; have hnc16 := NB570_569.out; have hcz17_0 : w15.cell? ⟨gb569, 0, none⟩ = some (.int .i64 a0_0) := (blk_cell BK569.out 0).trans rfl; have hcz17_1 : w15.cell? ⟨gb569, 1, none⟩ = some (.int .i64 a0_1) := (blk_cell BK569.out 1).trans rfl; have hfz17_0 := blk_frozen BK569.out 0; have hfz17_1 := blk_frozen BK569.out 1; have hcz18_0 : w15.cell? ⟨gb570, 0, none⟩ = some (.int .i64 a1_0) := (blk_cell BK570.out 0).trans rfl; have hcz18_1 : w15.cell? ⟨gb570, 1, none⟩ = some (.int .i64 a1_1) := (blk_cell BK570.out 1).trans rfl; have hfz18_0 := blk_frozen BK570.out 0; have hfz18_1 := blk_frozen BK570.out 1) | (go_at_call 71; (with_reducible refine (impl_served.calls a0_0 a0_1 a1_0 a1_1 false _ A3.out).mono ?_); rintro e w19 ⟨rfl, hb⟩; have n0_ := Aside0.mk (blk_below (g := gb569) (o := .cells #[.int .i64 a0_0, .int .i64 a0_1] 41 (0, 0)) (by (with_reducible repeat (first | refine blk_drewN ?_ _ | refine blk_drew ?_ | refine blk_alloc ?_ _)); exact BK569.out) hb); have n1_ := Aside0.mk (blk_below (g := gb570) (o := .cells #[.int .i64 a1_0, .int .i64 a1_1] 51 (0, 0)) (by (with_reducible repeat (first | refine blk_drewN ?_ _ | refine blk_drew ?_ | refine blk_alloc ?_ _)); exact BK570.out) hb); have n2_ := Aside0.mk (below_step (by repeat (first | (with_reducible first | exact HB.out | apply below_alloc | apply pw_below_drewN | apply below_drew1 | refine below_set ?_ GE569.out | refine below_set ?_ GE570.out) | exact HB.out)) hb); clear BK569; clear BK570; clear HB; have BK569 := n0_; have BK570 := n1_; have HB := n2_; clear n0_ n1_ n2_; (try clear hb); (try clear hb2); (try clear hk); (try clear hi)))
    repeat (go_quiet (first | ((with_reducible refine gate_dst (N := 2) rfl ?_); refine box_event ?hg (N := 2) ?hd (cs := #[.int .i64 a0_0, .int .i64 a0_1]) (t := 41) ?hr ?_; (case hd => rfl); (case hg => rfl); (case hr => first | (go_simp; done) | (go_simp; rfl)); intro gb569 hg w14 hbox hb; have n0_ := Aside0.mk (below_step (by repeat (first | (with_reducible first | exact HB.out | apply below_alloc | apply pw_below_drewN | apply below_drew1) | exact HB.out)) hb); have n1_ := Aside0.mk (hbox); have n2_ := Aside0.mk ((by rw [hg]; exact (below_size (by repeat (first | (with_reducible first | exact HB.out | apply below_alloc | apply pw_below_drewN | apply below_drew1) | exact HB.out))) : w.heap.size ≤ gb569)); have n3_ := Aside0.mk ((by rw [hg]; exact (below_size (by repeat (first | (with_reducible first | exact HB.out | apply below_alloc | apply pw_below_drewN | apply below_drew1) | exact HB.out))) : w.heap.size ≤ gb569)); clear HB; have HB := n0_; have BK569 := n1_; have GW569 := n2_; have GE569 := n3_; clear n0_ n1_ n2_ n3_; clear hb hbox hg) | ((with_reducible refine gate_dst (N := 3) rfl ?_); refine box_event ?hg (N := 3) ?hd (cs := #[.int .i64 a1_0, .int .i64 a1_1]) (t := 51) ?hr ?_; (case hd => rfl); (case hg => rfl); (case hr => first | (go_simp; done) | (go_simp; rfl)); intro gb570 hg w15 hbox hb; have n0_ := Aside0.mk (blk_below (g := gb569) (o := .cells #[.int .i64 a0_0, .int .i64 a0_1] 41 (0, 0)) (by (with_reducible repeat (first | refine blk_drewN ?_ _ | refine blk_drew ?_ | refine blk_alloc ?_ _)); exact BK569.out) hb); have n1_ := Aside0.mk (below_step (by repeat (first | (with_reducible first | exact HB.out | apply below_alloc | apply pw_below_drewN | apply below_drew1 | refine below_set ?_ GE569.out) | exact HB.out)) hb); have n2_ := Aside0.mk (hbox); have n3_ := Aside0.mk ((by rw [hg]; exact (below_size (by repeat (first | (with_reducible first | exact HB.out | apply below_alloc | apply pw_below_drewN | apply below_drew1 | refine below_set ?_ GE569.out) | exact HB.out))) : w.heap.size ≤ gb570)); have n4_ := Aside0.mk ((by rw [hg]; exact (below_size (by repeat (first | (with_reducible first | exact HB.out | apply below_alloc | apply pw_below_drewN | apply below_drew1 | refine below_set ?_ GE569.out) | exact HB.out))) : w.heap.size ≤ gb570)); have n5_ := Aside0.mk ((by rw [hg]; exact Nat.ne_of_lt (blk_lt (g := gb569) (o := .cells #[.int .i64 a0_0, .int .i64 a0_1] 41 (0, 0)) (by (with_reducible repeat (first | refine blk_drewN ?_ _ | refine blk_drew ?_ | refine blk_alloc ?_ _)); exact BK569.out)) : gb569 ≠ gb570)); have n6_ := Aside0.mk ((by rw [hg]; exact Nat.ne_of_gt (blk_lt (g := gb569) (o := .cells #[.int .i64 a0_0, .int .i64 a0_1] 41 (0, 0)) (by (with_reducible repeat (first | refine blk_drewN ?_ _ | refine blk_drew ?_ | refine blk_alloc ?_ _)); exact BK569.out)) : gb570 ≠ gb569)); clear BK569; clear HB; have BK569 := n0_; have HB := n1_; have BK570 := n2_; have GW570 := n3_; have GE570 := n4_; have NB569_570 := n5_; have NB570_569 := n6_; clear n0_ n1_ n2_ n3_ n4_ n5_ n6_; clear hb hbox hg; have hnb16 := NB569_570.out; have hnc16 := NB570_569.out; have hcz17_0 : w15.cell? ⟨gb569, 0, none⟩ = some (.int .i64 a0_0) := (blk_cell BK569.out 0).trans rfl; have hcz17_1 : w15.cell? ⟨gb569, 1, none⟩ = some (.int .i64 a0_1) := (blk_cell BK569.out 1).trans rfl; have hfz17_0 := blk_frozen BK569.out 0; have hfz17_1 := blk_frozen BK569.out 1; have hcz18_0 : w15.cell? ⟨gb570, 0, none⟩ = some (.int .i64 a1_0) := (blk_cell BK570.out 0).trans rfl; have hcz18_1 : w15.cell? ⟨gb570, 1, none⟩ = some (.int .i64 a1_1) := (blk_cell BK570.out 1).trans rfl; have hfz18_0 := blk_frozen BK570.out 0; have hfz18_1 := blk_frozen BK570.out 1) | (go_at_call 71; (with_reducible refine (impl_served.calls a0_0 a0_1 a1_0 a1_1 false _ A3.out).mono ?_); rintro e w19 ⟨rfl, hb⟩; have n0_ := Aside0.mk (blk_below (g := gb569) (o := .cells #[.int .i64 a0_0, .int .i64 a0_1] 41 (0, 0)) (by (with_reducible repeat (first | refine blk_drewN ?_ _ | refine blk_drew ?_ | refine blk_alloc ?_ _)); exact BK569.out) hb); have n1_ := Aside0.mk (blk_below (g := gb570) (o := .cells #[.int .i64 a1_0, .int .i64 a1_1] 51 (0, 0)) (by (with_reducible repeat (first | refine blk_drewN ?_ _ | refine blk_drew ?_ | refine blk_alloc ?_ _)); exact BK570.out) hb); have n2_ := Aside0.mk (below_step (by repeat (first | (with_reducible first | exact HB.out | apply below_alloc | apply pw_below_drewN | apply below_drew1 | refine below_set ?_ GE569.out | refine below_set ?_ GE570.out) | exact HB.out)) hb); clear BK569; clear BK570; clear HB; have BK569 := n0_; have BK570 := n1_; have HB := n2_; clear n0_ n1_ n2_; (try clear hb); (try clear hb2); (try clear hk); (try clear hi))); try go_wp2_with (first | ((with_reducible refine gate_dst (N := 2) rfl ?_); refine box_event ?hg (N := 2) ?hd (cs := #[.int .i64 a0_0, .int .i64 a0_1]) (t := 41) ?hr ?_; (case hd => rfl); (case hg => rfl); (case hr => first | (go_simp; done) | (go_simp; rfl)); intro gb569 hg w14 hbox hb; have n0_ := Aside0.mk (below_step (by repeat (first | (with_reducible first | exact HB.out | apply below_alloc | apply pw_below_drewN | apply below_drew1) | exact HB.out)) hb); have n1_ := Aside0.mk (hbox); have n2_ := Aside0.mk ((by rw [hg]; exact (below_size (by repeat (first | (with_reducible first | exact HB.out | apply below_alloc | apply pw_below_drewN | apply below_drew1) | exact HB.out))) : w.heap.size ≤ gb569)); have n3_ := Aside0.mk ((by rw [hg]; exact (below_size (by repeat (first | (with_reducible first | exact HB.out | apply below_alloc | apply pw_below_drewN | apply below_drew1) | exact HB.out))) : w.heap.size ≤ gb569)); clear HB; have HB := n0_; have BK569 := n1_; have GW569 := n2_; have GE569 := n3_; clear n0_ n1_ n2_ n3_; clear hb hbox hg) | ((with_reducible refine gate_dst (N := 3) rfl ?_); refine box_event ?hg (N := 3) ?hd (cs := #[.int .i64 a1_0, .int .i64 a1_1]) (t := 51) ?hr ?_; (case hd => rfl); (case hg => rfl); (case hr => first | (go_simp; done) | (go_simp; rfl)); intro gb570 hg w15 hbox hb; have n0_ := Aside0.mk (blk_below (g := gb569) (o := .cells #[.int .i64 a0_0, .int .i64 a0_1] 41 (0, 0)) (by (with_reducible repeat (first | refine blk_drewN ?_ _ | refine blk_drew ?_ | refine blk_alloc ?_ _)); exact BK569.out) hb); have n1_ := Aside0.mk (below_step (by repeat (first | (with_reducible first | exact HB.out | apply below_alloc | apply pw_below_drewN | apply below_drew1 | refine below_set ?_ GE569.out) | exact HB.out)) hb); have n2_ := Aside0.mk (hbox); have n3_ := Aside0.mk ((by rw [hg]; exact (below_size (by repeat (first | (with_reducible first | exact HB.out | apply below_alloc | apply pw_below_drewN | apply below_drew1 | refine below_set ?_ GE569.out) | exact HB.out))) : w.heap.size ≤ gb570)); have n4_ := Aside0.mk ((by rw [hg]; exact (below_size (by repeat (first | (with_reducible first | exact HB.out | apply below_alloc | apply pw_below_drewN | apply below_drew1 | refine below_set ?_ GE569.out) | exact HB.out))) : w.heap.size ≤ gb570)); have n5_ := Aside0.mk ((by rw [hg]; exact Nat.ne_of_lt (blk_lt (g := gb569) (o := .cells #[.int .i64 a0_0, .int .i64 a0_1] 41 (0, 0)) (by (with_reducible repeat (first | refine blk_drewN ?_ _ | refine blk_drew ?_ | refine blk_alloc ?_ _)); exact BK569.out)) : gb569 ≠ gb570)); have n6_ := Aside0.mk ((by rw [hg]; exact Nat.ne_of_gt (blk_lt (g := gb569) (o := .cells #[.int .i64 a0_0, .int .i64 a0_1] 41 (0, 0)) (by (with_reducible repeat (first | refine blk_drewN ?_ _ | refine blk_drew ?_ | refine blk_alloc ?_ _)); exact BK569.out)) : gb570 ≠ gb569)); clear BK569; clear HB; have BK569 := n0_; have HB := n1_; have BK570 := n2_; have GW570 := n3_; have GE570 := n4_; have NB569_570 := n5_; have NB570_569 := n6_; clear n0_ n1_ n2_ n3_ n4_ n5_ n6_; clear hb hbox hg; have hnb16 := NB569_570.out; have hnc16 := NB570_569.out; have hcz17_0 : w15.cell? ⟨gb569, 0, none⟩ = some (.int .i64 a0_0) := (blk_cell BK569.out 0).trans rfl; have hcz17_1 : w15.cell? ⟨gb569, 1, none⟩ = some (.int .i64 a0_1) := (blk_cell BK569.out 1).trans rfl; have hfz17_0 := blk_frozen BK569.out 0; have hfz17_1 := blk_frozen BK569.out 1; have hcz18_0 : w15.cell? ⟨gb570, 0, none⟩ = some (.int .i64 a1_0) := (blk_cell BK570.out 0).trans rfl; have hcz18_1 : w15.cell? ⟨gb570, 1, none⟩ = some (.int .i64 a1_1) := (blk_cell BK570.out 1).trans rfl; have hfz18_0 := blk_frozen BK570.out 0; have hfz18_1 := blk_frozen BK570.out 1) | (go_at_call 71; (with_reducible refine (impl_served.calls a0_0 a0_1 a1_0 a1_1 false _ A3.out).mono ?_); rintro e w19 ⟨rfl, hb⟩; have n0_ := Aside0.mk (blk_below (g := gb569) (o := .cells #[.int .i64 a0_0, .int .i64 a0_1] 41 (0, 0)) (by (with_reducible repeat (first | refine blk_drewN ?_ _ | refine blk_drew ?_ | refine blk_alloc ?_ _)); exact BK569.out) hb); have n1_ := Aside0.mk (blk_below (g := gb570) (o := .cells #[.int .i64 a1_0, .int .i64 a1_1] 51 (0, 0)) (by (with_reducible repeat (first | refine blk_drewN ?_ _ | refine blk_drew ?_ | refine blk_alloc ?_ _)); exact BK570.out) hb); have n2_ := Aside0.mk (below_step (by repeat (first | (with_reducible first | exact HB.out | apply below_alloc | apply pw_below_drewN | apply below_drew1 | refine below_set ?_ GE569.out | refine below_set ?_ GE570.out) | exact HB.out)) hb); clear BK569; clear BK570; clear HB; have BK569 := n0_; have BK570 := n1_; have HB := n2_; clear n0_ n1_ n2_; (try clear hb); (try clear hb2); (try clear hk); (try clear hi))))
    go_ret
    exact ⟨by first | rfl | (simp [errW_none, errW_some] <;> rfl) | (simp [*, errW_none, errW_some] <;> rfl), by repeat (first | (with_reducible first | exact HB.out | apply below_alloc | apply pw_below_drewN | apply below_drew1 | refine below_set ?_ GE569.out | refine below_set ?_ GE570.out) | exact HB.out)⟩

end Go.Proofs.Ytkmpcmhkfnoeiaa.P
