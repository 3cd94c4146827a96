/- The law FnSupplyWorst for every input, part 2 of its proof: what the program's functions answer, and the plain law. No condition. -/
import Derived.Test.YtooabmmnbifclaaMFnSupplyWorst1
import Derived.Test.YtooabmmnbifclaaWMore
import Derived.Laws.BitsLemmas
-- Laid by a program of this work.
namespace Go.Proofs.Ytooabmmnbifclaa.P
open Go.RowKit Go.Proofs.YtooabmmnbifclaaW.PrintWords Go.Proofs.YtooabmmnbifclaaW.PrintLast Go.Proofs.YtooabmmnbifclaaW.PrintMore
attribute [local go_sem] max2_int min2_int max_two min_two max_three min_three max_four min_four   -- for this text's walks alone
set_option linter.unusedVariables false
set_option linter.unusedSimpArgs false

/-! ### spec_l20Pattern: function 59 -/
mutual
def spec_l20Pattern.l0 : Nat → Int → List Bool → Int → List Int → Int → Int → Int → Option (List Bool × Int)
  | 0, _, _, _, _, _, _, _ => none
  | k + 1, x2, x7, x8, x1000, x1001, x473000, x473001 => (spec_SupplyValid.f x473000 x473001).bind fun t476 => (if t476 = true then (spec_l20Pattern.j1 k x2 x7 x8 (decide (x8 < 120)) x1000 x1001 x473000 x473001) else (spec_l20Pattern.j1 k x2 x7 x8 false x1000 x1001 x473000 x473001))
def spec_l20Pattern.j1 : Nat → Int → List Bool → Int → Bool → List Int → Int → Int → Int → Option (List Bool × Int)
  | 0, _, _, _, _, _, _, _, _ => none
  | k + 1, x2, x7, x8, x20, x1000, x1001, x473000, x473001 => if x20 = true then ((spec_l20Rd_pick.f k x1000 x1001 3).bind fun bt477 => (spec_l20Pattern.l1 k x2 x7 x8 bt477.1 x473000 0 x1000 bt477.2 x473000 x473001)) else ((spec_l20Rd_odd.f k x1000 x1001 x2).bind fun bt486 => (if bt486.1 = true then ((spec_l20Rd_pick.f k x1000 bt486.2 120).bind fun bt488 => ((spec_l20Rd_pick.f k x1000 bt488.2 2).bind fun bt490 => (if bt490.1 = 0 then (if 0 ≤ bt488.1 then (if bt488.1 ≤ (x7.length : Int) then (some ((x7.take (bt488.1 : Int).toNat), bt490.2)) else (none)) else (none)) else (if 0 ≤ bt488.1 then (if bt488.1 < (x7.length : Int) then (some ((x7.set (bt488.1 : Int).toNat (!(rdOf false x7 bt488.1))), bt490.2)) else (none)) else (none))))) else (some (x7, bt486.2))))
def spec_l20Pattern.l1 : Nat → Int → List Bool → Int → Int → Int → Int → List Int → Int → Int → Int → Option (List Bool × Int)
  | 0, _, _, _, _, _, _, _, _, _, _ => none
  | k + 1, x2, x7, x8, x9, x10, x11, x1000, x1001, x473000, x473001 => if x11 < x473001 then (spec_l20Pattern.j3 k x2 x7 x8 x9 x10 x11 (decide ((wrap64 (x8 + x11)) < 120)) x1000 x1001 x473000 x473001) else (spec_l20Pattern.j3 k x2 x7 x8 x9 x10 x11 false x1000 x1001 x473000 x473001)
def spec_l20Pattern.j3 : Nat → Int → List Bool → Int → Int → Int → Int → Bool → List Int → Int → Int → Int → Option (List Bool × Int)
  | 0, _, _, _, _, _, _, _, _, _, _, _ => none
  | k + 1, x2, x7, x8, x9, x10, x11, x38, x1000, x1001, x473000, x473001 => if x38 = true then (if x10 > 0 then (if x9 = 0 then (if 0 ≤ (wrap64 (x8 + x11)) then (if (wrap64 (x8 + x11)) < (x7.length : Int) then (spec_l20Pattern.l1 k x2 (x7.set ((wrap64 (x8 + x11)) : Int).toNat true) x8 x9 (wrap64 (x10 - 1)) (wrap64 (x11 + 1)) x1000 x1001 x473000 x473001) else (none)) else (none)) else (if x10 = (wrap64 (x473001 - x11)) then (if 0 ≤ (wrap64 (x8 + x11)) then (if (wrap64 (x8 + x11)) < (x7.length : Int) then (spec_l20Pattern.l1 k x2 (x7.set ((wrap64 (x8 + x11)) : Int).toNat true) x8 x9 (wrap64 (x10 - 1)) (wrap64 (x11 + 1)) x1000 x1001 x473000 x473001) else (none)) else (none)) else (if x9 = 2 then ((spec_l20Rd_pick.f k x1000 x1001 2).bind fun bt481 => (if 0 ≤ (wrap64 (x8 + x11)) then (if (wrap64 (x8 + x11)) < (x7.length : Int) then ((some (x7.set ((wrap64 (x8 + x11)) : Int).toNat (bt481.1 == 0) : List Bool)).bind fun y483 => (if bt481.1 = 0 then (spec_l20Pattern.l1 k x2 y483 x8 x9 (wrap64 (x10 - 1)) (wrap64 (x11 + 1)) x1000 bt481.2 x473000 x473001) else (spec_l20Pattern.l1 k x2 y483 x8 x9 x10 (wrap64 (x11 + 1)) x1000 bt481.2 x473000 x473001))) else (none)) else (none))) else (if 0 ≤ (wrap64 (x8 + x11)) then (if (wrap64 (x8 + x11)) < (x7.length : Int) then (spec_l20Pattern.l1 k x2 (x7.set ((wrap64 (x8 + x11)) : Int).toNat false) x8 x9 x10 (wrap64 (x11 + 1)) x1000 x1001 x473000 x473001) else (none)) else (none))))) else (if 0 ≤ (wrap64 (x8 + x11)) then (if (wrap64 (x8 + x11)) < (x7.length : Int) then (spec_l20Pattern.l1 k x2 (x7.set ((wrap64 (x8 + x11)) : Int).toNat false) x8 x9 x10 (wrap64 (x11 + 1)) x1000 x1001 x473000 x473001) else (none)) else (none))) else (spec_l20Pattern.l0 k x2 x7 (wrap64 (x8 + x473001)) x1000 x1001 x473000 x473001)
end
def spec_l20Pattern.f (k : Nat) (s0_0 : List Int) (s0_1 : Int) (a1_0 : Int) (a1_1 : Int) (a2 : Int) : Option (List Bool × Int) := if 120 ≤ 281474976710656 then (spec_l20Pattern.l0 k a2 (List.replicate 120 false) 0 s0_0 s0_1 a1_0 a1_1) else (none)
theorem spec_l20Pattern.mono_l : ∀ k, (∀ y0 y1 y2 y3 y4 y5 y6, LeO (spec_l20Pattern.l0 k y0 y1 y2 y3 y4 y5 y6) (spec_l20Pattern.l0 (k + 1) y0 y1 y2 y3 y4 y5 y6)) ∧ (∀ y0 y1 y2 y3 y4 y5 y6 y7, LeO (spec_l20Pattern.j1 k y0 y1 y2 y3 y4 y5 y6 y7) (spec_l20Pattern.j1 (k + 1) y0 y1 y2 y3 y4 y5 y6 y7)) ∧ (∀ y0 y1 y2 y3 y4 y5 y6 y7 y8 y9, LeO (spec_l20Pattern.l1 k y0 y1 y2 y3 y4 y5 y6 y7 y8 y9) (spec_l20Pattern.l1 (k + 1) y0 y1 y2 y3 y4 y5 y6 y7 y8 y9)) ∧ (∀ y0 y1 y2 y3 y4 y5 y6 y7 y8 y9 y10, LeO (spec_l20Pattern.j3 k y0 y1 y2 y3 y4 y5 y6 y7 y8 y9 y10) (spec_l20Pattern.j3 (k + 1) y0 y1 y2 y3 y4 y5 y6 y7 y8 y9 y10))
  | 0 => ⟨fun _ _ _ _ _ _ _ r h => by simp [spec_l20Pattern.l0] at h, fun _ _ _ _ _ _ _ _ r h => by simp [spec_l20Pattern.j1] at h, fun _ _ _ _ _ _ _ _ _ _ r h => by simp [spec_l20Pattern.l1] at h, fun _ _ _ _ _ _ _ _ _ _ _ r h => by simp [spec_l20Pattern.j3] at h⟩
  | k + 1 => by
    obtain ⟨ih0, ih1, ih2, ih3⟩ := spec_l20Pattern.mono_l k
    refine ⟨?_, ?_, ?_, ?_⟩
    · intro y0 y1 y2 y3 y4 y5 y6
      unfold spec_l20Pattern.l0
      repeat' first
      | (with_reducible exact ih0 _ _ _ _ _ _ _)
      | (with_reducible exact ih1 _ _ _ _ _ _ _ _)
      | (with_reducible exact ih2 _ _ _ _ _ _ _ _ _ _)
      | (with_reducible exact ih3 _ _ _ _ _ _ _ _ _ _ _)
      | (with_reducible exact spec_l20Rd_odd.mono _ _ _ _)
      | (with_reducible exact spec_l20Rd_pick.mono _ _ _ _)
      | (with_reducible exact LeO.refl _)
      | (with_reducible exact LeO.none _)
      | (with_reducible refine LeO.ite ?_ ?_)
      | (with_reducible refine LeO.bind ?_ (fun _ => ?_))
      | exact ih0 _ _ _ _ _ _ _
      | exact ih1 _ _ _ _ _ _ _ _
      | exact ih2 _ _ _ _ _ _ _ _ _ _
      | exact ih3 _ _ _ _ _ _ _ _ _ _ _
      | exact spec_l20Rd_odd.mono _ _ _ _
      | exact spec_l20Rd_pick.mono _ _ _ _
      | exact LeO.none _
      | refine LeO.ite ?_ ?_
      | refine LeO.bind ?_ (fun _ => ?_)
    · intro y0 y1 y2 y3 y4 y5 y6 y7
      unfold spec_l20Pattern.j1
      repeat' first
      | (with_reducible exact ih0 _ _ _ _ _ _ _)
      | (with_reducible exact ih1 _ _ _ _ _ _ _ _)
      | (with_reducible exact ih2 _ _ _ _ _ _ _ _ _ _)
      | (with_reducible exact ih3 _ _ _ _ _ _ _ _ _ _ _)
      | (with_reducible exact spec_l20Rd_odd.mono _ _ _ _)
      | (with_reducible exact spec_l20Rd_pick.mono _ _ _ _)
      | (with_reducible exact LeO.refl _)
      | (with_reducible exact LeO.none _)
      | (with_reducible refine LeO.ite ?_ ?_)
      | (with_reducible refine LeO.bind ?_ (fun _ => ?_))
      | exact ih0 _ _ _ _ _ _ _
      | exact ih1 _ _ _ _ _ _ _ _
      | exact ih2 _ _ _ _ _ _ _ _ _ _
      | exact ih3 _ _ _ _ _ _ _ _ _ _ _
      | exact spec_l20Rd_odd.mono _ _ _ _
      | exact spec_l20Rd_pick.mono _ _ _ _
      | exact LeO.none _
      | refine LeO.ite ?_ ?_
      | refine LeO.bind ?_ (fun _ => ?_)
    · intro y0 y1 y2 y3 y4 y5 y6 y7 y8 y9
      unfold spec_l20Pattern.l1
      repeat' first
      | (with_reducible exact ih0 _ _ _ _ _ _ _)
      | (with_reducible exact ih1 _ _ _ _ _ _ _ _)
      | (with_reducible exact ih2 _ _ _ _ _ _ _ _ _ _)
      | (with_reducible exact ih3 _ _ _ _ _ _ _ _ _ _ _)
      | (with_reducible exact spec_l20Rd_odd.mono _ _ _ _)
      | (with_reducible exact spec_l20Rd_pick.mono _ _ _ _)
      | (with_reducible exact LeO.refl _)
      | (with_reducible exact LeO.none _)
      | (with_reducible refine LeO.ite ?_ ?_)
      | (with_reducible refine LeO.bind ?_ (fun _ => ?_))
      | exact ih0 _ _ _ _ _ _ _
      | exact ih1 _ _ _ _ _ _ _ _
      | exact ih2 _ _ _ _ _ _ _ _ _ _
      | exact ih3 _ _ _ _ _ _ _ _ _ _ _
      | exact spec_l20Rd_odd.mono _ _ _ _
      | exact spec_l20Rd_pick.mono _ _ _ _
      | exact LeO.none _
      | refine LeO.ite ?_ ?_
      | refine LeO.bind ?_ (fun _ => ?_)
    · intro y0 y1 y2 y3 y4 y5 y6 y7 y8 y9 y10
      unfold spec_l20Pattern.j3
      repeat' first
      | (with_reducible exact ih0 _ _ _ _ _ _ _)
      | (with_reducible exact ih1 _ _ _ _ _ _ _ _)
      | (with_reducible exact ih2 _ _ _ _ _ _ _ _ _ _)
      | (with_reducible exact ih3 _ _ _ _ _ _ _ _ _ _ _)
      | (with_reducible exact spec_l20Rd_odd.mono _ _ _ _)
      | (with_reducible exact spec_l20Rd_pick.mono _ _ _ _)
      | (with_reducible exact LeO.refl _)
      | (with_reducible exact LeO.none _)
      | (with_reducible refine LeO.ite ?_ ?_)
      | (with_reducible refine LeO.bind ?_ (fun _ => ?_))
      | exact ih0 _ _ _ _ _ _ _
      | exact ih1 _ _ _ _ _ _ _ _
      | exact ih2 _ _ _ _ _ _ _ _ _ _
      | exact ih3 _ _ _ _ _ _ _ _ _ _ _
      | exact spec_l20Rd_odd.mono _ _ _ _
      | exact spec_l20Rd_pick.mono _ _ _ _
      | exact LeO.none _
      | refine LeO.ite ?_ ?_
      | refine LeO.bind ?_ (fun _ => ?_)
theorem spec_l20Pattern.mono : ∀ a0 a1 a2 a3 a4 k, LeO (spec_l20Pattern.f k a0 a1 a2 a3 a4) (spec_l20Pattern.f (k + 1) a0 a1 a2 a3 a4) := by
  intro a0 a1 a2 a3 a4 k
  obtain ⟨ih0, ih1, ih2, ih3⟩ := spec_l20Pattern.mono_l k
  unfold spec_l20Pattern.f
  repeat' first
      | (with_reducible exact ih0 _ _ _ _ _ _ _)
      | (with_reducible exact ih1 _ _ _ _ _ _ _ _)
      | (with_reducible exact ih2 _ _ _ _ _ _ _ _ _ _)
      | (with_reducible exact ih3 _ _ _ _ _ _ _ _ _ _ _)
      | (with_reducible exact spec_l20Rd_odd.mono _ _ _ _)
      | (with_reducible exact spec_l20Rd_pick.mono _ _ _ _)
      | (with_reducible exact LeO.refl _)
      | (with_reducible exact LeO.none _)
      | (with_reducible refine LeO.ite ?_ ?_)
      | (with_reducible refine LeO.bind ?_ (fun _ => ?_))
      | exact ih0 _ _ _ _ _ _ _
      | exact ih1 _ _ _ _ _ _ _ _
      | exact ih2 _ _ _ _ _ _ _ _ _ _
      | exact ih3 _ _ _ _ _ _ _ _ _ _ _
      | exact spec_l20Rd_odd.mono _ _ _ _
      | exact spec_l20Rd_pick.mono _ _ _ _
      | exact LeO.none _
      | refine LeO.ite ?_ ?_
      | refine LeO.bind ?_ (fun _ => ?_)
set_option maxHeartbeats 8000000 in
set_option maxRecDepth 100000 in
theorem spec_l20Pattern.calls (k : Nat) (g : Nat) (s0_0 : List Int) (s0_1 : Int) (a1_0 : Int) (a1_1 : Int) (a2 : Int) (r1 : List Bool) (r2 : Int) (w0 w : World) (hI : IsS84 w0 w g s0_0 s0_1) (hB : Below w0.heap.size w0 w) (h : spec_l20Pattern.f k s0_0 s0_1 a1_0 a1_1 a2 = some (r1, r2)) :
    Calls Try.prog 59 #[.pointer (some ⟨g, 0, none⟩), .agg #[.int .i64 a1_0, .int .i64 a1_1], .int .i64 a2] w fun e w' => ∃ v0_ : Value, e = .returned (v0_) ∧ Kd.R Kd.bool 4 w' w.heap.size (fun _ => True) v0_ r1 ∧ IsS84 w0 w' g s0_0 r2 ∧ Below w0.heap.size w0 w' ∧ KeepBut w w' g none := by
  have hu37 := Try.underlying37
  have HI0 := Aside0.mk hI
  have HK := Aside0.mk (KeepBut.refl w g none)
  have HL := Aside0.mk hB.size
  clear hI
  have HW0 := Aside0.mk hB.size
  have HB := Aside0.mk hB
  clear hB
  have H : (if 120 ≤ 281474976710656 then (spec_l20Pattern.l0 k a2 (List.replicate 120 false) 0 s0_0 s0_1 a1_0 a1_1) else (none)) = some (r1, r2) := h
  clear h
  by_cases c4 : 120 ≤ 281474976710656
  · rw [if_pos c4] at H
    have c4b0 := eq_true c4
    have c4b1 : decide (120 ≤ 281474976710656) = true := decide_eq_true c4
    clear c4
    obtain ⟨y473, hy473⟩ : ∃ y_ : List Bool, y_ = (List.replicate 120 false) := ⟨_, rfl⟩
    replace H : (spec_l20Pattern.l0 k a2 y473 0 s0_0 s0_1 a1_0 a1_1) = some (r1, r2) := by first | (rw [hy473]; with_reducible exact H) | (have H2_ := (Option.bind_some _ _).symm.trans H; rw [hy473]; with_reducible exact H2_) | (have H2_ := (Option.bind_some _ _).symm.trans H; with_reducible exact H2_) | with_reducible exact H | (rw [hy473]; exact H) | exact H
    have Ny473 := Aside0.mk hy473
    clear hy473
    have H' := Aside0.mk H
    clear H
    go_enter Try.func59, Try.ntmps59
    go_wp2_with (first | ((with_reducible refine gate_dst (N := 4) rfl ?_); refine box_event ?hg (N := 4) ?hd (cs := #[.int .i64 a1_0, .int .i64 a1_1]) (t := 37) ?hr ?_; (case hd => rfl); (case hg => rfl); (case hr => first | (go_simp; done) | (go_simp; rfl)); intro gb472 hg w5 hbox hb; have n0_ := Aside0.mk (IsS84.below (by repeat (first | (with_reducible first | exact HI0.out | apply IsS84.alloc | apply IsS84.drewN | apply IsS84.drew | apply IsS84.set_1) | exact HI0.out)) hb); have n1_ := Aside0.mk (KeepBut.trans (by repeat (first | (with_reducible first | exact HK.out | apply KeepBut.set_ | apply keep_drewN | apply keep_drew | apply keep_alloc) | exact HK.out)) (KeepBut.of_below hb g none) (.inl rfl)); have n2_ := Aside0.mk (below_step (by repeat (first | (with_reducible first | exact HB.out | apply below_alloc | apply pw_below_drewN | apply below_drew1 | refine below_set ?_ (IsS84.ge HI0.out)) | exact HB.out)) hb); have n3_ := Aside0.mk (hbox); have n4_ := Aside0.mk ((by rw [hg]; exact (keep_size (w := w) (g := g) (row := none) (by repeat (first | (with_reducible first | exact HK.out | apply KeepBut.set_ | apply keep_drewN | apply keep_drew | apply keep_alloc) | exact HK.out))) : w.heap.size ≤ gb472)); have n5_ := Aside0.mk ((Nat.le_trans HW0.out (by rw [hg]; exact (keep_size (w := w) (g := g) (row := none) (by repeat (first | (with_reducible first | exact HK.out | apply KeepBut.set_ | apply keep_drewN | apply keep_drew | apply keep_alloc) | exact HK.out))) : w.heap.size ≤ gb472) : w0.heap.size ≤ gb472)); have n6_ := Aside0.mk ((by rw [hg]; exact Nat.ne_of_lt (IsS84.lt (show IsS84 w0 _ g s0_0 s0_1 from by repeat (first | (with_reducible first | exact HI0.out | apply IsS84.alloc | apply IsS84.drewN | apply IsS84.drew | apply IsS84.set_1) | exact HI0.out))) : g ≠ gb472)); have n7_ := Aside0.mk ((by rw [hg]; exact Nat.ne_of_gt (IsS84.lt (show IsS84 w0 _ g s0_0 s0_1 from by repeat (first | (with_reducible first | exact HI0.out | apply IsS84.alloc | apply IsS84.drewN | apply IsS84.drew | apply IsS84.set_1) | exact HI0.out))) : gb472 ≠ g)); clear HI0; clear HK; clear HB; have HI0 := n0_; have HK := n1_; have HB := n2_; have BK472 := n3_; have GW472 := n4_; have GE472 := n5_; have NB0_472 := n6_; have NB472_0 := n7_; clear n0_ n1_ n2_ n3_ n4_ n5_ n6_ n7_; clear hb hbox hg) | ((with_reducible refine gate_dst (N := 14) rfl ?_); refine Kd.R_make Kd.bool _ 4 rfl (N := 14) rfl 60 _ _ rfl 120 rfl rfl Try.underlying60 (.bool false) 1 info4 rfl (by decide) (by omega) false (ok := fun _ => True) (okp := fun _ => True) rfl (fun _ hk => hk) trivial (by omega) (by omega) (Below.refl _ _) (Nat.le_refl _) ?_; intro v474 w6 ho7 hb hg_ hnew_; clear hg_ hnew_; (first | rw [← Ny473.out] at ho7 | (simp only [Int.reduceToNat] at ho7; rw [← Ny473.out] at ho7)); have n0_ := Aside0.mk (Kd.R_lower ho7 (keep_size (w := w) (g := g) (row := none) (by repeat (first | (with_reducible first | exact HK.out | apply KeepBut.set_ | apply keep_drewN | apply keep_drew | apply keep_alloc | refine keep_far ?_ GW472.out _) | exact HK.out)))); have n1_ := Aside0.mk (IsS84.below (by repeat (first | (with_reducible first | exact HI0.out | apply IsS84.alloc | apply IsS84.drewN | apply IsS84.drew | apply IsS84.set_1 | refine IsS84.far ?_ NB0_472.out _) | exact HI0.out)) hb); have n2_ := Aside0.mk (blk_below (g := gb472) (o := .cells #[.int .i64 a1_0, .int .i64 a1_1] 37 (0, 0)) (by (with_reducible repeat (first | refine blk_drewN ?_ _ | refine blk_drew ?_ | refine blk_alloc ?_ _)); exact BK472.out) hb); have n3_ := Aside0.mk (KeepBut.trans (by repeat (first | (with_reducible first | exact HK.out | apply KeepBut.set_ | apply keep_drewN | apply keep_drew | apply keep_alloc | refine keep_far ?_ GW472.out _) | exact HK.out)) (KeepBut.of_below hb g none) (.inl rfl)); have n4_ := Aside0.mk (below_step (by repeat (first | (with_reducible first | exact HB.out | apply below_alloc | apply pw_below_drewN | apply below_drew1 | refine below_set ?_ (IsS84.ge HI0.out) | refine below_set ?_ GE472.out) | exact HB.out)) hb); clear HI0; clear BK472; clear HK; clear HB; have HO475 := n0_; have HI0 := n1_; have BK472 := n2_; have HK := n3_; have HB := n4_; clear n0_ n1_ n2_ n3_ n4_; clear hb ho7))
    go_loopg [8] k (fun kq v8 w' => ∃ (x7_1 : List Bool) (x8_1 : Int) (x1001_1 : Int), v8 = .int .i64 x8_1 ∧ Aside0 (spec_l20Pattern.l0 kq a2 x7_1 x8_1 s0_0 x1001_1 a1_0 a1_1 = some (r1, r2)) ∧ Aside0 (kq ≤ k) ∧ Aside0 (Kd.R Kd.bool 4 w' w.heap.size (fun _ => True) v474 x7_1) ∧ Aside0 (w'.heap[gb472]? = some (.cells #[.int .i64 a1_0, .int .i64 a1_1] 37 (0, 0))) ∧ Aside0 (IsS84 w0 w' g s0_0 x1001_1) ∧ Aside0 (KeepBut w w' g none) ∧ Aside0 (Below w0.heap.size w0 w'))
    case atStart => exact ⟨(y473), (0), (s0_1), (by first | rfl | (simp; done) | (simp [*]; done)), H', ⟨Nat.le_refl _⟩, ⟨by (with_reducible repeat (first | apply Kd.R_alloc | apply Kd.R_drewN | apply Kd.R_drew)); exact HO475.out⟩, ⟨by (with_reducible repeat (first | refine blk_drewN ?_ _ | refine blk_drew ?_ | refine blk_alloc ?_ _)); exact BK472.out⟩, ⟨by repeat (first | (with_reducible first | exact HI0.out | apply IsS84.alloc | apply IsS84.drewN | apply IsS84.drew | apply IsS84.set_1 | refine IsS84.far ?_ NB0_472.out _) | exact HI0.out)⟩, ⟨by repeat (first | (with_reducible first | exact HK.out | apply KeepBut.set_ | apply keep_drewN | apply keep_drew | apply keep_alloc | refine keep_far ?_ GW472.out _) | exact HK.out)⟩, ⟨by repeat (first | (with_reducible first | exact HB.out | apply below_alloc | apply pw_below_drewN | apply below_drew1 | refine below_set ?_ (IsS84.ge HI0.out) | refine below_set ?_ GE472.out) | exact HB.out)⟩⟩
    case round =>
      clear H'
      try clear p2
      try clear c4
      try clear c4b0
      try clear c4b1
      try clear c5
      obtain ⟨x7_1, x8_1, x1001_1, rfl, HA, HK1, HO_7, BK472, HI0, HK, HB⟩ := hrel
      cases gk with
      | zero => exact absurd HA.out (by simp [spec_l20Pattern.l0])
      | succ k1 =>
        have H := HA.out
        clear HA
        simp only [spec_l20Pattern.l0] at H
        have HC8 := Aside0.mk H
        clear H
        go_upto_region 3 with (fail)
        go_cut [20] (fun v20 wc => ∃ (kq : Nat) (x20_7 : Bool), v20 = .bool x20_7 ∧ Aside0 (spec_l20Pattern.j1 kq a2 x7_1 x8_1 x20_7 s0_0 x1001_1 a1_0 a1_1 = some (r1, r2)) ∧ Aside0 (kq ≤ k1) ∧ Aside0 (Kd.R Kd.bool 4 wc w.heap.size (fun _ => True) v474 x7_1) ∧ Aside0 (wc.heap[gb472]? = some (.cells #[.int .i64 a1_0, .int .i64 a1_1] 37 (0, 0))) ∧ Aside0 (IsS84 w0 wc g s0_0 x1001_1) ∧ Aside0 (KeepBut w wc g none) ∧ Aside0 (Below w0.heap.size w0 wc))
        case first =>
          have H := HC8.out
          clear HC8
          replace H := Option.bind_eq_some_iff.mp H
          obtain ⟨t476, A90, H⟩ := H
          replace H : (if t476 = true then (spec_l20Pattern.j1 k1 a2 x7_1 x8_1 (decide (x8_1 < 120)) s0_0 x1001_1 a1_0 a1_1) else (spec_l20Pattern.j1 k1 a2 x7_1 x8_1 false s0_0 x1001_1 a1_0 a1_1)) = some (r1, r2) := H
          have A9 := Aside0.mk A90
          clear A90
          by_cases c10 : t476 = true
          · subst c10
            have H1 : (spec_l20Pattern.j1 k1 a2 x7_1 x8_1 (decide (x8_1 < 120)) s0_0 x1001_1 a1_0 a1_1) = some (r1, r2) := by rw [if_pos rfl] at H; exact H
            clear H
            have H := H1
            clear H1
            have H' := Aside0.mk H
            clear H
            have hnb11 := NB472_0.out
            have hnc11 := NB0_472.out
            have hcz12_0 : wr.cell? ⟨gb472, 0, none⟩ = some (.int .i64 a1_0) := (blk_cell BK472.out 0).trans rfl
            have hcz12_1 : wr.cell? ⟨gb472, 1, none⟩ = some (.int .i64 a1_1) := (blk_cell BK472.out 1).trans rfl
            have hfz12_0 := blk_frozen BK472.out 0
            have hfz12_1 := blk_frozen BK472.out 1
            go_wp2_with (first | ((with_reducible refine gate_callee (f := 23) rfl ?_); refine goesL_ (some 16) rfl rfl Try.func23 (by kernel_rfl) rfl #[.agg #[.int .i64 a1_0, .int .i64 a1_1]] rfl (by (try simp only [List.map_toArray, List.map_cons, List.map_nil]); first | done | rfl | (simp only [List.length_drop, List.length_take]; rfl)) ?_; (with_reducible refine (spec_SupplyValid.calls a1_0 a1_1 true _ A9.out).mono ?_); rintro e w13 ⟨rfl, hb⟩; refine ⟨_, rfl, ?_⟩; have n0_ := Aside0.mk (Kd.R_below (by (with_reducible repeat (first | apply Kd.R_alloc | apply Kd.R_drewN | apply Kd.R_drew)); exact HO_7.out) hb); have n1_ := Aside0.mk (blk_below (g := gb472) (o := .cells #[.int .i64 a1_0, .int .i64 a1_1] 37 (0, 0)) (by (with_reducible repeat (first | refine blk_drewN ?_ _ | refine blk_drew ?_ | refine blk_alloc ?_ _)); exact BK472.out) hb); have n2_ := Aside0.mk (IsS84.below (by repeat (first | (with_reducible first | exact HI0.out | apply IsS84.alloc | apply IsS84.drewN | apply IsS84.drew | apply IsS84.set_1 | refine IsS84.far ?_ NB0_472.out _) | exact HI0.out)) hb); have n3_ := Aside0.mk (KeepBut.trans (by repeat (first | (with_reducible first | exact HK.out | apply KeepBut.set_ | apply keep_drewN | apply keep_drew | apply keep_alloc | refine keep_far ?_ GW472.out _) | exact HK.out)) (KeepBut.of_below hb g none) (.inl rfl)); have n4_ := Aside0.mk (below_step (by repeat (first | (with_reducible first | exact HB.out | apply below_alloc | apply pw_below_drewN | apply below_drew1 | refine below_set ?_ (IsS84.ge HI0.out) | refine below_set ?_ GE472.out) | exact HB.out)) hb); clear HO_7; clear BK472; clear HI0; clear HK; clear HB; have HO_7 := n0_; have BK472 := n1_; have HI0 := n2_; have HK := n3_; have HB := n4_; clear n0_ n1_ n2_ n3_ n4_; (try clear hb); (try clear hb2); (try clear hk); (try clear hi)))
            go_meet
            case rel => exact ⟨_, (decide (x8_1 < 120)), (by first | rfl | (simp; done) | (simp [*]; done)), H', ⟨by have := HK1.out; first | omega | exact Nat.le_refl _⟩, ⟨by (with_reducible repeat (first | apply Kd.R_alloc | apply Kd.R_drewN | apply Kd.R_drew)); exact HO_7.out⟩, ⟨by (with_reducible repeat (first | refine blk_drewN ?_ _ | refine blk_drew ?_ | refine blk_alloc ?_ _)); exact BK472.out⟩, ⟨by repeat (first | (with_reducible first | exact HI0.out | apply IsS84.alloc | apply IsS84.drewN | apply IsS84.drew | apply IsS84.set_1 | refine IsS84.far ?_ NB0_472.out _) | exact HI0.out)⟩, ⟨by repeat (first | (with_reducible first | exact HK.out | apply KeepBut.set_ | apply keep_drewN | apply keep_drew | apply keep_alloc | refine keep_far ?_ GW472.out _) | exact HK.out)⟩, ⟨by repeat (first | (with_reducible first | exact HB.out | apply below_alloc | apply pw_below_drewN | apply below_drew1 | refine below_set ?_ (IsS84.ge HI0.out) | refine below_set ?_ GE472.out) | exact HB.out)⟩⟩
          · replace c10 := Bool.eq_false_iff.mpr c10
            subst c10
            have H1 : (spec_l20Pattern.j1 k1 a2 x7_1 x8_1 false s0_0 x1001_1 a1_0 a1_1) = some (r1, r2) := by rw [if_neg (show ¬ (false = true) by decide)] at H; exact H
            clear H
            have H := H1
            clear H1
            have H' := Aside0.mk H
            clear H
            have hnb14 := NB472_0.out
            have hnc14 := NB0_472.out
            have hcz15_0 : wr.cell? ⟨gb472, 0, none⟩ = some (.int .i64 a1_0) := (blk_cell BK472.out 0).trans rfl
            have hcz15_1 : wr.cell? ⟨gb472, 1, none⟩ = some (.int .i64 a1_1) := (blk_cell BK472.out 1).trans rfl
            have hfz15_0 := blk_frozen BK472.out 0
            have hfz15_1 := blk_frozen BK472.out 1
            go_wp2_with (first | ((with_reducible refine gate_callee (f := 23) rfl ?_); refine goesL_ (some 16) rfl rfl Try.func23 (by kernel_rfl) rfl #[.agg #[.int .i64 a1_0, .int .i64 a1_1]] rfl (by (try simp only [List.map_toArray, List.map_cons, List.map_nil]); first | done | rfl | (simp only [List.length_drop, List.length_take]; rfl)) ?_; (with_reducible refine (spec_SupplyValid.calls a1_0 a1_1 false _ A9.out).mono ?_); rintro e w16 ⟨rfl, hb⟩; refine ⟨_, rfl, ?_⟩; have n0_ := Aside0.mk (Kd.R_below (by (with_reducible repeat (first | apply Kd.R_alloc | apply Kd.R_drewN | apply Kd.R_drew)); exact HO_7.out) hb); have n1_ := Aside0.mk (blk_below (g := gb472) (o := .cells #[.int .i64 a1_0, .int .i64 a1_1] 37 (0, 0)) (by (with_reducible repeat (first | refine blk_drewN ?_ _ | refine blk_drew ?_ | refine blk_alloc ?_ _)); exact BK472.out) hb); have n2_ := Aside0.mk (IsS84.below (by repeat (first | (with_reducible first | exact HI0.out | apply IsS84.alloc | apply IsS84.drewN | apply IsS84.drew | apply IsS84.set_1 | refine IsS84.far ?_ NB0_472.out _) | exact HI0.out)) hb); have n3_ := Aside0.mk (KeepBut.trans (by repeat (first | (with_reducible first | exact HK.out | apply KeepBut.set_ | apply keep_drewN | apply keep_drew | apply keep_alloc | refine keep_far ?_ GW472.out _) | exact HK.out)) (KeepBut.of_below hb g none) (.inl rfl)); have n4_ := Aside0.mk (below_step (by repeat (first | (with_reducible first | exact HB.out | apply below_alloc | apply pw_below_drewN | apply below_drew1 | refine below_set ?_ (IsS84.ge HI0.out) | refine below_set ?_ GE472.out) | exact HB.out)) hb); clear HO_7; clear BK472; clear HI0; clear HK; clear HB; have HO_7 := n0_; have BK472 := n1_; have HI0 := n2_; have HK := n3_; have HB := n4_; clear n0_ n1_ n2_ n3_ n4_; (try clear hb); (try clear hb2); (try clear hk); (try clear hi)))
            go_meet
            case rel => exact ⟨_, (false), (by first | rfl | (simp; done) | (simp [*]; done)), H', ⟨by have := HK1.out; first | omega | exact Nat.le_refl _⟩, ⟨by (with_reducible repeat (first | apply Kd.R_alloc | apply Kd.R_drewN | apply Kd.R_drew)); exact HO_7.out⟩, ⟨by (with_reducible repeat (first | refine blk_drewN ?_ _ | refine blk_drew ?_ | refine blk_alloc ?_ _)); exact BK472.out⟩, ⟨by repeat (first | (with_reducible first | exact HI0.out | apply IsS84.alloc | apply IsS84.drewN | apply IsS84.drew | apply IsS84.set_1 | refine IsS84.far ?_ NB0_472.out _) | exact HI0.out)⟩, ⟨by repeat (first | (with_reducible first | exact HK.out | apply KeepBut.set_ | apply keep_drewN | apply keep_drew | apply keep_alloc | refine keep_far ?_ GW472.out _) | exact HK.out)⟩, ⟨by repeat (first | (with_reducible first | exact HB.out | apply below_alloc | apply pw_below_drewN | apply below_drew1 | refine below_set ?_ (IsS84.ge HI0.out) | refine below_set ?_ GE472.out) | exact HB.out)⟩⟩
        case rest =>
          clear HC8
          try clear c1
          try clear c2
          try clear p2
          try clear c4
          try clear c4b0
          try clear c4b1
          try clear c5
          try clear c10
          try clear c11
          try clear c14
          try clear hcz12_0
          try clear hcz12_1
          try clear hcz15_0
          try clear hcz15_1
          try clear hfz12_0
          try clear hfz12_1
          try clear hfz15_0
          try clear hfz15_1
          try clear p2
          obtain ⟨kq, x20_7, rfl, HA, HJ7, HO_7, BK472, HI0, HK, HB⟩ := hcut
          cases kq with
          | zero => exact absurd HA.out (by simp [spec_l20Pattern.j1])
          | succ kj7 =>
            have H := HA.out
            clear HA
            simp only [spec_l20Pattern.j1] at H
            by_cases c17 : x20_7 = true
            · subst c17
              have H1 : ((spec_l20Rd_pick.f kj7 s0_0 x1001_1 3).bind fun bt477 => (spec_l20Pattern.l1 kj7 a2 x7_1 x8_1 bt477.1 a1_0 0 s0_0 bt477.2 a1_0 a1_1)) = some (r1, r2) := by rw [if_pos rfl] at H; exact H
              clear H
              have H := H1
              clear H1
              replace H := Option.bind_eq_some_iff.mp H
              obtain ⟨⟨t477, t478⟩, A180, H⟩ := H
              replace H : (spec_l20Pattern.l1 kj7 a2 x7_1 x8_1 t477 a1_0 0 s0_0 t478 a1_0 a1_1) = some (r1, r2) := H
              have A18 := Aside0.mk A180
              clear A180
              have H' := Aside0.mk H
              clear H
              go_wp2_with (first | ((with_reducible refine gate_callee (f := 58) rfl ?_); refine goesL_ (some 26) rfl rfl Try.func58 (by kernel_rfl) rfl #[.pointer (some ⟨g, 0, none⟩), .int .i64 3] rfl (by (try simp only [List.map_toArray, List.map_cons, List.map_nil]); first | done | rfl | (simp only [List.length_drop, List.length_take]; rfl)) ?_; (with_reducible refine (spec_l20Rd_pick.calls kj7 g s0_0 x1001_1 3 t477 t478 w0 _ ?side1 ?side2 A18.out).mono ?_); (case side1 => repeat (first | (with_reducible first | exact HI0.out | apply IsS84.alloc | apply IsS84.drewN | apply IsS84.drew | apply IsS84.set_1 | refine IsS84.far ?_ NB0_472.out _) | exact HI0.out)); (case side2 => repeat (first | (with_reducible first | exact HB.out | apply below_alloc | apply pw_below_drewN | apply below_drew1 | refine below_set ?_ (IsS84.ge HI0.out) | refine below_set ?_ GE472.out) | exact HB.out)); rintro e w19 ⟨rfl, hi, hb, hk⟩; refine ⟨_, rfl, ?_⟩; have n0_ := Aside0.mk (Kd.R_mono (Kd.R_keep (IsS84.apart (show IsS84 w0 _ g s0_0 x1001_1 from by repeat (first | (with_reducible first | exact HI0.out | apply IsS84.alloc | apply IsS84.drewN | apply IsS84.drew | apply IsS84.set_1 | refine IsS84.far ?_ NB0_472.out _) | exact HI0.out)) (by (with_reducible repeat (first | apply Kd.R_alloc | apply Kd.R_drewN | apply Kd.R_drew)); exact HO_7.out) (by decide)) hk (fun _ h => h.2)) (fun _ h => h.1)); have n1_ := Aside0.mk (KeepBut.blk hk (g' := gb472) (o := .cells #[.int .i64 a1_0, .int .i64 a1_1] 37 (0, 0)) (by (with_reducible repeat (first | refine blk_drewN ?_ _ | refine blk_drew ?_ | refine blk_alloc ?_ _)); exact BK472.out) NB472_0.out (by simp)); have n2_ := Aside0.mk (KeepBut.trans (by repeat (first | (with_reducible first | exact HK.out | apply KeepBut.set_ | apply keep_drewN | apply keep_drew | apply keep_alloc | refine keep_far ?_ GW472.out _) | exact HK.out)) hk (.inl rfl)); have n3_ := Aside0.mk (hb); have n4_ := Aside0.mk (hi); clear HO_7; clear BK472; clear HK; clear HB; clear HI0; have HO_7 := n0_; have BK472 := n1_; have HK := n2_; have HB := n3_; have HI0 := n4_; clear n0_ n1_ n2_ n3_ n4_; (try clear hb); (try clear hb2); (try clear hk); (try clear hi); have hnb20 := NB472_0.out; have hnc20 := NB0_472.out; have hcz21_0 : w19.cell? ⟨gb472, 0, none⟩ = some (.int .i64 a1_0) := (blk_cell BK472.out 0).trans rfl; have hcz21_1 : w19.cell? ⟨gb472, 1, none⟩ = some (.int .i64 a1_1) := (blk_cell BK472.out 1).trans rfl; have hfz21_0 := blk_frozen BK472.out 0; have hfz21_1 := blk_frozen BK472.out 1))
              go_loopg [10, 11] kj7 (fun kq v10 v11 w' => ∃ (x7_3 : List Bool) (x10_3 : Int) (x11_3 : Int) (x1001_3 : Int), v10 = .int .i64 x10_3 ∧ v11 = .int .i64 x11_3 ∧ Aside0 (spec_l20Pattern.l1 kq a2 x7_3 x8_1 t477 x10_3 x11_3 s0_0 x1001_3 a1_0 a1_1 = some (r1, r2)) ∧ Aside0 (kq ≤ kj7) ∧ Aside0 (Kd.R Kd.bool 4 w' w.heap.size (fun _ => True) v474 x7_3) ∧ Aside0 (w'.heap[gb472]? = some (.cells #[.int .i64 a1_0, .int .i64 a1_1] 37 (0, 0))) ∧ Aside0 (IsS84 w0 w' g s0_0 x1001_3) ∧ Aside0 (KeepBut w w' g none) ∧ Aside0 (Below w0.heap.size w0 w'))
              case atStart => exact ⟨(x7_1), (a1_0), (0), (t478), (by first | rfl | (simp; done) | (simp [*]; done)), (by first | rfl | (simp; done) | (simp [*]; done)), H', ⟨Nat.le_refl _⟩, ⟨by (with_reducible repeat (first | apply Kd.R_alloc | apply Kd.R_drewN | apply Kd.R_drew)); exact HO_7.out⟩, ⟨by (with_reducible repeat (first | refine blk_drewN ?_ _ | refine blk_drew ?_ | refine blk_alloc ?_ _)); exact BK472.out⟩, ⟨by repeat (first | (with_reducible first | exact HI0.out | apply IsS84.alloc | apply IsS84.drewN | apply IsS84.drew | apply IsS84.set_1 | refine IsS84.far ?_ NB0_472.out _) | exact HI0.out)⟩, ⟨by repeat (first | (with_reducible first | exact HK.out | apply KeepBut.set_ | apply keep_drewN | apply keep_drew | apply keep_alloc | refine keep_far ?_ GW472.out _) | exact HK.out)⟩, ⟨by repeat (first | (with_reducible first | exact HB.out | apply below_alloc | apply pw_below_drewN | apply below_drew1 | refine below_set ?_ (IsS84.ge HI0.out) | refine below_set ?_ GE472.out) | exact HB.out)⟩⟩
              case round =>
                clear H'
                try clear c1
                try clear c2
                try clear p2
                try clear c4
                try clear c4b0
                try clear c4b1
                try clear c5
                try clear c10
                try clear c11
                try clear c14
                try clear c17
                try clear c20
                try clear hcz12_0
                try clear hcz12_1
                try clear hcz15_0
                try clear hcz15_1
                try clear hcz21_0
                try clear hcz21_1
                try clear hfz12_0
                try clear hfz12_1
                try clear hfz15_0
                try clear hfz15_1
                try clear hfz21_0
                try clear hfz21_1
                try clear p2
                obtain ⟨x7_3, x10_3, x11_3, x1001_3, rfl, rfl, HA, HK3, HO_7, BK472, HI0, HK, HB⟩ := hrel
                cases gk with
                | zero => exact absurd HA.out (by simp [spec_l20Pattern.l1])
                | succ k3 =>
                  have H := HA.out
                  clear HA
                  simp only [spec_l20Pattern.l1] at H
                  have HC22 := Aside0.mk H
                  clear H
                  go_upto_region 8 with (fail)
                  go_cut [38] (fun v38 wc => ∃ (kq : Nat) (x38_21 : Bool), v38 = .bool x38_21 ∧ Aside0 (spec_l20Pattern.j3 kq a2 x7_3 x8_1 t477 x10_3 x11_3 x38_21 s0_0 x1001_3 a1_0 a1_1 = some (r1, r2)) ∧ Aside0 (kq ≤ k3) ∧ Aside0 (Kd.R Kd.bool 4 wc w.heap.size (fun _ => True) v474 x7_3) ∧ Aside0 (wc.heap[gb472]? = some (.cells #[.int .i64 a1_0, .int .i64 a1_1] 37 (0, 0))) ∧ Aside0 (IsS84 w0 wc g s0_0 x1001_3) ∧ Aside0 (KeepBut w wc g none) ∧ Aside0 (Below w0.heap.size w0 wc))
                  case first =>
                    have H := HC22.out
                    clear HC22
                    by_cases c23 : x11_3 < a1_1
                    · rw [if_pos c23] at H
                      have c23b0 : decide (x11_3 < a1_1) = true := decide_eq_true c23
                      clear c23
                      (first | rw [c23b0] | (simp only [i64_w, i32_w]; rw [c23b0]) | skip)
                      have H' := Aside0.mk H
                      clear H
                      have hnb24 := NB472_0.out
                      have hnc24 := NB0_472.out
                      have hcz25_0 : wr.cell? ⟨gb472, 0, none⟩ = some (.int .i64 a1_0) := (blk_cell BK472.out 0).trans rfl
                      have hcz25_1 : wr.cell? ⟨gb472, 1, none⟩ = some (.int .i64 a1_1) := (blk_cell BK472.out 1).trans rfl
                      have hfz25_0 := blk_frozen BK472.out 0
                      have hfz25_1 := blk_frozen BK472.out 1
                      go_wp2
                      go_meet
                      case rel => exact ⟨_, (decide ((wrap64 (x8_1 + x11_3)) < 120)), (by first | rfl | (simp; done) | (simp [*]; done)), H', ⟨by have := HK1.out; have := HJ7.out; have := HK3.out; first | omega | exact Nat.le_refl _⟩, ⟨by (with_reducible repeat (first | apply Kd.R_alloc | apply Kd.R_drewN | apply Kd.R_drew)); exact HO_7.out⟩, ⟨by (with_reducible repeat (first | refine blk_drewN ?_ _ | refine blk_drew ?_ | refine blk_alloc ?_ _)); exact BK472.out⟩, ⟨by repeat (first | (with_reducible first | exact HI0.out | apply IsS84.alloc | apply IsS84.drewN | apply IsS84.drew | apply IsS84.set_1 | refine IsS84.far ?_ NB0_472.out _) | exact HI0.out)⟩, ⟨by repeat (first | (with_reducible first | exact HK.out | apply KeepBut.set_ | apply keep_drewN | apply keep_drew | apply keep_alloc | refine keep_far ?_ GW472.out _) | exact HK.out)⟩, ⟨by repeat (first | (with_reducible first | exact HB.out | apply below_alloc | apply pw_below_drewN | apply below_drew1 | refine below_set ?_ (IsS84.ge HI0.out) | refine below_set ?_ GE472.out) | exact HB.out)⟩⟩
                    · rw [if_neg c23] at H
                      have c23b0 : decide (x11_3 < a1_1) = false := decide_eq_false c23
                      clear c23
                      (first | rw [c23b0] | (simp only [i64_w, i32_w]; rw [c23b0]) | skip)
                      have H' := Aside0.mk H
                      clear H
                      have hnb26 := NB472_0.out
                      have hnc26 := NB0_472.out
                      have hcz27_0 : wr.cell? ⟨gb472, 0, none⟩ = some (.int .i64 a1_0) := (blk_cell BK472.out 0).trans rfl
                      have hcz27_1 : wr.cell? ⟨gb472, 1, none⟩ = some (.int .i64 a1_1) := (blk_cell BK472.out 1).trans rfl
                      have hfz27_0 := blk_frozen BK472.out 0
                      have hfz27_1 := blk_frozen BK472.out 1
                      go_wp2
                      go_meet
                      case rel => exact ⟨_, (false), (by first | rfl | (simp; done) | (simp [*]; done)), H', ⟨by have := HK1.out; have := HJ7.out; have := HK3.out; first | omega | exact Nat.le_refl _⟩, ⟨by (with_reducible repeat (first | apply Kd.R_alloc | apply Kd.R_drewN | apply Kd.R_drew)); exact HO_7.out⟩, ⟨by (with_reducible repeat (first | refine blk_drewN ?_ _ | refine blk_drew ?_ | refine blk_alloc ?_ _)); exact BK472.out⟩, ⟨by repeat (first | (with_reducible first | exact HI0.out | apply IsS84.alloc | apply IsS84.drewN | apply IsS84.drew | apply IsS84.set_1 | refine IsS84.far ?_ NB0_472.out _) | exact HI0.out)⟩, ⟨by repeat (first | (with_reducible first | exact HK.out | apply KeepBut.set_ | apply keep_drewN | apply keep_drew | apply keep_alloc | refine keep_far ?_ GW472.out _) | exact HK.out)⟩, ⟨by repeat (first | (with_reducible first | exact HB.out | apply below_alloc | apply pw_below_drewN | apply below_drew1 | refine below_set ?_ (IsS84.ge HI0.out) | refine below_set ?_ GE472.out) | exact HB.out)⟩⟩
                  case rest =>
                    clear HC22
                    try clear c1
                    try clear c2
                    try clear p2
                    try clear c4
                    try clear c4b0
                    try clear c4b1
                    try clear c5
                    try clear p6
                    try clear c10
                    try clear c11
                    try clear c14
                    try clear c17
                    try clear c20
                    try clear c23
                    try clear c23b0
                    try clear c24
                    try clear c26
                    try clear hcz12_0
                    try clear hcz12_1
                    try clear hcz15_0
                    try clear hcz15_1
                    try clear hcz21_0
                    try clear hcz21_1
                    try clear hcz25_0
                    try clear hcz25_1
                    try clear hcz27_0
                    try clear hcz27_1
                    try clear hfz12_0
                    try clear hfz12_1
                    try clear hfz15_0
                    try clear hfz15_1
                    try clear hfz21_0
                    try clear hfz21_1
                    try clear hfz25_0
                    try clear hfz25_1
                    try clear hfz27_0
                    try clear hfz27_1
                    try clear p2
                    obtain ⟨kq, x38_21, rfl, HA, HJ21, HO_7, BK472, HI0, HK, HB⟩ := hcut
                    cases kq with
                    | zero => exact absurd HA.out (by simp [spec_l20Pattern.j3])
                    | succ kj21 =>
                      have H := HA.out
                      clear HA
                      simp only [spec_l20Pattern.j3] at H
                      by_cases c28 : x38_21 = true
                      · subst c28
                        have H1 : (if x10_3 > 0 then (if t477 = 0 then (if 0 ≤ (wrap64 (x8_1 + x11_3)) then (if (wrap64 (x8_1 + x11_3)) < (x7_3.length : Int) then (spec_l20Pattern.l1 kj21 a2 (x7_3.set ((wrap64 (x8_1 + x11_3)) : Int).toNat true) x8_1 t477 (wrap64 (x10_3 - 1)) (wrap64 (x11_3 + 1)) s0_0 x1001_3 a1_0 a1_1) else (none)) else (none)) else (if x10_3 = (wrap64 (a1_1 - x11_3)) then (if 0 ≤ (wrap64 (x8_1 + x11_3)) then (if (wrap64 (x8_1 + x11_3)) < (x7_3.length : Int) then (spec_l20Pattern.l1 kj21 a2 (x7_3.set ((wrap64 (x8_1 + x11_3)) : Int).toNat true) x8_1 t477 (wrap64 (x10_3 - 1)) (wrap64 (x11_3 + 1)) s0_0 x1001_3 a1_0 a1_1) else (none)) else (none)) else (if t477 = 2 then ((spec_l20Rd_pick.f kj21 s0_0 x1001_3 2).bind fun bt481 => (if 0 ≤ (wrap64 (x8_1 + x11_3)) then (if (wrap64 (x8_1 + x11_3)) < (x7_3.length : Int) then ((some (x7_3.set ((wrap64 (x8_1 + x11_3)) : Int).toNat (bt481.1 == 0) : List Bool)).bind fun y483 => (if bt481.1 = 0 then (spec_l20Pattern.l1 kj21 a2 y483 x8_1 t477 (wrap64 (x10_3 - 1)) (wrap64 (x11_3 + 1)) s0_0 bt481.2 a1_0 a1_1) else (spec_l20Pattern.l1 kj21 a2 y483 x8_1 t477 x10_3 (wrap64 (x11_3 + 1)) s0_0 bt481.2 a1_0 a1_1))) else (none)) else (none))) else (if 0 ≤ (wrap64 (x8_1 + x11_3)) then (if (wrap64 (x8_1 + x11_3)) < (x7_3.length : Int) then (spec_l20Pattern.l1 kj21 a2 (x7_3.set ((wrap64 (x8_1 + x11_3)) : Int).toNat false) x8_1 t477 x10_3 (wrap64 (x11_3 + 1)) s0_0 x1001_3 a1_0 a1_1) else (none)) else (none))))) else (if 0 ≤ (wrap64 (x8_1 + x11_3)) then (if (wrap64 (x8_1 + x11_3)) < (x7_3.length : Int) then (spec_l20Pattern.l1 kj21 a2 (x7_3.set ((wrap64 (x8_1 + x11_3)) : Int).toNat false) x8_1 t477 x10_3 (wrap64 (x11_3 + 1)) s0_0 x1001_3 a1_0 a1_1) else (none)) else (none))) = some (r1, r2) := by rw [if_pos rfl] at H; exact H
                        clear H
                        have H := H1
                        clear H1
                        by_cases c29 : x10_3 > 0
                        · rw [if_pos c29] at H
                          have c29b0 : decide (0 < x10_3) = true := decide_eq_true c29
                          clear c29
                          by_cases c30 : t477 = 0
                          · rw [if_pos c30] at H
                            have c30b0 : (t477 == 0) = true := beq_iff_eq.mpr c30
                            have c30b1 : (t477 != 0) = false := bne_eq_false_iff_eq.mpr c30
                            clear c30
                            obtain ⟨ji31, hji31⟩ : ∃ j_ : Int, (wrap64 (x8_1 + x11_3)) = j_ := ⟨_, rfl⟩
                            replace H : (if 0 ≤ (ji31) then (if (ji31) < (x7_3.length : Int) then (spec_l20Pattern.l1 kj21 a2 (x7_3.set ((ji31) : Int).toNat true) x8_1 t477 (wrap64 (x10_3 - 1)) (wrap64 (x11_3 + 1)) s0_0 x1001_3 a1_0 a1_1) else (none)) else (none)) = some (r1, r2) := by first | (rw [hji31] at H; exact H) | (simp only [hji31] at H ⊢; exact H)
                            have hji31w : (IntKind.i64.wrap (x8_1 + x11_3)) = ji31 := (i64_w _).trans hji31
                            by_cases c32 : 0 ≤ (ji31)
                            · rw [if_pos c32] at H
                              have c32b0 : decide (0 ≤ (ji31)) = true := decide_eq_true c32
                              clear c32
                              by_cases c33 : (ji31) < (x7_3.length : Int)
                              · rw [if_pos c33] at H
                                have c33b0 : decide ((ji31) < (x7_3.length : Int)) = true := decide_eq_true c33
                                clear c33
                                obtain ⟨y479, hy479⟩ : ∃ y_ : List Bool, y_ = (x7_3.set ((ji31) : Int).toNat true) := ⟨_, rfl⟩
                                replace H : (spec_l20Pattern.l1 kj21 a2 y479 x8_1 t477 (wrap64 (x10_3 - 1)) (wrap64 (x11_3 + 1)) s0_0 x1001_3 a1_0 a1_1) = some (r1, r2) := by first | (rw [hy479]; with_reducible exact H) | (have H2_ := (Option.bind_some _ _).symm.trans H; rw [hy479]; with_reducible exact H2_) | (have H2_ := (Option.bind_some _ _).symm.trans H; with_reducible exact H2_) | with_reducible exact H | (rw [hy479]; exact H) | exact H
                                have Ny479 := Aside0.mk hy479
                                clear hy479
                                have H' := Aside0.mk H
                                clear H
                                have p34 : 0 ≤ ((ji31) : Int) := of_decide_eq_true (by first | (with_reducible assumption) | assumption)
                                have q34 : ((ji31) : Int) < ((x7_3.length : Int) : Int) := of_decide_eq_true (by first | (with_reducible assumption) | assumption)
                                obtain ⟨go34, co34, eo34, gb34, gl34, cl34, HG34⟩ := Kd.R_form HO_7.out (by omega)
                                (first | cases eo34 | (injection eo34 with ea_ en_ ec_; (first | subst ea_ | (injection ea_ with ea_; subst ea_)); subst ec_; clear en_))
                                have GB34 := Aside0.mk gb34
                                have GG34 := Aside0.mk HG34
                                clear gb34 gl34 HG34
                                obtain ⟨hx34_0, hf34_0⟩ := Kd.R_celln false HO_7.out ((ji31) : Int) p34 q34
                                replace p34 := eq_true p34
                                replace q34 := eq_true q34
                                have HP35 := Kd.R_putg HO_7.out ((ji31) : Int) true
                                go_wp2_with (first | ((with_reducible refine gate_store (t := 4) (p := 69) rfl ?_); refine store_event (t := 4) (p := 69) (v := ?vo_w36) (w1 := (wc.setCell ⟨go34, ((ji31) : Int).toNat, none⟩ (.bool true))) ?hg ?ho ?hn ?hr ?_; (case ho => rfl); (case hg => rfl); (case hn => rfl); (case hr => first | (go_simp; done) | (go_simp; rfl)); intro w36 hw; have hg : wc.grownBy w36 (some go34) := (by rw [hw]; exact HP35.2); have hp_ : Kd.R Kd.bool 4 w36 w.heap.size (fun _ => True) (.slice (some ⟨go34, 0, none⟩) x7_3.length co34) y479 := (by rw [hw, Ny479.out]; exact HP35.1); clear HP35; have n0_ := Aside0.mk (hp_); have n1_ := Aside0.mk (blk_grown (g := gb472) (o := .cells #[.int .i64 a1_0, .int .i64 a1_1] 37 (0, 0)) (by (with_reducible repeat (first | refine blk_drewN ?_ _ | refine blk_drew ?_ | refine blk_alloc ?_ _)); exact BK472.out) hg (Kd.R_ne HO_7.out BK472.out (by decide))); have n2_ := Aside0.mk (IsS84.grown (by repeat (first | (with_reducible first | exact HI0.out | apply IsS84.alloc | apply IsS84.drewN | apply IsS84.drew | apply IsS84.set_1 | refine IsS84.far ?_ NB0_472.out _) | exact HI0.out)) hg (IsS84.own_ne HI0.out HO_7.out (by decide))); have n3_ := Aside0.mk ((by rw [hw]; exact below_set (HB.out) (Nat.le_trans HL.out GB34.out) : Below w0.heap.size w0 w36)); have n4_ := Aside0.mk (KeepBut.trans (by repeat (first | (with_reducible first | exact HK.out | apply KeepBut.set_ | apply keep_drewN | apply keep_drew | apply keep_alloc | refine keep_far ?_ GW472.out _) | exact HK.out)) (KeepBut.of_grown hg g) (Kd.R_base2 HO_7.out)); clear HO_7; clear BK472; clear HI0; clear HB; clear HK; have HO_7 := n0_; have BK472 := n1_; have HI0 := n2_; have HB := n3_; have HK := n4_; clear n0_ n1_ n2_ n3_ n4_; clear hg hw hp_))
                                go_roundg kj21
                                case measure => have := HK1.out; have := HJ7.out; have := HK3.out; have := HJ21.out; omega
                                case rel => exact ⟨(y479), (wrap64 (x10_3 - 1)), (wrap64 (x11_3 + 1)), (x1001_3), (by first | rfl | (simp; done) | (simp [*]; done)), (by first | rfl | (simp; done) | (simp [*]; done)), H', ⟨by have := HK1.out; have := HJ7.out; have := HK3.out; have := HJ21.out; omega⟩, ⟨by (with_reducible repeat (first | apply Kd.R_alloc | apply Kd.R_drewN | apply Kd.R_drew)); exact HO_7.out⟩, ⟨by (with_reducible repeat (first | refine blk_drewN ?_ _ | refine blk_drew ?_ | refine blk_alloc ?_ _)); exact BK472.out⟩, ⟨by repeat (first | (with_reducible first | exact HI0.out | apply IsS84.alloc | apply IsS84.drewN | apply IsS84.drew | apply IsS84.set_1 | refine IsS84.far ?_ NB0_472.out _) | exact HI0.out)⟩, ⟨by repeat (first | (with_reducible first | exact HK.out | apply KeepBut.set_ | apply keep_drewN | apply keep_drew | apply keep_alloc | refine keep_far ?_ GW472.out _) | exact HK.out)⟩, ⟨by repeat (first | (with_reducible first | exact HB.out | apply below_alloc | apply pw_below_drewN | apply below_drew1 | refine below_set ?_ (IsS84.ge HI0.out) | refine below_set ?_ GE472.out) | exact HB.out)⟩⟩
                              · rw [if_neg c33] at H
                                exact absurd H (by simp)
                            · rw [if_neg c32] at H
                              exact absurd H (by simp)
                          · rw [if_neg c30] at H
                            have c30b0 : (t477 == 0) = false := beq_eq_false_iff_ne.mpr c30
                            have c30b1 : (t477 != 0) = true := bne_iff_ne.mpr c30
                            by_cases c37 : x10_3 = (wrap64 (a1_1 - x11_3))
                            · rw [if_pos c37] at H
                              have c37b0 : (x10_3 == (wrap64 (a1_1 - x11_3))) = true := beq_iff_eq.mpr c37
                              have c37b1 : (x10_3 != (wrap64 (a1_1 - x11_3))) = false := bne_eq_false_iff_eq.mpr c37
                              clear c37
                              obtain ⟨ji38, hji38⟩ : ∃ j_ : Int, (wrap64 (x8_1 + x11_3)) = j_ := ⟨_, rfl⟩
                              replace H : (if 0 ≤ (ji38) then (if (ji38) < (x7_3.length : Int) then (spec_l20Pattern.l1 kj21 a2 (x7_3.set ((ji38) : Int).toNat true) x8_1 t477 (wrap64 (x10_3 - 1)) (wrap64 (x11_3 + 1)) s0_0 x1001_3 a1_0 a1_1) else (none)) else (none)) = some (r1, r2) := by first | (rw [hji38] at H; exact H) | (simp only [hji38] at H ⊢; exact H)
                              have hji38w : (IntKind.i64.wrap (x8_1 + x11_3)) = ji38 := (i64_w _).trans hji38
                              by_cases c39 : 0 ≤ (ji38)
                              · rw [if_pos c39] at H
                                have c39b0 : decide (0 ≤ (ji38)) = true := decide_eq_true c39
                                clear c39
                                by_cases c40 : (ji38) < (x7_3.length : Int)
                                · rw [if_pos c40] at H
                                  have c40b0 : decide ((ji38) < (x7_3.length : Int)) = true := decide_eq_true c40
                                  clear c40
                                  obtain ⟨y480, hy480⟩ : ∃ y_ : List Bool, y_ = (x7_3.set ((ji38) : Int).toNat true) := ⟨_, rfl⟩
                                  replace H : (spec_l20Pattern.l1 kj21 a2 y480 x8_1 t477 (wrap64 (x10_3 - 1)) (wrap64 (x11_3 + 1)) s0_0 x1001_3 a1_0 a1_1) = some (r1, r2) := by first | (rw [hy480]; with_reducible exact H) | (have H2_ := (Option.bind_some _ _).symm.trans H; rw [hy480]; with_reducible exact H2_) | (have H2_ := (Option.bind_some _ _).symm.trans H; with_reducible exact H2_) | with_reducible exact H | (rw [hy480]; exact H) | exact H
                                  have Ny480 := Aside0.mk hy480
                                  clear hy480
                                  have H' := Aside0.mk H
                                  clear H
                                  have hnb42 := NB472_0.out
                                  have hnc42 := NB0_472.out
                                  have hcz43_0 : wc.cell? ⟨gb472, 0, none⟩ = some (.int .i64 a1_0) := (blk_cell BK472.out 0).trans rfl
                                  have hcz43_1 : wc.cell? ⟨gb472, 1, none⟩ = some (.int .i64 a1_1) := (blk_cell BK472.out 1).trans rfl
                                  have hfz43_0 := blk_frozen BK472.out 0
                                  have hfz43_1 := blk_frozen BK472.out 1
                                  have p41 : 0 ≤ ((ji38) : Int) := of_decide_eq_true (by first | (with_reducible assumption) | assumption)
                                  have q41 : ((ji38) : Int) < ((x7_3.length : Int) : Int) := of_decide_eq_true (by first | (with_reducible assumption) | assumption)
                                  obtain ⟨go41, co41, eo41, gb41, gl41, cl41, HG41⟩ := Kd.R_form HO_7.out (by omega)
                                  (first | cases eo41 | (injection eo41 with ea_ en_ ec_; (first | subst ea_ | (injection ea_ with ea_; subst ea_)); subst ec_; clear en_))
                                  have GB41 := Aside0.mk gb41
                                  have GG41 := Aside0.mk HG41
                                  clear gb41 gl41 HG41
                                  obtain ⟨hx41_0, hf41_0⟩ := Kd.R_celln false HO_7.out ((ji38) : Int) p41 q41
                                  replace p41 := eq_true p41
                                  replace q41 := eq_true q41
                                  have HP44 := Kd.R_putg HO_7.out ((ji38) : Int) true
                                  go_wp2_with (first | ((with_reducible refine gate_store (t := 4) (p := 69) rfl ?_); refine store_event (t := 4) (p := 69) (v := ?vo_w45) (w1 := (wc.setCell ⟨go41, ((ji38) : Int).toNat, none⟩ (.bool true))) ?hg ?ho ?hn ?hr ?_; (case ho => rfl); (case hg => rfl); (case hn => rfl); (case hr => first | (go_simp; done) | (go_simp; rfl)); intro w45 hw; have hg : wc.grownBy w45 (some go41) := (by rw [hw]; exact HP44.2); have hp_ : Kd.R Kd.bool 4 w45 w.heap.size (fun _ => True) (.slice (some ⟨go41, 0, none⟩) x7_3.length co41) y480 := (by rw [hw, Ny480.out]; exact HP44.1); clear HP44; have n0_ := Aside0.mk (hp_); have n1_ := Aside0.mk (blk_grown (g := gb472) (o := .cells #[.int .i64 a1_0, .int .i64 a1_1] 37 (0, 0)) (by (with_reducible repeat (first | refine blk_drewN ?_ _ | refine blk_drew ?_ | refine blk_alloc ?_ _)); exact BK472.out) hg (Kd.R_ne HO_7.out BK472.out (by decide))); have n2_ := Aside0.mk (IsS84.grown (by repeat (first | (with_reducible first | exact HI0.out | apply IsS84.alloc | apply IsS84.drewN | apply IsS84.drew | apply IsS84.set_1 | refine IsS84.far ?_ NB0_472.out _) | exact HI0.out)) hg (IsS84.own_ne HI0.out HO_7.out (by decide))); have n3_ := Aside0.mk ((by rw [hw]; exact below_set (HB.out) (Nat.le_trans HL.out GB41.out) : Below w0.heap.size w0 w45)); have n4_ := Aside0.mk (KeepBut.trans (by repeat (first | (with_reducible first | exact HK.out | apply KeepBut.set_ | apply keep_drewN | apply keep_drew | apply keep_alloc | refine keep_far ?_ GW472.out _) | exact HK.out)) (KeepBut.of_grown hg g) (Kd.R_base2 HO_7.out)); clear HO_7; clear BK472; clear HI0; clear HB; clear HK; have HO_7 := n0_; have BK472 := n1_; have HI0 := n2_; have HB := n3_; have HK := n4_; clear n0_ n1_ n2_ n3_ n4_; clear hg hw hp_))
                                  go_roundg kj21
                                  case measure => have := HK1.out; have := HJ7.out; have := HK3.out; have := HJ21.out; omega
                                  case rel => exact ⟨(y480), (wrap64 (x10_3 - 1)), (wrap64 (x11_3 + 1)), (x1001_3), (by first | rfl | (simp; done) | (simp [*]; done)), (by first | rfl | (simp; done) | (simp [*]; done)), H', ⟨by have := HK1.out; have := HJ7.out; have := HK3.out; have := HJ21.out; omega⟩, ⟨by (with_reducible repeat (first | apply Kd.R_alloc | apply Kd.R_drewN | apply Kd.R_drew)); exact HO_7.out⟩, ⟨by (with_reducible repeat (first | refine blk_drewN ?_ _ | refine blk_drew ?_ | refine blk_alloc ?_ _)); exact BK472.out⟩, ⟨by repeat (first | (with_reducible first | exact HI0.out | apply IsS84.alloc | apply IsS84.drewN | apply IsS84.drew | apply IsS84.set_1 | refine IsS84.far ?_ NB0_472.out _) | exact HI0.out)⟩, ⟨by repeat (first | (with_reducible first | exact HK.out | apply KeepBut.set_ | apply keep_drewN | apply keep_drew | apply keep_alloc | refine keep_far ?_ GW472.out _) | exact HK.out)⟩, ⟨by repeat (first | (with_reducible first | exact HB.out | apply below_alloc | apply pw_below_drewN | apply below_drew1 | refine below_set ?_ (IsS84.ge HI0.out) | refine below_set ?_ GE472.out) | exact HB.out)⟩⟩
                                · rw [if_neg c40] at H
                                  exact absurd H (by simp)
                              · rw [if_neg c39] at H
                                exact absurd H (by simp)
                            · rw [if_neg c37] at H
                              have c37b0 : (x10_3 == (wrap64 (a1_1 - x11_3))) = false := beq_eq_false_iff_ne.mpr c37
                              have c37b1 : (x10_3 != (wrap64 (a1_1 - x11_3))) = true := bne_iff_ne.mpr c37
                              by_cases c46 : t477 = 2
                              · rw [if_pos c46] at H
                                have c46b0 : (t477 == 2) = true := beq_iff_eq.mpr c46
                                have c46b1 : (t477 != 2) = false := bne_eq_false_iff_eq.mpr c46
                                clear c46
                                replace H := Option.bind_eq_some_iff.mp H
                                obtain ⟨⟨t481, t482⟩, A470, H⟩ := H
                                replace H : (if 0 ≤ (wrap64 (x8_1 + x11_3)) then (if (wrap64 (x8_1 + x11_3)) < (x7_3.length : Int) then ((some (x7_3.set ((wrap64 (x8_1 + x11_3)) : Int).toNat (t481 == 0) : List Bool)).bind fun y483 => (if t481 = 0 then (spec_l20Pattern.l1 kj21 a2 y483 x8_1 t477 (wrap64 (x10_3 - 1)) (wrap64 (x11_3 + 1)) s0_0 t482 a1_0 a1_1) else (spec_l20Pattern.l1 kj21 a2 y483 x8_1 t477 x10_3 (wrap64 (x11_3 + 1)) s0_0 t482 a1_0 a1_1))) else (none)) else (none)) = some (r1, r2) := H
                                have A47 := Aside0.mk A470
                                clear A470
                                obtain ⟨ji48, hji48⟩ : ∃ j_ : Int, (wrap64 (x8_1 + x11_3)) = j_ := ⟨_, rfl⟩
                                replace H : (if 0 ≤ (ji48) then (if (ji48) < (x7_3.length : Int) then ((some (x7_3.set ((ji48) : Int).toNat (t481 == 0) : List Bool)).bind fun y483 => (if t481 = 0 then (spec_l20Pattern.l1 kj21 a2 y483 x8_1 t477 (wrap64 (x10_3 - 1)) (wrap64 (x11_3 + 1)) s0_0 t482 a1_0 a1_1) else (spec_l20Pattern.l1 kj21 a2 y483 x8_1 t477 x10_3 (wrap64 (x11_3 + 1)) s0_0 t482 a1_0 a1_1))) else (none)) else (none)) = some (r1, r2) := by first | (rw [hji48] at H; exact H) | (simp only [hji48] at H ⊢; exact H)
                                (try rw [hji48] at A47)
                                have hji48w : (IntKind.i64.wrap (x8_1 + x11_3)) = ji48 := (i64_w _).trans hji48
                                by_cases c49 : 0 ≤ (ji48)
                                · rw [if_pos c49] at H
                                  have c49b0 : decide (0 ≤ (ji48)) = true := decide_eq_true c49
                                  clear c49
                                  by_cases c50 : (ji48) < (x7_3.length : Int)
                                  · rw [if_pos c50] at H
                                    have c50b0 : decide ((ji48) < (x7_3.length : Int)) = true := decide_eq_true c50
                                    clear c50
                                    obtain ⟨y483, hy483⟩ : ∃ y_ : List Bool, y_ = (x7_3.set ((ji48) : Int).toNat (t481 == 0)) := ⟨_, rfl⟩
                                    replace H : (if t481 = 0 then (spec_l20Pattern.l1 kj21 a2 y483 x8_1 t477 (wrap64 (x10_3 - 1)) (wrap64 (x11_3 + 1)) s0_0 t482 a1_0 a1_1) else (spec_l20Pattern.l1 kj21 a2 y483 x8_1 t477 x10_3 (wrap64 (x11_3 + 1)) s0_0 t482 a1_0 a1_1)) = some (r1, r2) := by first | (rw [hy483]; with_reducible exact H) | (have H2_ := (Option.bind_some _ _).symm.trans H; rw [hy483]; with_reducible exact H2_) | (have H2_ := (Option.bind_some _ _).symm.trans H; with_reducible exact H2_) | with_reducible exact H | (rw [hy483]; exact H) | exact H
                                    have Ny483 := Aside0.mk hy483
                                    clear hy483
                                    by_cases c52 : t481 = 0
                                    · rw [if_pos c52] at H
                                      have c52b0 : (t481 == 0) = true := beq_iff_eq.mpr c52
                                      have c52b1 : (t481 != 0) = false := bne_eq_false_iff_eq.mpr c52
                                      clear c52
                                      have H' := Aside0.mk H
                                      clear H
                                      have hnb53 := NB472_0.out
                                      have hnc53 := NB0_472.out
                                      have hcz54_0 : wc.cell? ⟨gb472, 0, none⟩ = some (.int .i64 a1_0) := (blk_cell BK472.out 0).trans rfl
                                      have hcz54_1 : wc.cell? ⟨gb472, 1, none⟩ = some (.int .i64 a1_1) := (blk_cell BK472.out 1).trans rfl
                                      have hfz54_0 := blk_frozen BK472.out 0
                                      have hfz54_1 := blk_frozen BK472.out 1
                                      go_wp2_with (first | (go_at_call 58; (with_reducible refine (spec_l20Rd_pick.calls kj21 g s0_0 x1001_3 2 t481 t482 w0 _ ?side1 ?side2 A47.out).mono ?_); (case side1 => repeat (first | (with_reducible first | exact HI0.out | apply IsS84.alloc | apply IsS84.drewN | apply IsS84.drew | apply IsS84.set_1 | refine IsS84.far ?_ NB0_472.out _) | exact HI0.out)); (case side2 => repeat (first | (with_reducible first | exact HB.out | apply below_alloc | apply pw_below_drewN | apply below_drew1 | refine below_set ?_ (IsS84.ge HI0.out) | refine below_set ?_ GE472.out) | exact HB.out)); rintro e w55 ⟨rfl, hi, hb, hk⟩; have n0_ := Aside0.mk (Kd.R_mono (Kd.R_keep (IsS84.apart (show IsS84 w0 _ g s0_0 x1001_3 from by repeat (first | (with_reducible first | exact HI0.out | apply IsS84.alloc | apply IsS84.drewN | apply IsS84.drew | apply IsS84.set_1 | refine IsS84.far ?_ NB0_472.out _) | exact HI0.out)) (by (with_reducible repeat (first | apply Kd.R_alloc | apply Kd.R_drewN | apply Kd.R_drew)); exact HO_7.out) (by decide)) hk (fun _ h => h.2)) (fun _ h => h.1)); have n1_ := Aside0.mk (KeepBut.blk hk (g' := gb472) (o := .cells #[.int .i64 a1_0, .int .i64 a1_1] 37 (0, 0)) (by (with_reducible repeat (first | refine blk_drewN ?_ _ | refine blk_drew ?_ | refine blk_alloc ?_ _)); exact BK472.out) NB472_0.out (by simp)); have n2_ := Aside0.mk (KeepBut.trans (by repeat (first | (with_reducible first | exact HK.out | apply KeepBut.set_ | apply keep_drewN | apply keep_drew | apply keep_alloc | refine keep_far ?_ GW472.out _) | exact HK.out)) hk (.inl rfl)); have n3_ := Aside0.mk (hb); have n4_ := Aside0.mk (hi); clear HO_7; clear BK472; clear HK; clear HB; clear HI0; have HO_7 := n0_; have BK472 := n1_; have HK := n2_; have HB := n3_; have HI0 := n4_; clear n0_ n1_ n2_ n3_ n4_; (try clear hb); (try clear hb2); (try clear hk); (try clear hi); have p51 : 0 ≤ ((ji48) : Int) := of_decide_eq_true (by first | (with_reducible assumption) | assumption); have q51 : ((ji48) : Int) < ((x7_3.length : Int) : Int) := of_decide_eq_true (by first | (with_reducible assumption) | assumption); obtain ⟨go51, co51, eo51, gb51, gl51, cl51, HG51⟩ := Kd.R_form HO_7.out (by omega); (first | cases eo51 | (injection eo51 with ea_ en_ ec_; (first | subst ea_ | (injection ea_ with ea_; subst ea_)); subst ec_; clear en_)); have GB51 := Aside0.mk gb51; have GG51 := Aside0.mk HG51; clear gb51 gl51 HG51; obtain ⟨hx51_0, hf51_0⟩ := Kd.R_celln false HO_7.out ((ji48) : Int) p51 q51; replace p51 := eq_true p51; replace q51 := eq_true q51; obtain ⟨hy56_, hz56_⟩ := Kd.R_celln false HO_7.out ((ji48) : Int) (of_decide_eq_true (by first | (with_reducible assumption) | assumption)) (of_decide_eq_true (by first | (with_reducible assumption) | assumption)); have HP56 := Kd.R_putg HO_7.out ((ji48) : Int) (t481 == 0)) | ((with_reducible refine gate_store (t := 4) (p := 69) rfl ?_); refine store_event (t := 4) (p := 69) (v := ?vo_w57) (w1 := (w55.setCell ⟨go51, ((ji48) : Int).toNat, none⟩ (.bool (t481 == 0)))) ?hg ?ho ?hn ?hr ?_; (case ho => rfl); (case hg => rfl); (case hn => rfl); (case hr => first | (go_simp; done) | (go_simp; rfl)); intro w57 hw; have hg : w55.grownBy w57 (some go51) := (by rw [hw]; exact HP56.2); have hp_ : Kd.R Kd.bool 4 w57 w.heap.size (fun _ => True) (.slice (some ⟨go51, 0, none⟩) x7_3.length co51) y483 := (by rw [hw, Ny483.out]; exact HP56.1); clear HP56; have n0_ := Aside0.mk (hp_); have n1_ := Aside0.mk (blk_grown (g := gb472) (o := .cells #[.int .i64 a1_0, .int .i64 a1_1] 37 (0, 0)) (by (with_reducible repeat (first | refine blk_drewN ?_ _ | refine blk_drew ?_ | refine blk_alloc ?_ _)); exact BK472.out) hg (Kd.R_ne HO_7.out BK472.out (by decide))); have n2_ := Aside0.mk (IsS84.grown (by repeat (first | (with_reducible first | exact HI0.out | apply IsS84.alloc | apply IsS84.drewN | apply IsS84.drew | apply IsS84.set_1 | refine IsS84.far ?_ NB0_472.out _) | exact HI0.out)) hg (IsS84.own_ne HI0.out HO_7.out (by decide))); have n3_ := Aside0.mk ((by rw [hw]; exact below_set (HB.out) (Nat.le_trans HL.out GB51.out) : Below w0.heap.size w0 w57)); have n4_ := Aside0.mk (KeepBut.trans (by repeat (first | (with_reducible first | exact HK.out | apply KeepBut.set_ | apply keep_drewN | apply keep_drew | apply keep_alloc | refine keep_far ?_ GW472.out _) | exact HK.out)) (KeepBut.of_grown hg g) (Kd.R_base2 HO_7.out)); clear HO_7; clear BK472; clear HI0; clear HB; clear HK; have HO_7 := n0_; have BK472 := n1_; have HI0 := n2_; have HB := n3_; have HK := n4_; clear n0_ n1_ n2_ n3_ n4_; clear hg hw hp_))
                                      go_roundg kj21
                                      case measure => have := HK1.out; have := HJ7.out; have := HK3.out; have := HJ21.out; omega
                                      case rel => exact ⟨(y483), (wrap64 (x10_3 - 1)), (wrap64 (x11_3 + 1)), (t482), (by first | rfl | (simp; done) | (simp [*]; done)), (by first | rfl | (simp; done) | (simp [*]; done)), H', ⟨by have := HK1.out; have := HJ7.out; have := HK3.out; have := HJ21.out; omega⟩, ⟨by (with_reducible repeat (first | apply Kd.R_alloc | apply Kd.R_drewN | apply Kd.R_drew)); exact HO_7.out⟩, ⟨by (with_reducible repeat (first | refine blk_drewN ?_ _ | refine blk_drew ?_ | refine blk_alloc ?_ _)); exact BK472.out⟩, ⟨by repeat (first | (with_reducible first | exact HI0.out | apply IsS84.alloc | apply IsS84.drewN | apply IsS84.drew | apply IsS84.set_1 | refine IsS84.far ?_ NB0_472.out _) | exact HI0.out)⟩, ⟨by repeat (first | (with_reducible first | exact HK.out | apply KeepBut.set_ | apply keep_drewN | apply keep_drew | apply keep_alloc | refine keep_far ?_ GW472.out _) | exact HK.out)⟩, ⟨by repeat (first | (with_reducible first | exact HB.out | apply below_alloc | apply pw_below_drewN | apply below_drew1 | refine below_set ?_ (IsS84.ge HI0.out) | refine below_set ?_ GE472.out) | exact HB.out)⟩⟩
                                    · rw [if_neg c52] at H
                                      have c52b0 : (t481 == 0) = false := beq_eq_false_iff_ne.mpr c52
                                      have c52b1 : (t481 != 0) = true := bne_iff_ne.mpr c52
                                      have H' := Aside0.mk H
                                      clear H
                                      have hnb58 := NB472_0.out
                                      have hnc58 := NB0_472.out
                                      have hcz59_0 : wc.cell? ⟨gb472, 0, none⟩ = some (.int .i64 a1_0) := (blk_cell BK472.out 0).trans rfl
                                      have hcz59_1 : wc.cell? ⟨gb472, 1, none⟩ = some (.int .i64 a1_1) := (blk_cell BK472.out 1).trans rfl
                                      have hfz59_0 := blk_frozen BK472.out 0
                                      have hfz59_1 := blk_frozen BK472.out 1
                                      go_wp2_with (first | (go_at_call 58; (with_reducible refine (spec_l20Rd_pick.calls kj21 g s0_0 x1001_3 2 t481 t482 w0 _ ?side1 ?side2 A47.out).mono ?_); (case side1 => repeat (first | (with_reducible first | exact HI0.out | apply IsS84.alloc | apply IsS84.drewN | apply IsS84.drew | apply IsS84.set_1 | refine IsS84.far ?_ NB0_472.out _) | exact HI0.out)); (case side2 => repeat (first | (with_reducible first | exact HB.out | apply below_alloc | apply pw_below_drewN | apply below_drew1 | refine below_set ?_ (IsS84.ge HI0.out) | refine below_set ?_ GE472.out) | exact HB.out)); rintro e w60 ⟨rfl, hi, hb, hk⟩; have n0_ := Aside0.mk (Kd.R_mono (Kd.R_keep (IsS84.apart (show IsS84 w0 _ g s0_0 x1001_3 from by repeat (first | (with_reducible first | exact HI0.out | apply IsS84.alloc | apply IsS84.drewN | apply IsS84.drew | apply IsS84.set_1 | refine IsS84.far ?_ NB0_472.out _) | exact HI0.out)) (by (with_reducible repeat (first | apply Kd.R_alloc | apply Kd.R_drewN | apply Kd.R_drew)); exact HO_7.out) (by decide)) hk (fun _ h => h.2)) (fun _ h => h.1)); have n1_ := Aside0.mk (KeepBut.blk hk (g' := gb472) (o := .cells #[.int .i64 a1_0, .int .i64 a1_1] 37 (0, 0)) (by (with_reducible repeat (first | refine blk_drewN ?_ _ | refine blk_drew ?_ | refine blk_alloc ?_ _)); exact BK472.out) NB472_0.out (by simp)); have n2_ := Aside0.mk (KeepBut.trans (by repeat (first | (with_reducible first | exact HK.out | apply KeepBut.set_ | apply keep_drewN | apply keep_drew | apply keep_alloc | refine keep_far ?_ GW472.out _) | exact HK.out)) hk (.inl rfl)); have n3_ := Aside0.mk (hb); have n4_ := Aside0.mk (hi); clear HO_7; clear BK472; clear HK; clear HB; clear HI0; have HO_7 := n0_; have BK472 := n1_; have HK := n2_; have HB := n3_; have HI0 := n4_; clear n0_ n1_ n2_ n3_ n4_; (try clear hb); (try clear hb2); (try clear hk); (try clear hi); have p51 : 0 ≤ ((ji48) : Int) := of_decide_eq_true (by first | (with_reducible assumption) | assumption); have q51 : ((ji48) : Int) < ((x7_3.length : Int) : Int) := of_decide_eq_true (by first | (with_reducible assumption) | assumption); obtain ⟨go51, co51, eo51, gb51, gl51, cl51, HG51⟩ := Kd.R_form HO_7.out (by omega); (first | cases eo51 | (injection eo51 with ea_ en_ ec_; (first | subst ea_ | (injection ea_ with ea_; subst ea_)); subst ec_; clear en_)); have GB51 := Aside0.mk gb51; have GG51 := Aside0.mk HG51; clear gb51 gl51 HG51; obtain ⟨hx51_0, hf51_0⟩ := Kd.R_celln false HO_7.out ((ji48) : Int) p51 q51; replace p51 := eq_true p51; replace q51 := eq_true q51; obtain ⟨hy61_, hz61_⟩ := Kd.R_celln false HO_7.out ((ji48) : Int) (of_decide_eq_true (by first | (with_reducible assumption) | assumption)) (of_decide_eq_true (by first | (with_reducible assumption) | assumption)); have HP61 := Kd.R_putg HO_7.out ((ji48) : Int) (t481 == 0)) | ((with_reducible refine gate_store (t := 4) (p := 69) rfl ?_); refine store_event (t := 4) (p := 69) (v := ?vo_w62) (w1 := (w60.setCell ⟨go51, ((ji48) : Int).toNat, none⟩ (.bool (t481 == 0)))) ?hg ?ho ?hn ?hr ?_; (case ho => rfl); (case hg => rfl); (case hn => rfl); (case hr => first | (go_simp; done) | (go_simp; rfl)); intro w62 hw; have hg : w60.grownBy w62 (some go51) := (by rw [hw]; exact HP61.2); have hp_ : Kd.R Kd.bool 4 w62 w.heap.size (fun _ => True) (.slice (some ⟨go51, 0, none⟩) x7_3.length co51) y483 := (by rw [hw, Ny483.out]; exact HP61.1); clear HP61; have n0_ := Aside0.mk (hp_); have n1_ := Aside0.mk (blk_grown (g := gb472) (o := .cells #[.int .i64 a1_0, .int .i64 a1_1] 37 (0, 0)) (by (with_reducible repeat (first | refine blk_drewN ?_ _ | refine blk_drew ?_ | refine blk_alloc ?_ _)); exact BK472.out) hg (Kd.R_ne HO_7.out BK472.out (by decide))); have n2_ := Aside0.mk (IsS84.grown (by repeat (first | (with_reducible first | exact HI0.out | apply IsS84.alloc | apply IsS84.drewN | apply IsS84.drew | apply IsS84.set_1 | refine IsS84.far ?_ NB0_472.out _) | exact HI0.out)) hg (IsS84.own_ne HI0.out HO_7.out (by decide))); have n3_ := Aside0.mk ((by rw [hw]; exact below_set (HB.out) (Nat.le_trans HL.out GB51.out) : Below w0.heap.size w0 w62)); have n4_ := Aside0.mk (KeepBut.trans (by repeat (first | (with_reducible first | exact HK.out | apply KeepBut.set_ | apply keep_drewN | apply keep_drew | apply keep_alloc | refine keep_far ?_ GW472.out _) | exact HK.out)) (KeepBut.of_grown hg g) (Kd.R_base2 HO_7.out)); clear HO_7; clear BK472; clear HI0; clear HB; clear HK; have HO_7 := n0_; have BK472 := n1_; have HI0 := n2_; have HB := n3_; have HK := n4_; clear n0_ n1_ n2_ n3_ n4_; clear hg hw hp_))
                                      go_roundg kj21
                                      case measure => have := HK1.out; have := HJ7.out; have := HK3.out; have := HJ21.out; omega
                                      case rel => exact ⟨(y483), (x10_3), (wrap64 (x11_3 + 1)), (t482), (by first | rfl | (simp; done) | (simp [*]; done)), (by first | rfl | (simp; done) | (simp [*]; done)), H', ⟨by have := HK1.out; have := HJ7.out; have := HK3.out; have := HJ21.out; omega⟩, ⟨by (with_reducible repeat (first | apply Kd.R_alloc | apply Kd.R_drewN | apply Kd.R_drew)); exact HO_7.out⟩, ⟨by (with_reducible repeat (first | refine blk_drewN ?_ _ | refine blk_drew ?_ | refine blk_alloc ?_ _)); exact BK472.out⟩, ⟨by repeat (first | (with_reducible first | exact HI0.out | apply IsS84.alloc | apply IsS84.drewN | apply IsS84.drew | apply IsS84.set_1 | refine IsS84.far ?_ NB0_472.out _) | exact HI0.out)⟩, ⟨by repeat (first | (with_reducible first | exact HK.out | apply KeepBut.set_ | apply keep_drewN | apply keep_drew | apply keep_alloc | refine keep_far ?_ GW472.out _) | exact HK.out)⟩, ⟨by repeat (first | (with_reducible first | exact HB.out | apply below_alloc | apply pw_below_drewN | apply below_drew1 | refine below_set ?_ (IsS84.ge HI0.out) | refine below_set ?_ GE472.out) | exact HB.out)⟩⟩
                                  · rw [if_neg c50] at H
                                    exact absurd H (by simp)
                                · rw [if_neg c49] at H
                                  exact absurd H (by simp)
                              · rw [if_neg c46] at H
                                have c46b0 : (t477 == 2) = false := beq_eq_false_iff_ne.mpr c46
                                have c46b1 : (t477 != 2) = true := bne_iff_ne.mpr c46
                                obtain ⟨ji63, hji63⟩ : ∃ j_ : Int, (wrap64 (x8_1 + x11_3)) = j_ := ⟨_, rfl⟩
                                replace H : (if 0 ≤ (ji63) then (if (ji63) < (x7_3.length : Int) then (spec_l20Pattern.l1 kj21 a2 (x7_3.set ((ji63) : Int).toNat false) x8_1 t477 x10_3 (wrap64 (x11_3 + 1)) s0_0 x1001_3 a1_0 a1_1) else (none)) else (none)) = some (r1, r2) := by first | (rw [hji63] at H; exact H) | (simp only [hji63] at H ⊢; exact H)
                                have hji63w : (IntKind.i64.wrap (x8_1 + x11_3)) = ji63 := (i64_w _).trans hji63
                                by_cases c64 : 0 ≤ (ji63)
                                · rw [if_pos c64] at H
                                  have c64b0 : decide (0 ≤ (ji63)) = true := decide_eq_true c64
                                  clear c64
                                  by_cases c65 : (ji63) < (x7_3.length : Int)
                                  · rw [if_pos c65] at H
                                    have c65b0 : decide ((ji63) < (x7_3.length : Int)) = true := decide_eq_true c65
                                    clear c65
                                    obtain ⟨y484, hy484⟩ : ∃ y_ : List Bool, y_ = (x7_3.set ((ji63) : Int).toNat false) := ⟨_, rfl⟩
                                    replace H : (spec_l20Pattern.l1 kj21 a2 y484 x8_1 t477 x10_3 (wrap64 (x11_3 + 1)) s0_0 x1001_3 a1_0 a1_1) = some (r1, r2) := by first | (rw [hy484]; with_reducible exact H) | (have H2_ := (Option.bind_some _ _).symm.trans H; rw [hy484]; with_reducible exact H2_) | (have H2_ := (Option.bind_some _ _).symm.trans H; with_reducible exact H2_) | with_reducible exact H | (rw [hy484]; exact H) | exact H
                                    have Ny484 := Aside0.mk hy484
                                    clear hy484
                                    have H' := Aside0.mk H
                                    clear H
                                    have hnb67 := NB472_0.out
                                    have hnc67 := NB0_472.out
                                    have hcz68_0 : wc.cell? ⟨gb472, 0, none⟩ = some (.int .i64 a1_0) := (blk_cell BK472.out 0).trans rfl
                                    have hcz68_1 : wc.cell? ⟨gb472, 1, none⟩ = some (.int .i64 a1_1) := (blk_cell BK472.out 1).trans rfl
                                    have hfz68_0 := blk_frozen BK472.out 0
                                    have hfz68_1 := blk_frozen BK472.out 1
                                    have p66 : 0 ≤ ((ji63) : Int) := of_decide_eq_true (by first | (with_reducible assumption) | assumption)
                                    have q66 : ((ji63) : Int) < ((x7_3.length : Int) : Int) := of_decide_eq_true (by first | (with_reducible assumption) | assumption)
                                    obtain ⟨go66, co66, eo66, gb66, gl66, cl66, HG66⟩ := Kd.R_form HO_7.out (by omega)
                                    (first | cases eo66 | (injection eo66 with ea_ en_ ec_; (first | subst ea_ | (injection ea_ with ea_; subst ea_)); subst ec_; clear en_))
                                    have GB66 := Aside0.mk gb66
                                    have GG66 := Aside0.mk HG66
                                    clear gb66 gl66 HG66
                                    obtain ⟨hx66_0, hf66_0⟩ := Kd.R_celln false HO_7.out ((ji63) : Int) p66 q66
                                    replace p66 := eq_true p66
                                    replace q66 := eq_true q66
                                    have HP69 := Kd.R_putg HO_7.out ((ji63) : Int) false
                                    go_wp2_with (first | ((with_reducible refine gate_store (t := 4) (p := 69) rfl ?_); refine store_event (t := 4) (p := 69) (v := ?vo_w70) (w1 := (wc.setCell ⟨go66, ((ji63) : Int).toNat, none⟩ (.bool false))) ?hg ?ho ?hn ?hr ?_; (case ho => rfl); (case hg => rfl); (case hn => rfl); (case hr => first | (go_simp; done) | (go_simp; rfl)); intro w70 hw; have hg : wc.grownBy w70 (some go66) := (by rw [hw]; exact HP69.2); have hp_ : Kd.R Kd.bool 4 w70 w.heap.size (fun _ => True) (.slice (some ⟨go66, 0, none⟩) x7_3.length co66) y484 := (by rw [hw, Ny484.out]; exact HP69.1); clear HP69; have n0_ := Aside0.mk (hp_); have n1_ := Aside0.mk (blk_grown (g := gb472) (o := .cells #[.int .i64 a1_0, .int .i64 a1_1] 37 (0, 0)) (by (with_reducible repeat (first | refine blk_drewN ?_ _ | refine blk_drew ?_ | refine blk_alloc ?_ _)); exact BK472.out) hg (Kd.R_ne HO_7.out BK472.out (by decide))); have n2_ := Aside0.mk (IsS84.grown (by repeat (first | (with_reducible first | exact HI0.out | apply IsS84.alloc | apply IsS84.drewN | apply IsS84.drew | apply IsS84.set_1 | refine IsS84.far ?_ NB0_472.out _) | exact HI0.out)) hg (IsS84.own_ne HI0.out HO_7.out (by decide))); have n3_ := Aside0.mk ((by rw [hw]; exact below_set (HB.out) (Nat.le_trans HL.out GB66.out) : Below w0.heap.size w0 w70)); have n4_ := Aside0.mk (KeepBut.trans (by repeat (first | (with_reducible first | exact HK.out | apply KeepBut.set_ | apply keep_drewN | apply keep_drew | apply keep_alloc | refine keep_far ?_ GW472.out _) | exact HK.out)) (KeepBut.of_grown hg g) (Kd.R_base2 HO_7.out)); clear HO_7; clear BK472; clear HI0; clear HB; clear HK; have HO_7 := n0_; have BK472 := n1_; have HI0 := n2_; have HB := n3_; have HK := n4_; clear n0_ n1_ n2_ n3_ n4_; clear hg hw hp_))
                                    go_roundg kj21
                                    case measure => have := HK1.out; have := HJ7.out; have := HK3.out; have := HJ21.out; omega
                                    case rel => exact ⟨(y484), (x10_3), (wrap64 (x11_3 + 1)), (x1001_3), (by first | rfl | (simp; done) | (simp [*]; done)), (by first | rfl | (simp; done) | (simp [*]; done)), H', ⟨by have := HK1.out; have := HJ7.out; have := HK3.out; have := HJ21.out; omega⟩, ⟨by (with_reducible repeat (first | apply Kd.R_alloc | apply Kd.R_drewN | apply Kd.R_drew)); exact HO_7.out⟩, ⟨by (with_reducible repeat (first | refine blk_drewN ?_ _ | refine blk_drew ?_ | refine blk_alloc ?_ _)); exact BK472.out⟩, ⟨by repeat (first | (with_reducible first | exact HI0.out | apply IsS84.alloc | apply IsS84.drewN | apply IsS84.drew | apply IsS84.set_1 | refine IsS84.far ?_ NB0_472.out _) | exact HI0.out)⟩, ⟨by repeat (first | (with_reducible first | exact HK.out | apply KeepBut.set_ | apply keep_drewN | apply keep_drew | apply keep_alloc | refine keep_far ?_ GW472.out _) | exact HK.out)⟩, ⟨by repeat (first | (with_reducible first | exact HB.out | apply below_alloc | apply pw_below_drewN | apply below_drew1 | refine below_set ?_ (IsS84.ge HI0.out) | refine below_set ?_ GE472.out) | exact HB.out)⟩⟩
                                  · rw [if_neg c65] at H
                                    exact absurd H (by simp)
                                · rw [if_neg c64] at H
                                  exact absurd H (by simp)
                        · rw [if_neg c29] at H
                          have c29b0 : decide (0 < x10_3) = false := decide_eq_false c29
                          clear c29
                          obtain ⟨ji71, hji71⟩ : ∃ j_ : Int, (wrap64 (x8_1 + x11_3)) = j_ := ⟨_, rfl⟩
                          replace H : (if 0 ≤ (ji71) then (if (ji71) < (x7_3.length : Int) then (spec_l20Pattern.l1 kj21 a2 (x7_3.set ((ji71) : Int).toNat false) x8_1 t477 x10_3 (wrap64 (x11_3 + 1)) s0_0 x1001_3 a1_0 a1_1) else (none)) else (none)) = some (r1, r2) := by first | (rw [hji71] at H; exact H) | (simp only [hji71] at H ⊢; exact H)
                          have hji71w : (IntKind.i64.wrap (x8_1 + x11_3)) = ji71 := (i64_w _).trans hji71
                          by_cases c72 : 0 ≤ (ji71)
                          · rw [if_pos c72] at H
                            have c72b0 : decide (0 ≤ (ji71)) = true := decide_eq_true c72
                            clear c72
                            by_cases c73 : (ji71) < (x7_3.length : Int)
                            · rw [if_pos c73] at H
                              have c73b0 : decide ((ji71) < (x7_3.length : Int)) = true := decide_eq_true c73
                              clear c73
                              obtain ⟨y485, hy485⟩ : ∃ y_ : List Bool, y_ = (x7_3.set ((ji71) : Int).toNat false) := ⟨_, rfl⟩
                              replace H : (spec_l20Pattern.l1 kj21 a2 y485 x8_1 t477 x10_3 (wrap64 (x11_3 + 1)) s0_0 x1001_3 a1_0 a1_1) = some (r1, r2) := by first | (rw [hy485]; with_reducible exact H) | (have H2_ := (Option.bind_some _ _).symm.trans H; rw [hy485]; with_reducible exact H2_) | (have H2_ := (Option.bind_some _ _).symm.trans H; with_reducible exact H2_) | with_reducible exact H | (rw [hy485]; exact H) | exact H
                              have Ny485 := Aside0.mk hy485
                              clear hy485
                              have H' := Aside0.mk H
                              clear H
                              have p74 : 0 ≤ ((ji71) : Int) := of_decide_eq_true (by first | (with_reducible assumption) | assumption)
                              have q74 : ((ji71) : Int) < ((x7_3.length : Int) : Int) := of_decide_eq_true (by first | (with_reducible assumption) | assumption)
                              obtain ⟨go74, co74, eo74, gb74, gl74, cl74, HG74⟩ := Kd.R_form HO_7.out (by omega)
                              (first | cases eo74 | (injection eo74 with ea_ en_ ec_; (first | subst ea_ | (injection ea_ with ea_; subst ea_)); subst ec_; clear en_))
                              have GB74 := Aside0.mk gb74
                              have GG74 := Aside0.mk HG74
                              clear gb74 gl74 HG74
                              obtain ⟨hx74_0, hf74_0⟩ := Kd.R_celln false HO_7.out ((ji71) : Int) p74 q74
                              replace p74 := eq_true p74
                              replace q74 := eq_true q74
                              have HP75 := Kd.R_putg HO_7.out ((ji71) : Int) false
                              go_wp2_with (first | ((with_reducible refine gate_store (t := 4) (p := 69) rfl ?_); refine store_event (t := 4) (p := 69) (v := ?vo_w76) (w1 := (wc.setCell ⟨go74, ((ji71) : Int).toNat, none⟩ (.bool false))) ?hg ?ho ?hn ?hr ?_; (case ho => rfl); (case hg => rfl); (case hn => rfl); (case hr => first | (go_simp; done) | (go_simp; rfl)); intro w76 hw; have hg : wc.grownBy w76 (some go74) := (by rw [hw]; exact HP75.2); have hp_ : Kd.R Kd.bool 4 w76 w.heap.size (fun _ => True) (.slice (some ⟨go74, 0, none⟩) x7_3.length co74) y485 := (by rw [hw, Ny485.out]; exact HP75.1); clear HP75; have n0_ := Aside0.mk (hp_); have n1_ := Aside0.mk (blk_grown (g := gb472) (o := .cells #[.int .i64 a1_0, .int .i64 a1_1] 37 (0, 0)) (by (with_reducible repeat (first | refine blk_drewN ?_ _ | refine blk_drew ?_ | refine blk_alloc ?_ _)); exact BK472.out) hg (Kd.R_ne HO_7.out BK472.out (by decide))); have n2_ := Aside0.mk (IsS84.grown (by repeat (first | (with_reducible first | exact HI0.out | apply IsS84.alloc | apply IsS84.drewN | apply IsS84.drew | apply IsS84.set_1 | refine IsS84.far ?_ NB0_472.out _) | exact HI0.out)) hg (IsS84.own_ne HI0.out HO_7.out (by decide))); have n3_ := Aside0.mk ((by rw [hw]; exact below_set (HB.out) (Nat.le_trans HL.out GB74.out) : Below w0.heap.size w0 w76)); have n4_ := Aside0.mk (KeepBut.trans (by repeat (first | (with_reducible first | exact HK.out | apply KeepBut.set_ | apply keep_drewN | apply keep_drew | apply keep_alloc | refine keep_far ?_ GW472.out _) | exact HK.out)) (KeepBut.of_grown hg g) (Kd.R_base2 HO_7.out)); clear HO_7; clear BK472; clear HI0; clear HB; clear HK; have HO_7 := n0_; have BK472 := n1_; have HI0 := n2_; have HB := n3_; have HK := n4_; clear n0_ n1_ n2_ n3_ n4_; clear hg hw hp_))
                              go_roundg kj21
                              case measure => have := HK1.out; have := HJ7.out; have := HK3.out; have := HJ21.out; omega
                              case rel => exact ⟨(y485), (x10_3), (wrap64 (x11_3 + 1)), (x1001_3), (by first | rfl | (simp; done) | (simp [*]; done)), (by first | rfl | (simp; done) | (simp [*]; done)), H', ⟨by have := HK1.out; have := HJ7.out; have := HK3.out; have := HJ21.out; omega⟩, ⟨by (with_reducible repeat (first | apply Kd.R_alloc | apply Kd.R_drewN | apply Kd.R_drew)); exact HO_7.out⟩, ⟨by (with_reducible repeat (first | refine blk_drewN ?_ _ | refine blk_drew ?_ | refine blk_alloc ?_ _)); exact BK472.out⟩, ⟨by repeat (first | (with_reducible first | exact HI0.out | apply IsS84.alloc | apply IsS84.drewN | apply IsS84.drew | apply IsS84.set_1 | refine IsS84.far ?_ NB0_472.out _) | exact HI0.out)⟩, ⟨by repeat (first | (with_reducible first | exact HK.out | apply KeepBut.set_ | apply keep_drewN | apply keep_drew | apply keep_alloc | refine keep_far ?_ GW472.out _) | exact HK.out)⟩, ⟨by repeat (first | (with_reducible first | exact HB.out | apply below_alloc | apply pw_below_drewN | apply below_drew1 | refine below_set ?_ (IsS84.ge HI0.out) | refine below_set ?_ GE472.out) | exact HB.out)⟩⟩
                            · rw [if_neg c73] at H
                              exact absurd H (by simp)
                          · rw [if_neg c72] at H
                            exact absurd H (by simp)
                      · replace c28 := Bool.eq_false_iff.mpr c28
                        subst c28
                        have H1 : (spec_l20Pattern.l0 kj21 a2 x7_3 (wrap64 (x8_1 + a1_1)) s0_0 x1001_3 a1_0 a1_1) = some (r1, r2) := by rw [if_neg (show ¬ (false = true) by decide)] at H; exact H
                        clear H
                        have H := H1
                        clear H1
                        have H' := Aside0.mk H
                        clear H
                        have hnb77 := NB472_0.out
                        have hnc77 := NB0_472.out
                        have hcz78_0 : wc.cell? ⟨gb472, 0, none⟩ = some (.int .i64 a1_0) := (blk_cell BK472.out 0).trans rfl
                        have hcz78_1 : wc.cell? ⟨gb472, 1, none⟩ = some (.int .i64 a1_1) := (blk_cell BK472.out 1).trans rfl
                        have hfz78_0 := blk_frozen BK472.out 0
                        have hfz78_1 := blk_frozen BK472.out 1
                        go_wp2
                        go_roundg kj21
                        case measure => have := HK1.out; have := HJ7.out; have := HK3.out; have := HJ21.out; omega
                        case rel => exact ⟨(x7_3), (wrap64 (x8_1 + a1_1)), (x1001_3), (by first | rfl | (simp; done) | (simp [*]; done)), H', ⟨by have := HK1.out; have := HJ7.out; have := HK3.out; have := HJ21.out; omega⟩, ⟨by (with_reducible repeat (first | apply Kd.R_alloc | apply Kd.R_drewN | apply Kd.R_drew)); exact HO_7.out⟩, ⟨by (with_reducible repeat (first | refine blk_drewN ?_ _ | refine blk_drew ?_ | refine blk_alloc ?_ _)); exact BK472.out⟩, ⟨by repeat (first | (with_reducible first | exact HI0.out | apply IsS84.alloc | apply IsS84.drewN | apply IsS84.drew | apply IsS84.set_1 | refine IsS84.far ?_ NB0_472.out _) | exact HI0.out)⟩, ⟨by repeat (first | (with_reducible first | exact HK.out | apply KeepBut.set_ | apply keep_drewN | apply keep_drew | apply keep_alloc | refine keep_far ?_ GW472.out _) | exact HK.out)⟩, ⟨by repeat (first | (with_reducible first | exact HB.out | apply below_alloc | apply pw_below_drewN | apply below_drew1 | refine below_set ?_ (IsS84.ge HI0.out) | refine below_set ?_ GE472.out) | exact HB.out)⟩⟩
            · replace c17 := Bool.eq_false_iff.mpr c17
              subst c17
              have H1 : ((spec_l20Rd_odd.f kj7 s0_0 x1001_1 a2).bind fun bt486 => (if bt486.1 = true then ((spec_l20Rd_pick.f kj7 s0_0 bt486.2 120).bind fun bt488 => ((spec_l20Rd_pick.f kj7 s0_0 bt488.2 2).bind fun bt490 => (if bt490.1 = 0 then (if 0 ≤ bt488.1 then (if bt488.1 ≤ (x7_1.length : Int) then (some ((x7_1.take (bt488.1 : Int).toNat), bt490.2)) else (none)) else (none)) else (if 0 ≤ bt488.1 then (if bt488.1 < (x7_1.length : Int) then (some ((x7_1.set (bt488.1 : Int).toNat (!(rdOf false x7_1 bt488.1))), bt490.2)) else (none)) else (none))))) else (some (x7_1, bt486.2)))) = some (r1, r2) := by rw [if_neg (show ¬ (false = true) by decide)] at H; exact H
              clear H
              have H := H1
              clear H1
              replace H := Option.bind_eq_some_iff.mp H
              obtain ⟨⟨t486, t487⟩, A790, H⟩ := H
              replace H : (if t486 = true then ((spec_l20Rd_pick.f kj7 s0_0 t487 120).bind fun bt488 => ((spec_l20Rd_pick.f kj7 s0_0 bt488.2 2).bind fun bt490 => (if bt490.1 = 0 then (if 0 ≤ bt488.1 then (if bt488.1 ≤ (x7_1.length : Int) then (some ((x7_1.take (bt488.1 : Int).toNat), bt490.2)) else (none)) else (none)) else (if 0 ≤ bt488.1 then (if bt488.1 < (x7_1.length : Int) then (some ((x7_1.set (bt488.1 : Int).toNat (!(rdOf false x7_1 bt488.1))), bt490.2)) else (none)) else (none))))) else (some (x7_1, t487))) = some (r1, r2) := H
              have A79 := Aside0.mk A790
              clear A790
              by_cases c80 : t486 = true
              · subst c80
                have H1 : ((spec_l20Rd_pick.f kj7 s0_0 t487 120).bind fun bt488 => ((spec_l20Rd_pick.f kj7 s0_0 bt488.2 2).bind fun bt490 => (if bt490.1 = 0 then (if 0 ≤ bt488.1 then (if bt488.1 ≤ (x7_1.length : Int) then (some ((x7_1.take (bt488.1 : Int).toNat), bt490.2)) else (none)) else (none)) else (if 0 ≤ bt488.1 then (if bt488.1 < (x7_1.length : Int) then (some ((x7_1.set (bt488.1 : Int).toNat (!(rdOf false x7_1 bt488.1))), bt490.2)) else (none)) else (none))))) = some (r1, r2) := by rw [if_pos rfl] at H; exact H
                clear H
                have H := H1
                clear H1
                replace H := Option.bind_eq_some_iff.mp H
                obtain ⟨⟨t488, t489⟩, A810, H⟩ := H
                replace H : ((spec_l20Rd_pick.f kj7 s0_0 t489 2).bind fun bt490 => (if bt490.1 = 0 then (if 0 ≤ t488 then (if t488 ≤ (x7_1.length : Int) then (some ((x7_1.take (t488 : Int).toNat), bt490.2)) else (none)) else (none)) else (if 0 ≤ t488 then (if t488 < (x7_1.length : Int) then (some ((x7_1.set (t488 : Int).toNat (!(rdOf false x7_1 t488))), bt490.2)) else (none)) else (none)))) = some (r1, r2) := H
                have A81 := Aside0.mk A810
                clear A810
                replace H := Option.bind_eq_some_iff.mp H
                obtain ⟨⟨t490, t491⟩, A820, H⟩ := H
                replace H : (if t490 = 0 then (if 0 ≤ t488 then (if t488 ≤ (x7_1.length : Int) then (some ((x7_1.take (t488 : Int).toNat), t491)) else (none)) else (none)) else (if 0 ≤ t488 then (if t488 < (x7_1.length : Int) then (some ((x7_1.set (t488 : Int).toNat (!(rdOf false x7_1 t488))), t491)) else (none)) else (none))) = some (r1, r2) := H
                have A82 := Aside0.mk A820
                clear A820
                by_cases c83 : t490 = 0
                · rw [if_pos c83] at H
                  have c83b0 : (t490 == 0) = true := beq_iff_eq.mpr c83
                  have c83b1 : (t490 != 0) = false := bne_eq_false_iff_eq.mpr c83
                  clear c83
                  by_cases c84 : 0 ≤ t488
                  · rw [if_pos c84] at H
                    have c84b0 := eq_true c84
                    have c84b1 : decide (0 ≤ t488) = true := decide_eq_true c84
                    clear c84
                    by_cases c85 : t488 ≤ (x7_1.length : Int)
                    · rw [if_pos c85] at H
                      have c85b0 := eq_true c85
                      have c85b1 : decide (t488 ≤ (x7_1.length : Int)) = true := decide_eq_true c85
                      clear c85
                      obtain ⟨y492, hy492⟩ : ∃ y_ : List Bool, y_ = (x7_1.take (t488 : Int).toNat) := ⟨_, rfl⟩
                      replace H : (some (y492, t491)) = some (r1, r2) := by first | (rw [hy492]; with_reducible exact H) | (have H2_ := (Option.bind_some _ _).symm.trans H; rw [hy492]; with_reducible exact H2_) | (have H2_ := (Option.bind_some _ _).symm.trans H; with_reducible exact H2_) | with_reducible exact H | (rw [hy492]; exact H) | exact H
                      have Ny492 := Aside0.mk hy492
                      clear hy492
                      simp only [Option.some.injEq, Prod.mk.injEq] at H
                      obtain ⟨rfl, rfl⟩ := H
                      go_wp2_with (first | ((with_reducible refine gate_callee (f := 60) rfl ?_); refine goesL_ (some 75) rfl rfl Try.func60 (by kernel_rfl) rfl #[.pointer (some ⟨g, 0, none⟩), .int .i64 a2] rfl (by (try simp only [List.map_toArray, List.map_cons, List.map_nil]); first | done | rfl | (simp only [List.length_drop, List.length_take]; rfl)) ?_; (with_reducible refine (spec_l20Rd_odd.calls kj7 g s0_0 x1001_1 a2 true t487 w0 _ ?side1 ?side2 A79.out).mono ?_); (case side1 => repeat (first | (with_reducible first | exact HI0.out | apply IsS84.alloc | apply IsS84.drewN | apply IsS84.drew | apply IsS84.set_1 | refine IsS84.far ?_ NB0_472.out _) | exact HI0.out)); (case side2 => repeat (first | (with_reducible first | exact HB.out | apply below_alloc | apply pw_below_drewN | apply below_drew1 | refine below_set ?_ (IsS84.ge HI0.out) | refine below_set ?_ GE472.out) | exact HB.out)); rintro e w86 ⟨rfl, hi, hb, hk⟩; refine ⟨_, rfl, ?_⟩; have n0_ := Aside0.mk (Kd.R_mono (Kd.R_keep (IsS84.apart (show IsS84 w0 _ g s0_0 x1001_1 from by repeat (first | (with_reducible first | exact HI0.out | apply IsS84.alloc | apply IsS84.drewN | apply IsS84.drew | apply IsS84.set_1 | refine IsS84.far ?_ NB0_472.out _) | exact HI0.out)) (by (with_reducible repeat (first | apply Kd.R_alloc | apply Kd.R_drewN | apply Kd.R_drew)); exact HO_7.out) (by decide)) hk (fun _ h => h.2)) (fun _ h => h.1)); have n1_ := Aside0.mk (KeepBut.blk hk (g' := gb472) (o := .cells #[.int .i64 a1_0, .int .i64 a1_1] 37 (0, 0)) (by (with_reducible repeat (first | refine blk_drewN ?_ _ | refine blk_drew ?_ | refine blk_alloc ?_ _)); exact BK472.out) NB472_0.out (by simp)); have n2_ := Aside0.mk (KeepBut.trans (by repeat (first | (with_reducible first | exact HK.out | apply KeepBut.set_ | apply keep_drewN | apply keep_drew | apply keep_alloc | refine keep_far ?_ GW472.out _) | exact HK.out)) hk (.inl rfl)); have n3_ := Aside0.mk (hb); have n4_ := Aside0.mk (hi); clear HO_7; clear BK472; clear HK; clear HB; clear HI0; have HO_7 := n0_; have BK472 := n1_; have HK := n2_; have HB := n3_; have HI0 := n4_; clear n0_ n1_ n2_ n3_ n4_; (try clear hb); (try clear hb2); (try clear hk); (try clear hi)) | ((with_reducible refine gate_callee (f := 58) rfl ?_); refine goesL_ (some 77) rfl rfl Try.func58 (by kernel_rfl) rfl #[.pointer (some ⟨g, 0, none⟩), .int .i64 120] rfl (by (try simp only [List.map_toArray, List.map_cons, List.map_nil]); first | done | rfl | (simp only [List.length_drop, List.length_take]; rfl)) ?_; (with_reducible refine (spec_l20Rd_pick.calls kj7 g s0_0 t487 120 t488 t489 w0 _ ?side1 ?side2 A81.out).mono ?_); (case side1 => repeat (first | (with_reducible first | exact HI0.out | apply IsS84.alloc | apply IsS84.drewN | apply IsS84.drew | apply IsS84.set_1 | refine IsS84.far ?_ NB0_472.out _) | exact HI0.out)); (case side2 => repeat (first | (with_reducible first | exact HB.out | apply below_alloc | apply pw_below_drewN | apply below_drew1 | refine below_set ?_ (IsS84.ge HI0.out) | refine below_set ?_ GE472.out) | exact HB.out)); rintro e w87 ⟨rfl, hi, hb, hk⟩; refine ⟨_, rfl, ?_⟩; have n0_ := Aside0.mk (Kd.R_mono (Kd.R_keep (IsS84.apart (show IsS84 w0 _ g s0_0 t487 from by repeat (first | (with_reducible first | exact HI0.out | apply IsS84.alloc | apply IsS84.drewN | apply IsS84.drew | apply IsS84.set_1 | refine IsS84.far ?_ NB0_472.out _) | exact HI0.out)) (by (with_reducible repeat (first | apply Kd.R_alloc | apply Kd.R_drewN | apply Kd.R_drew)); exact HO_7.out) (by decide)) hk (fun _ h => h.2)) (fun _ h => h.1)); have n1_ := Aside0.mk (KeepBut.blk hk (g' := gb472) (o := .cells #[.int .i64 a1_0, .int .i64 a1_1] 37 (0, 0)) (by (with_reducible repeat (first | refine blk_drewN ?_ _ | refine blk_drew ?_ | refine blk_alloc ?_ _)); exact BK472.out) NB472_0.out (by simp)); have n2_ := Aside0.mk (KeepBut.trans (by repeat (first | (with_reducible first | exact HK.out | apply KeepBut.set_ | apply keep_drewN | apply keep_drew | apply keep_alloc | refine keep_far ?_ GW472.out _) | exact HK.out)) hk (.inl rfl)); have n3_ := Aside0.mk (hb); have n4_ := Aside0.mk (hi); clear HO_7; clear BK472; clear HK; clear HB; clear HI0; have HO_7 := n0_; have BK472 := n1_; have HK := n2_; have HB := n3_; have HI0 := n4_; clear n0_ n1_ n2_ n3_ n4_; (try clear hb); (try clear hb2); (try clear hk); (try clear hi)) | ((with_reducible refine gate_callee (f := 58) rfl ?_); refine goesL_ (some 79) rfl rfl Try.func58 (by kernel_rfl) rfl #[.pointer (some ⟨g, 0, none⟩), .int .i64 2] rfl (by (try simp only [List.map_toArray, List.map_cons, List.map_nil]); first | done | rfl | (simp only [List.length_drop, List.length_take]; rfl)) ?_; (with_reducible refine (spec_l20Rd_pick.calls kj7 g s0_0 t489 2 t490 t491 w0 _ ?side1 ?side2 A82.out).mono ?_); (case side1 => repeat (first | (with_reducible first | exact HI0.out | apply IsS84.alloc | apply IsS84.drewN | apply IsS84.drew | apply IsS84.set_1 | refine IsS84.far ?_ NB0_472.out _) | exact HI0.out)); (case side2 => repeat (first | (with_reducible first | exact HB.out | apply below_alloc | apply pw_below_drewN | apply below_drew1 | refine below_set ?_ (IsS84.ge HI0.out) | refine below_set ?_ GE472.out) | exact HB.out)); rintro e w88 ⟨rfl, hi, hb, hk⟩; refine ⟨_, rfl, ?_⟩; have n0_ := Aside0.mk (Kd.R_mono (Kd.R_keep (IsS84.apart (show IsS84 w0 _ g s0_0 t489 from by repeat (first | (with_reducible first | exact HI0.out | apply IsS84.alloc | apply IsS84.drewN | apply IsS84.drew | apply IsS84.set_1 | refine IsS84.far ?_ NB0_472.out _) | exact HI0.out)) (by (with_reducible repeat (first | apply Kd.R_alloc | apply Kd.R_drewN | apply Kd.R_drew)); exact HO_7.out) (by decide)) hk (fun _ h => h.2)) (fun _ h => h.1)); have n1_ := Aside0.mk (KeepBut.blk hk (g' := gb472) (o := .cells #[.int .i64 a1_0, .int .i64 a1_1] 37 (0, 0)) (by (with_reducible repeat (first | refine blk_drewN ?_ _ | refine blk_drew ?_ | refine blk_alloc ?_ _)); exact BK472.out) NB472_0.out (by simp)); have n2_ := Aside0.mk (KeepBut.trans (by repeat (first | (with_reducible first | exact HK.out | apply KeepBut.set_ | apply keep_drewN | apply keep_drew | apply keep_alloc | refine keep_far ?_ GW472.out _) | exact HK.out)) hk (.inl rfl)); have n3_ := Aside0.mk (hb); have n4_ := Aside0.mk (hi); clear HO_7; clear BK472; clear HK; clear HB; clear HI0; have HO_7 := n0_; have BK472 := n1_; have HK := n2_; have HB := n3_; have HI0 := n4_; clear n0_ n1_ n2_ n3_ n4_; (try clear hb); (try clear hb2); (try clear hk); (try clear hi); obtain ⟨Ao89, co89, eo89⟩ := Kd.R_slice HO_7.out; subst eo89; have q90 : (t488 : Int) ≤ ((x7_1.length : Int) : Int) := of_decide_eq_true (by first | (with_reducible assumption) | assumption); obtain ⟨i090, hi090, _, hsz90, _⟩ := info_parts info4; have hcut90 := cut_to (P := Try.prog) 60 4 .i64 Try.underlying60 hi090 Ao89 x7_1.length co89 t488 (of_decide_eq_true (by first | (with_reducible assumption) | assumption)) q90 (Kd.R_reads' HO_7.out).2.1; have hr90 := Kd.R_take (m := (t488 : Int).toNat) HO_7.out (by omega); have hy90 : y492.length = (t488 : Int).toNat := (by rw [Ny492.out, List.length_take]; omega); rw [← Ny492.out] at hr90; rw [← hy90] at hr90 hcut90; clear hy90 hi090 hsz90 HO_7; have HO494 := Aside0.mk hr90; clear hr90; replace q90 := eq_true q90))
                      go_ret
                      exact ⟨_, by first | rfl | (simp [errW_none, errW_some] <;> rfl) | (simp [*, errW_none, errW_some] <;> rfl), by (with_reducible repeat (first | apply Kd.R_alloc | apply Kd.R_drewN | apply Kd.R_drew)); exact HO494.out, by repeat (first | (with_reducible first | exact HI0.out | apply IsS84.alloc | apply IsS84.drewN | apply IsS84.drew | apply IsS84.set_1 | refine IsS84.far ?_ NB0_472.out _) | exact HI0.out), by repeat (first | (with_reducible first | exact HB.out | apply below_alloc | apply pw_below_drewN | apply below_drew1 | refine below_set ?_ (IsS84.ge HI0.out) | refine below_set ?_ GE472.out) | exact HB.out), by repeat (first | (with_reducible first | exact HK.out | apply KeepBut.set_ | apply keep_drewN | apply keep_drew | apply keep_alloc | refine keep_far ?_ GW472.out _) | exact HK.out)⟩
                    · rw [if_neg c85] at H
                      exact absurd H (by simp)
                  · rw [if_neg c84] at H
                    exact absurd H (by simp)
                · rw [if_neg c83] at H
                  have c83b0 : (t490 == 0) = false := beq_eq_false_iff_ne.mpr c83
                  have c83b1 : (t490 != 0) = true := bne_iff_ne.mpr c83
                  by_cases c91 : 0 ≤ t488
                  · rw [if_pos c91] at H
                    have c91b0 : decide (0 ≤ t488) = true := decide_eq_true c91
                    clear c91
                    by_cases c92 : t488 < (x7_1.length : Int)
                    · rw [if_pos c92] at H
                      have c92b0 : decide (t488 < (x7_1.length : Int)) = true := decide_eq_true c92
                      clear c92
                      obtain ⟨y496, hy496⟩ : ∃ y_ : List Bool, y_ = (x7_1.set (t488 : Int).toNat (!(rdOf false x7_1 t488))) := ⟨_, rfl⟩
                      replace H : (some (y496, t491)) = some (r1, r2) := by first | (rw [hy496]; with_reducible exact H) | (have H2_ := (Option.bind_some _ _).symm.trans H; rw [hy496]; with_reducible exact H2_) | (have H2_ := (Option.bind_some _ _).symm.trans H; with_reducible exact H2_) | with_reducible exact H | (rw [hy496]; exact H) | exact H
                      have Ny496 := Aside0.mk hy496
                      clear hy496
                      simp only [Option.some.injEq, Prod.mk.injEq] at H
                      obtain ⟨rfl, rfl⟩ := H
                      go_wp2_with (first | ((with_reducible refine gate_callee (f := 60) rfl ?_); refine goesL_ (some 75) rfl rfl Try.func60 (by kernel_rfl) rfl #[.pointer (some ⟨g, 0, none⟩), .int .i64 a2] rfl (by (try simp only [List.map_toArray, List.map_cons, List.map_nil]); first | done | rfl | (simp only [List.length_drop, List.length_take]; rfl)) ?_; (with_reducible refine (spec_l20Rd_odd.calls kj7 g s0_0 x1001_1 a2 true t487 w0 _ ?side1 ?side2 A79.out).mono ?_); (case side1 => repeat (first | (with_reducible first | exact HI0.out | apply IsS84.alloc | apply IsS84.drewN | apply IsS84.drew | apply IsS84.set_1 | refine IsS84.far ?_ NB0_472.out _) | exact HI0.out)); (case side2 => repeat (first | (with_reducible first | exact HB.out | apply below_alloc | apply pw_below_drewN | apply below_drew1 | refine below_set ?_ (IsS84.ge HI0.out) | refine below_set ?_ GE472.out) | exact HB.out)); rintro e w94 ⟨rfl, hi, hb, hk⟩; refine ⟨_, rfl, ?_⟩; have n0_ := Aside0.mk (Kd.R_mono (Kd.R_keep (IsS84.apart (show IsS84 w0 _ g s0_0 x1001_1 from by repeat (first | (with_reducible first | exact HI0.out | apply IsS84.alloc | apply IsS84.drewN | apply IsS84.drew | apply IsS84.set_1 | refine IsS84.far ?_ NB0_472.out _) | exact HI0.out)) (by (with_reducible repeat (first | apply Kd.R_alloc | apply Kd.R_drewN | apply Kd.R_drew)); exact HO_7.out) (by decide)) hk (fun _ h => h.2)) (fun _ h => h.1)); have n1_ := Aside0.mk (KeepBut.blk hk (g' := gb472) (o := .cells #[.int .i64 a1_0, .int .i64 a1_1] 37 (0, 0)) (by (with_reducible repeat (first | refine blk_drewN ?_ _ | refine blk_drew ?_ | refine blk_alloc ?_ _)); exact BK472.out) NB472_0.out (by simp)); have n2_ := Aside0.mk (KeepBut.trans (by repeat (first | (with_reducible first | exact HK.out | apply KeepBut.set_ | apply keep_drewN | apply keep_drew | apply keep_alloc | refine keep_far ?_ GW472.out _) | exact HK.out)) hk (.inl rfl)); have n3_ := Aside0.mk (hb); have n4_ := Aside0.mk (hi); clear HO_7; clear BK472; clear HK; clear HB; clear HI0; have HO_7 := n0_; have BK472 := n1_; have HK := n2_; have HB := n3_; have HI0 := n4_; clear n0_ n1_ n2_ n3_ n4_; (try clear hb); (try clear hb2); (try clear hk); (try clear hi)) | ((with_reducible refine gate_callee (f := 58) rfl ?_); refine goesL_ (some 77) rfl rfl Try.func58 (by kernel_rfl) rfl #[.pointer (some ⟨g, 0, none⟩), .int .i64 120] rfl (by (try simp only [List.map_toArray, List.map_cons, List.map_nil]); first | done | rfl | (simp only [List.length_drop, List.length_take]; rfl)) ?_; (with_reducible refine (spec_l20Rd_pick.calls kj7 g s0_0 t487 120 t488 t489 w0 _ ?side1 ?side2 A81.out).mono ?_); (case side1 => repeat (first | (with_reducible first | exact HI0.out | apply IsS84.alloc | apply IsS84.drewN | apply IsS84.drew | apply IsS84.set_1 | refine IsS84.far ?_ NB0_472.out _) | exact HI0.out)); (case side2 => repeat (first | (with_reducible first | exact HB.out | apply below_alloc | apply pw_below_drewN | apply below_drew1 | refine below_set ?_ (IsS84.ge HI0.out) | refine below_set ?_ GE472.out) | exact HB.out)); rintro e w95 ⟨rfl, hi, hb, hk⟩; refine ⟨_, rfl, ?_⟩; have n0_ := Aside0.mk (Kd.R_mono (Kd.R_keep (IsS84.apart (show IsS84 w0 _ g s0_0 t487 from by repeat (first | (with_reducible first | exact HI0.out | apply IsS84.alloc | apply IsS84.drewN | apply IsS84.drew | apply IsS84.set_1 | refine IsS84.far ?_ NB0_472.out _) | exact HI0.out)) (by (with_reducible repeat (first | apply Kd.R_alloc | apply Kd.R_drewN | apply Kd.R_drew)); exact HO_7.out) (by decide)) hk (fun _ h => h.2)) (fun _ h => h.1)); have n1_ := Aside0.mk (KeepBut.blk hk (g' := gb472) (o := .cells #[.int .i64 a1_0, .int .i64 a1_1] 37 (0, 0)) (by (with_reducible repeat (first | refine blk_drewN ?_ _ | refine blk_drew ?_ | refine blk_alloc ?_ _)); exact BK472.out) NB472_0.out (by simp)); have n2_ := Aside0.mk (KeepBut.trans (by repeat (first | (with_reducible first | exact HK.out | apply KeepBut.set_ | apply keep_drewN | apply keep_drew | apply keep_alloc | refine keep_far ?_ GW472.out _) | exact HK.out)) hk (.inl rfl)); have n3_ := Aside0.mk (hb); have n4_ := Aside0.mk (hi); clear HO_7; clear BK472; clear HK; clear HB; clear HI0; have HO_7 := n0_; have BK472 := n1_; have HK := n2_; have HB := n3_; have HI0 := n4_; clear n0_ n1_ n2_ n3_ n4_; (try clear hb); (try clear hb2); (try clear hk); (try clear hi)) | ((with_reducible refine gate_callee (f := 58) rfl ?_); refine goesL_ (some 79) rfl rfl Try.func58 (by kernel_rfl) rfl #[.pointer (some ⟨g, 0, none⟩), .int .i64 2] rfl (by (try simp only [List.map_toArray, List.map_cons, List.map_nil]); first | done | rfl | (simp only [List.length_drop, List.length_take]; rfl)) ?_; (with_reducible refine (spec_l20Rd_pick.calls kj7 g s0_0 t489 2 t490 t491 w0 _ ?side1 ?side2 A82.out).mono ?_); (case side1 => repeat (first | (with_reducible first | exact HI0.out | apply IsS84.alloc | apply IsS84.drewN | apply IsS84.drew | apply IsS84.set_1 | refine IsS84.far ?_ NB0_472.out _) | exact HI0.out)); (case side2 => repeat (first | (with_reducible first | exact HB.out | apply below_alloc | apply pw_below_drewN | apply below_drew1 | refine below_set ?_ (IsS84.ge HI0.out) | refine below_set ?_ GE472.out) | exact HB.out)); rintro e w96 ⟨rfl, hi, hb, hk⟩; refine ⟨_, rfl, ?_⟩; have n0_ := Aside0.mk (Kd.R_mono (Kd.R_keep (IsS84.apart (show IsS84 w0 _ g s0_0 t489 from by repeat (first | (with_reducible first | exact HI0.out | apply IsS84.alloc | apply IsS84.drewN | apply IsS84.drew | apply IsS84.set_1 | refine IsS84.far ?_ NB0_472.out _) | exact HI0.out)) (by (with_reducible repeat (first | apply Kd.R_alloc | apply Kd.R_drewN | apply Kd.R_drew)); exact HO_7.out) (by decide)) hk (fun _ h => h.2)) (fun _ h => h.1)); have n1_ := Aside0.mk (KeepBut.blk hk (g' := gb472) (o := .cells #[.int .i64 a1_0, .int .i64 a1_1] 37 (0, 0)) (by (with_reducible repeat (first | refine blk_drewN ?_ _ | refine blk_drew ?_ | refine blk_alloc ?_ _)); exact BK472.out) NB472_0.out (by simp)); have n2_ := Aside0.mk (KeepBut.trans (by repeat (first | (with_reducible first | exact HK.out | apply KeepBut.set_ | apply keep_drewN | apply keep_drew | apply keep_alloc | refine keep_far ?_ GW472.out _) | exact HK.out)) hk (.inl rfl)); have n3_ := Aside0.mk (hb); have n4_ := Aside0.mk (hi); clear HO_7; clear BK472; clear HK; clear HB; clear HI0; have HO_7 := n0_; have BK472 := n1_; have HK := n2_; have HB := n3_; have HI0 := n4_; clear n0_ n1_ n2_ n3_ n4_; (try clear hb); (try clear hb2); (try clear hk); (try clear hi); obtain ⟨Ao97, co97, eo97⟩ := Kd.R_slice HO_7.out; subst eo97; have p495 : 0 ≤ (t488 : Int) := of_decide_eq_true (by first | (with_reducible assumption) | assumption); have q495 : t488 < (x7_1.length : Int) := of_decide_eq_true (by first | (with_reducible assumption) | assumption); obtain ⟨ad495, e495, hx495_0⟩ := Kd.at_bool (Kd.R_reads' HO_7.out).2.2 t488 p495 q495; cases e495; replace p495 := eq_true p495; replace q495 := eq_true q495; have p93 : 0 ≤ (t488 : Int) := of_decide_eq_true (by first | (with_reducible assumption) | assumption); have q93 : (t488 : Int) < ((x7_1.length : Int) : Int) := of_decide_eq_true (by first | (with_reducible assumption) | assumption); obtain ⟨go93, co93, eo93, gb93, gl93, cl93, HG93⟩ := Kd.R_form HO_7.out (by omega); (first | cases eo93 | (injection eo93 with ea_ en_ ec_; (first | subst ea_ | (injection ea_ with ea_; subst ea_)); subst ec_; clear en_)); have GB93 := Aside0.mk gb93; have GG93 := Aside0.mk HG93; clear gb93 gl93 HG93; (first | simp only [add_plain] at hx495_0 | skip); obtain ⟨hx93_0, hf93_0⟩ := Kd.R_celln false HO_7.out (t488 : Int) p93 q93; replace p93 := eq_true p93; replace q93 := eq_true q93; obtain ⟨hy98_, hz98_⟩ := Kd.R_celln false HO_7.out (t488 : Int) (of_decide_eq_true (by first | (with_reducible assumption) | assumption)) (of_decide_eq_true (by first | (with_reducible assumption) | assumption)); have HP98 := Kd.R_putg HO_7.out (t488 : Int) (!(rdOf false x7_1 t488))) | ((with_reducible refine gate_store (t := 4) (p := 91) rfl ?_); refine store_event (t := 4) (p := 91) (v := ?vo_w99) (w1 := (w96.setCell ⟨go93, (t488 : Int).toNat, none⟩ (.bool (!(rdOf false x7_1 t488))))) ?hg ?ho ?hn ?hr ?_; (case ho => rfl); (case hg => rfl); (case hn => rfl); (case hr => first | (go_simp; done) | (go_simp; rfl)); intro w99 hw; have hg : w96.grownBy w99 (some go93) := (by rw [hw]; exact HP98.2); have hp_ : Kd.R Kd.bool 4 w99 w.heap.size (fun _ => True) (.slice (some ⟨go93, 0, none⟩) x7_1.length co97) y496 := (by rw [hw, Ny496.out]; exact HP98.1); clear HP98; have n0_ := Aside0.mk (hp_); have n1_ := Aside0.mk (blk_grown (g := gb472) (o := .cells #[.int .i64 a1_0, .int .i64 a1_1] 37 (0, 0)) (by (with_reducible repeat (first | refine blk_drewN ?_ _ | refine blk_drew ?_ | refine blk_alloc ?_ _)); exact BK472.out) hg (Kd.R_ne HO_7.out BK472.out (by decide))); have n2_ := Aside0.mk (IsS84.grown (by repeat (first | (with_reducible first | exact HI0.out | apply IsS84.alloc | apply IsS84.drewN | apply IsS84.drew | apply IsS84.set_1 | refine IsS84.far ?_ NB0_472.out _) | exact HI0.out)) hg (IsS84.own_ne HI0.out HO_7.out (by decide))); have n3_ := Aside0.mk ((by rw [hw]; exact below_set (HB.out) (Nat.le_trans HL.out GB93.out) : Below w0.heap.size w0 w99)); have n4_ := Aside0.mk (KeepBut.trans (by repeat (first | (with_reducible first | exact HK.out | apply KeepBut.set_ | apply keep_drewN | apply keep_drew | apply keep_alloc | refine keep_far ?_ GW472.out _) | exact HK.out)) (KeepBut.of_grown hg g) (Kd.R_base2 HO_7.out)); clear HO_7; clear BK472; clear HI0; clear HB; clear HK; have HO_7 := n0_; have BK472 := n1_; have HI0 := n2_; have HB := n3_; have HK := n4_; clear n0_ n1_ n2_ n3_ n4_; clear hg hw hp_))
                      go_ret
                      exact ⟨_, by first | rfl | (simp [errW_none, errW_some] <;> rfl) | (simp [*, errW_none, errW_some] <;> rfl), by (with_reducible repeat (first | apply Kd.R_alloc | apply Kd.R_drewN | apply Kd.R_drew)); exact HO_7.out, by repeat (first | (with_reducible first | exact HI0.out | apply IsS84.alloc | apply IsS84.drewN | apply IsS84.drew | apply IsS84.set_1 | refine IsS84.far ?_ NB0_472.out _) | exact HI0.out), by repeat (first | (with_reducible first | exact HB.out | apply below_alloc | apply pw_below_drewN | apply below_drew1 | refine below_set ?_ (IsS84.ge HI0.out) | refine below_set ?_ GE472.out) | exact HB.out), by repeat (first | (with_reducible first | exact HK.out | apply KeepBut.set_ | apply keep_drewN | apply keep_drew | apply keep_alloc | refine keep_far ?_ GW472.out _) | exact HK.out)⟩
                    · rw [if_neg c92] at H
                      exact absurd H (by simp)
                  · rw [if_neg c91] at H
                    exact absurd H (by simp)
              · replace c80 := Bool.eq_false_iff.mpr c80
                subst c80
                have H1 : (some (x7_1, t487)) = some (r1, r2) := by rw [if_neg (show ¬ (false = true) by decide)] at H; exact H
                clear H
                have H := H1
                clear H1
                simp only [Option.some.injEq, Prod.mk.injEq] at H
                obtain ⟨rfl, rfl⟩ := H
                go_wp2_with (first | ((with_reducible refine gate_callee (f := 60) rfl ?_); refine goesL_ (some 75) rfl rfl Try.func60 (by kernel_rfl) rfl #[.pointer (some ⟨g, 0, none⟩), .int .i64 a2] rfl (by (try simp only [List.map_toArray, List.map_cons, List.map_nil]); first | done | rfl | (simp only [List.length_drop, List.length_take]; rfl)) ?_; (with_reducible refine (spec_l20Rd_odd.calls kj7 g s0_0 x1001_1 a2 false t487 w0 _ ?side1 ?side2 A79.out).mono ?_); (case side1 => repeat (first | (with_reducible first | exact HI0.out | apply IsS84.alloc | apply IsS84.drewN | apply IsS84.drew | apply IsS84.set_1 | refine IsS84.far ?_ NB0_472.out _) | exact HI0.out)); (case side2 => repeat (first | (with_reducible first | exact HB.out | apply below_alloc | apply pw_below_drewN | apply below_drew1 | refine below_set ?_ (IsS84.ge HI0.out) | refine below_set ?_ GE472.out) | exact HB.out)); rintro e w100 ⟨rfl, hi, hb, hk⟩; refine ⟨_, rfl, ?_⟩; have n0_ := Aside0.mk (Kd.R_mono (Kd.R_keep (IsS84.apart (show IsS84 w0 _ g s0_0 x1001_1 from by repeat (first | (with_reducible first | exact HI0.out | apply IsS84.alloc | apply IsS84.drewN | apply IsS84.drew | apply IsS84.set_1 | refine IsS84.far ?_ NB0_472.out _) | exact HI0.out)) (by (with_reducible repeat (first | apply Kd.R_alloc | apply Kd.R_drewN | apply Kd.R_drew)); exact HO_7.out) (by decide)) hk (fun _ h => h.2)) (fun _ h => h.1)); have n1_ := Aside0.mk (KeepBut.blk hk (g' := gb472) (o := .cells #[.int .i64 a1_0, .int .i64 a1_1] 37 (0, 0)) (by (with_reducible repeat (first | refine blk_drewN ?_ _ | refine blk_drew ?_ | refine blk_alloc ?_ _)); exact BK472.out) NB472_0.out (by simp)); have n2_ := Aside0.mk (KeepBut.trans (by repeat (first | (with_reducible first | exact HK.out | apply KeepBut.set_ | apply keep_drewN | apply keep_drew | apply keep_alloc | refine keep_far ?_ GW472.out _) | exact HK.out)) hk (.inl rfl)); have n3_ := Aside0.mk (hb); have n4_ := Aside0.mk (hi); clear HO_7; clear BK472; clear HK; clear HB; clear HI0; have HO_7 := n0_; have BK472 := n1_; have HK := n2_; have HB := n3_; have HI0 := n4_; clear n0_ n1_ n2_ n3_ n4_; (try clear hb); (try clear hb2); (try clear hk); (try clear hi)))
                go_ret
                exact ⟨_, by first | rfl | (simp [errW_none, errW_some] <;> rfl) | (simp [*, errW_none, errW_some] <;> rfl), by (with_reducible repeat (first | apply Kd.R_alloc | apply Kd.R_drewN | apply Kd.R_drew)); exact HO_7.out, by repeat (first | (with_reducible first | exact HI0.out | apply IsS84.alloc | apply IsS84.drewN | apply IsS84.drew | apply IsS84.set_1 | refine IsS84.far ?_ NB0_472.out _) | exact HI0.out), by repeat (first | (with_reducible first | exact HB.out | apply below_alloc | apply pw_below_drewN | apply below_drew1 | refine below_set ?_ (IsS84.ge HI0.out) | refine below_set ?_ GE472.out) | exact HB.out), by repeat (first | (with_reducible first | exact HK.out | apply KeepBut.set_ | apply keep_drewN | apply keep_drew | apply keep_alloc | refine keep_far ?_ GW472.out _) | exact HK.out)⟩
  · rw [if_neg c4] at H
    exact absurd H (by simp)

end Go.Proofs.Ytooabmmnbifclaa.P
-- Laid by a program of this work.
namespace Go.Proofs.Ytooabmmnbifclaa.P
open Go.RowKit Go.Proofs.YtooabmmnbifclaaW.PrintWords Go.Proofs.YtooabmmnbifclaaW.PrintLast Go.Proofs.YtooabmmnbifclaaW.PrintMore
attribute [local go_sem] max2_int min2_int max_two min_two max_three min_three max_four min_four   -- for this text's walks alone
set_option linter.unusedVariables false
set_option linter.unusedSimpArgs false

/-! ### spec_DrawPatternValid: function 46 -/
def spec_DrawPatternValid.f (k : Nat) (l0 : List Int) : Option (Int × Int × List Bool) := (spec_l20Open.f l0).bind fun bt498 => ((spec_l20Supply.f k bt498.1 bt498.2 12).bind fun bt501 => ((spec_l20Pattern.f k bt498.1 bt501.2.2 bt501.1 bt501.2.1 2).bind fun bt505 => (some (bt501.1, bt501.2.1, bt505.1))))
theorem spec_DrawPatternValid.mono : ∀ a0 k, LeO (spec_DrawPatternValid.f k a0) (spec_DrawPatternValid.f (k + 1) a0) := by
  intro a0 k
  unfold spec_DrawPatternValid.f
  repeat' first
      | (with_reducible exact spec_l20Pattern.mono _ _ _ _ _ _)
      | (with_reducible exact spec_l20Supply.mono _ _ _ _)
      | (with_reducible exact LeO.refl _)
      | (with_reducible exact LeO.none _)
      | (with_reducible refine LeO.ite ?_ ?_)
      | (with_reducible refine LeO.bind ?_ (fun _ => ?_))
      | exact spec_l20Pattern.mono _ _ _ _ _ _
      | exact spec_l20Supply.mono _ _ _ _
      | exact LeO.none _
      | refine LeO.ite ?_ ?_
      | refine LeO.bind ?_ (fun _ => ?_)
set_option maxHeartbeats 8000000 in
set_option maxRecDepth 100000 in
theorem spec_DrawPatternValid.calls (k : Nat) (A0 : Option Addr) (c0 : Nat) (l0 : List Int) (r1 : Int) (r2 : Int) (r3 : List Bool) (w : World) (hr0 : Kd.C (Kd.int .u8) w A0 l0.length l0) (hc0 : l0.length ≤ c0) (h : spec_DrawPatternValid.f k l0 = some (r1, r2, r3)) :
    Calls Try.prog 46 #[.slice A0 l0.length c0] w fun e w' => ∃ v2_ : Value, e = .returned (.tuple #[.agg #[.int .i64 r1, .int .i64 r2], v2_]) ∧ Kd.R Kd.bool 4 w' w.heap.size (fun _ => True) v2_ r3 ∧ Below w.heap.size w w' := by
  have hu37 := Try.underlying37
  have HR0 := Aside0.mk hr0
  have HC0 := Aside0.mk hc0
  clear hr0 hc0
  have HB := Aside0.mk (Below.refl w.heap.size w)
  have H : ((spec_l20Open.f l0).bind fun bt498 => ((spec_l20Supply.f k bt498.1 bt498.2 12).bind fun bt501 => ((spec_l20Pattern.f k bt498.1 bt501.2.2 bt501.1 bt501.2.1 2).bind fun bt505 => (some (bt501.1, bt501.2.1, bt505.1))))) = some (r1, r2, r3) := h
  clear h
  replace H := Option.bind_eq_some_iff.mp H
  obtain ⟨⟨t498, t499⟩, A20, H⟩ := H
  replace H : ((spec_l20Supply.f k t498 t499 12).bind fun bt501 => ((spec_l20Pattern.f k t498 bt501.2.2 bt501.1 bt501.2.1 2).bind fun bt505 => (some (bt501.1, bt501.2.1, bt505.1)))) = some (r1, r2, r3) := H
  have A2 := Aside0.mk A20
  clear A20
  replace H := Option.bind_eq_some_iff.mp H
  obtain ⟨⟨t501, t502, t503⟩, A30, H⟩ := H
  replace H : ((spec_l20Pattern.f k t498 t503 t501 t502 2).bind fun bt505 => (some (t501, t502, bt505.1))) = some (r1, r2, r3) := H
  have A3 := Aside0.mk A30
  clear A30
  replace H := Option.bind_eq_some_iff.mp H
  obtain ⟨⟨t505, t508⟩, A40, H⟩ := H
  replace H : (some (t501, t502, t505)) = some (r1, r2, r3) := H
  have A4 := Aside0.mk A40
  clear A40
  simp only [Option.some.injEq, Prod.mk.injEq] at H
  obtain ⟨rfl, rfl, rfl⟩ := H
  go_enter Try.func46, Try.ntmps46
  try go_wp2_with (first | ((with_reducible refine gate_dst (N := 2) rfl ?_); refine box_event ?hg (N := 2) ?hd (cs := #[.int .i64 0, .int .i64 0]) (t := 37) ?hr ?_; (case hd => rfl); (case hg => rfl); (case hr => first | (go_simp; done) | (go_simp; rfl)); intro gb497 hg w5 hbox hb; have n0_ := Aside0.mk (below_step (by repeat (first | (with_reducible first | exact HB.out | apply below_alloc | apply pw_below_drewN | apply below_drew1) | exact HB.out)) hb); have n1_ := Aside0.mk (hbox); have n2_ := Aside0.mk ((by rw [hg]; exact (below_size (by repeat (first | (with_reducible first | exact HB.out | apply below_alloc | apply pw_below_drewN | apply below_drew1) | exact HB.out))) : w.heap.size ≤ gb497)); have n3_ := Aside0.mk ((by rw [hg]; exact (below_size (by repeat (first | (with_reducible first | exact HB.out | apply below_alloc | apply pw_below_drewN | apply below_drew1) | exact HB.out))) : w.heap.size ≤ gb497)); clear HB; have HB := n0_; have BK497 := n1_; have GW497 := n2_; have GE497 := n3_; clear n0_ n1_ n2_ n3_; clear hb hbox hg) | ((with_reducible refine gate_callee (f := 54) rfl ?_); refine goesL_ (some 7) rfl rfl Try.func54 (by kernel_rfl) rfl #[.slice A0 l0.length c0] rfl (by (try simp only [List.map_toArray, List.map_cons, List.map_nil]); first | done | rfl | (simp only [List.length_drop, List.length_take]; rfl)) ?_; (with_reducible refine (spec_l20Open.calls _ _ l0 t498 t499 w _ ?side1 ?side2 ?side3 A2.out).mono ?_); (case side1 => repeat (first | (with_reducible first | exact HB.out | apply below_alloc | apply pw_below_drewN | apply below_drew1 | refine below_set ?_ GE497.out) | exact HB.out)); (case side2 => exact HR0.out); (case side3 => exact HC0.out); rintro e w6 ⟨g500, rfl, hi, hb, hb2⟩; refine ⟨_, rfl, ?_⟩; have n0_ := Aside0.mk (blk_below (g := gb497) (o := .cells #[.int .i64 0, .int .i64 0] 37 (0, 0)) (by (with_reducible repeat (first | refine blk_drewN ?_ _ | refine blk_drew ?_ | refine blk_alloc ?_ _)); exact BK497.out) hb2); have n1_ := Aside0.mk (hb); have n2_ := Aside0.mk (hi); have n3_ := Aside0.mk (IsS84.ne_blk hi (blk_below (g := gb497) (o := .cells #[.int .i64 0, .int .i64 0] 37 (0, 0)) (by (with_reducible repeat (first | refine blk_drewN ?_ _ | refine blk_drew ?_ | refine blk_alloc ?_ _)); exact BK497.out) hb2) (by decide)); have n4_ := Aside0.mk (Ne.symm (IsS84.ne_blk hi (blk_below (g := gb497) (o := .cells #[.int .i64 0, .int .i64 0] 37 (0, 0)) (by (with_reducible repeat (first | refine blk_drewN ?_ _ | refine blk_drew ?_ | refine blk_alloc ?_ _)); exact BK497.out) hb2) (by decide))); clear BK497; clear HB; have BK497 := n0_; have HB := n1_; have HI500 := n2_; have NB500_497 := n3_; have NB497_500 := n4_; clear n0_ n1_ n2_ n3_ n4_; (try clear hb); (try clear hb2); (try clear hk); (try clear hi)) | ((with_reducible refine gate_callee (f := 53) rfl ?_); refine goesL_ (some 9) rfl rfl Try.func53 (by kernel_rfl) rfl #[.pointer (some ⟨g500, 0, none⟩), .int .i64 12] rfl (by (try simp only [List.map_toArray, List.map_cons, List.map_nil]); first | done | rfl | (simp only [List.length_drop, List.length_take]; rfl)) ?_; (with_reducible refine (spec_l20Supply.calls k g500 t498 t499 12 t501 t502 t503 w _ ?side1 ?side2 A3.out).mono ?_); (case side1 => repeat (first | (with_reducible first | exact HI500.out | apply IsS84.alloc | apply IsS84.drewN | apply IsS84.drew | apply IsS84.set_1 | refine IsS84.far ?_ NB500_497.out _) | exact HI500.out)); (case side2 => repeat (first | (with_reducible first | exact HB.out | apply below_alloc | apply pw_below_drewN | apply below_drew1 | refine below_set ?_ (IsS84.ge HI500.out) | refine below_set ?_ GE497.out) | exact HB.out)); rintro e w7 ⟨rfl, hi, hb, hk⟩; refine ⟨_, rfl, ?_⟩; have n0_ := Aside0.mk (KeepBut.blk hk (g' := gb497) (o := .cells #[.int .i64 0, .int .i64 0] 37 (0, 0)) (by (with_reducible repeat (first | refine blk_drewN ?_ _ | refine blk_drew ?_ | refine blk_alloc ?_ _)); exact BK497.out) NB497_500.out (by simp)); have n1_ := Aside0.mk (hb); have n2_ := Aside0.mk (hi); clear BK497; clear HB; clear HI500; have BK497 := n0_; have HB := n1_; have HI500 := n2_; clear n0_ n1_ n2_; (try clear hb); (try clear hb2); (try clear hk); (try clear hi)) | ((with_reducible refine gate_dst (N := 5) rfl ?_); refine box_event ?hg (N := 5) ?hd (cs := #[.int .i64 0, .int .i64 0]) (t := 37) ?hr ?_; (case hd => rfl); (case hg => rfl); (case hr => first | (go_simp; done) | (go_simp; rfl)); intro gb504 hg w8 hbox hb; have n0_ := Aside0.mk (blk_below (g := gb497) (o := .cells #[.int .i64 0, .int .i64 0] 37 (0, 0)) (by (with_reducible repeat (first | refine blk_drewN ?_ _ | refine blk_drew ?_ | refine blk_alloc ?_ _)); exact BK497.out) hb); have n1_ := Aside0.mk (IsS84.below (by repeat (first | (with_reducible first | exact HI500.out | apply IsS84.alloc | apply IsS84.drewN | apply IsS84.drew | apply IsS84.set_1 | refine IsS84.far ?_ NB500_497.out _) | exact HI500.out)) hb); have n2_ := Aside0.mk (below_step (by repeat (first | (with_reducible first | exact HB.out | apply below_alloc | apply pw_below_drewN | apply below_drew1 | refine below_set ?_ (IsS84.ge HI500.out) | refine below_set ?_ GE497.out) | exact HB.out)) hb); have n3_ := Aside0.mk (hbox); have n4_ := Aside0.mk ((by rw [hg]; exact (below_size (by repeat (first | (with_reducible first | exact HB.out | apply below_alloc | apply pw_below_drewN | apply below_drew1 | refine below_set ?_ (IsS84.ge HI500.out) | refine below_set ?_ GE497.out) | exact HB.out))) : w.heap.size ≤ gb504)); have n5_ := Aside0.mk ((by rw [hg]; exact (below_size (by repeat (first | (with_reducible first | exact HB.out | apply below_alloc | apply pw_below_drewN | apply below_drew1 | refine below_set ?_ (IsS84.ge HI500.out) | refine below_set ?_ GE497.out) | exact HB.out))) : w.heap.size ≤ gb504)); have n6_ := Aside0.mk ((by rw [hg]; exact Nat.ne_of_lt (blk_lt (g := gb497) (o := .cells #[.int .i64 0, .int .i64 0] 37 (0, 0)) (by (with_reducible repeat (first | refine blk_drewN ?_ _ | refine blk_drew ?_ | refine blk_alloc ?_ _)); exact BK497.out)) : gb497 ≠ gb504)); have n7_ := Aside0.mk ((by rw [hg]; exact Nat.ne_of_gt (blk_lt (g := gb497) (o := .cells #[.int .i64 0, .int .i64 0] 37 (0, 0)) (by (with_reducible repeat (first | refine blk_drewN ?_ _ | refine blk_drew ?_ | refine blk_alloc ?_ _)); exact BK497.out)) : gb504 ≠ gb497)); have n8_ := Aside0.mk ((by rw [hg]; exact Nat.ne_of_lt (IsS84.lt (show IsS84 w _ g500 t498 t503 from by repeat (first | (with_reducible first | exact HI500.out | apply IsS84.alloc | apply IsS84.drewN | apply IsS84.drew | apply IsS84.set_1 | refine IsS84.far ?_ NB500_497.out _) | exact HI500.out))) : g500 ≠ gb504)); have n9_ := Aside0.mk ((by rw [hg]; exact Nat.ne_of_gt (IsS84.lt (show IsS84 w _ g500 t498 t503 from by repeat (first | (with_reducible first | exact HI500.out | apply IsS84.alloc | apply IsS84.drewN | apply IsS84.drew | apply IsS84.set_1 | refine IsS84.far ?_ NB500_497.out _) | exact HI500.out))) : gb504 ≠ g500)); clear BK497; clear HI500; clear HB; have BK497 := n0_; have HI500 := n1_; have HB := n2_; have BK504 := n3_; have GW504 := n4_; have GE504 := n5_; have NB497_504 := n6_; have NB504_497 := n7_; have NB500_504 := n8_; have NB504_500 := n9_; clear n0_ n1_ n2_ n3_ n4_ n5_ n6_ n7_ n8_ n9_; clear hb hbox hg; have hnb9 := NB504_497.out; have hnc9 := NB497_504.out; have hnb10 := NB504_500.out; have hnc10 := NB500_504.out; have hcz11_0 : w8.cell? ⟨gb504, 0, none⟩ = some (.int .i64 0) := (blk_cell BK504.out 0).trans rfl; have hcz11_1 : w8.cell? ⟨gb504, 1, none⟩ = some (.int .i64 0) := (blk_cell BK504.out 1).trans rfl; have hfz11_0 := blk_frozen BK504.out 0; have hfz11_1 := blk_frozen BK504.out 1))
  have n0_ : Aside0 (((w8.setCell ⟨gb504, 0, none⟩ (.int .i64 t501)).setCell ⟨gb504, 1, none⟩ (.int .i64 t502)).heap[gb497]? = some (.cells #[.int .i64 0, .int .i64 0] 37 (0, 0))) := ⟨by (with_reducible repeat (first | refine blk_drewN ?_ _ | refine blk_drew ?_ | refine blk_alloc ?_ _)); refine blk_far ?_ NB497_504.out _; (with_reducible repeat (first | refine blk_drewN ?_ _ | refine blk_drew ?_ | refine blk_alloc ?_ _)); refine blk_far ?_ NB497_504.out _; (with_reducible repeat (first | refine blk_drewN ?_ _ | refine blk_drew ?_ | refine blk_alloc ?_ _)); exact BK497.out⟩
  have n1_ : Aside0 (((w8.setCell ⟨gb504, 0, none⟩ (.int .i64 t501)).setCell ⟨gb504, 1, none⟩ (.int .i64 t502)).heap[gb504]? = some (.cells #[.int .i64 t501, .int .i64 t502] 37 (0, 0))) := ⟨by (with_reducible repeat (first | refine blk_drewN ?_ _ | refine blk_drew ?_ | refine blk_alloc ?_ _)); refine blk_put (cs := #[.int .i64 t501, .int .i64 0]) ?_ 1 _ rfl; (with_reducible repeat (first | refine blk_drewN ?_ _ | refine blk_drew ?_ | refine blk_alloc ?_ _)); refine blk_put (cs := #[.int .i64 0, .int .i64 0]) ?_ 0 _ rfl; (with_reducible repeat (first | refine blk_drewN ?_ _ | refine blk_drew ?_ | refine blk_alloc ?_ _)); exact BK504.out⟩
  have n2_ : Aside0 (IsS84 w ((w8.setCell ⟨gb504, 0, none⟩ (.int .i64 t501)).setCell ⟨gb504, 1, none⟩ (.int .i64 t502)) g500 t498 t503) := ⟨by repeat (first | (with_reducible first | exact HI500.out | apply IsS84.alloc | apply IsS84.drewN | apply IsS84.drew | apply IsS84.set_1 | refine IsS84.far ?_ NB500_497.out _ | refine IsS84.far ?_ NB500_504.out _) | exact HI500.out)⟩
  have n3_ : Aside0 (Below w.heap.size w ((w8.setCell ⟨gb504, 0, none⟩ (.int .i64 t501)).setCell ⟨gb504, 1, none⟩ (.int .i64 t502))) := ⟨by repeat (first | (with_reducible first | exact HB.out | apply below_alloc | apply pw_below_drewN | apply below_drew1 | refine below_set ?_ (IsS84.ge HI500.out) | refine below_set ?_ GE497.out | refine below_set ?_ GE504.out) | exact HB.out)⟩
  (try clear BK497)
  (try clear BK504)
  (try clear HI500)
  (try clear HB)
  generalize ((w8.setCell ⟨gb504, 0, none⟩ (.int .i64 t501)).setCell ⟨gb504, 1, none⟩ (.int .i64 t502)) = w12 at n0_ n1_ n2_ n3_ ⊢
  have BK497 := n0_
  have BK504 := n1_
  have HI500 := n2_
  have HB := n3_
  clear n0_ n1_ n2_ n3_
  have n0_ := Aside0.mk (blk_drew BK497.out)
  have n1_ := Aside0.mk (blk_drew BK504.out)
  have n2_ := Aside0.mk (IsS84.drew HI500.out)
  have n3_ := Aside0.mk (below_drew1 HB.out)
  clear BK497
  clear BK504
  clear HI500
  clear HB
  have BK497 := n0_
  have BK504 := n1_
  have HI500 := n2_
  have HB := n3_
  clear n0_ n1_ n2_ n3_
  refine start_ (n := 6) (S := fun w' => w'.cell? ⟨gb504, 0, none⟩ = some (.int .i64 t501) ∧ w'.cell? ⟨gb504, 1, none⟩ = some (.int .i64 t502)) (ds := []) #[false, false, false, false, false, false] (by kernel_rfl) rfl rfl ⟨(blk_cell BK504.out 0).trans rfl, (blk_cell BK504.out 1).trans rfl⟩ (fun hHeld => ?_)
  generalize w12.drew = w13 at BK497 BK504 HI500 HB hHeld ⊢
  refine pure_ (i := 1) (N := some 11) (v := ?_) (a' := ?_) #[false, true, false, false, false, false] rfl rfl (by kernel_rfl) (fun _ _ _ h => h) (Or.inl ⟨by rfl, ?_⟩) ?_ ?_
  rotate_left
  · intro w'
    go_simp
    with_reducible rfl
  rotate_left
  · simp only [Act.put, List.setIfInBounds_toArray, List.set_cons_zero, List.set_cons_succ, i64_w, i32_w]
    rfl
  refine take_ (i := 0) (N := some 10) (v := ?_) (a' := ?_) #[true, true, false, false, false, false] rfl rfl (by kernel_rfl) (fun _ _ _ h => h) (Or.inl ⟨by rfl, ?_⟩) hHeld ?_ ?_
  rotate_left
  · rintro w' ⟨s0, s1⟩
    go_simp
    with_reducible rfl
  rotate_left
  · simp only [Act.put, List.setIfInBounds_toArray, List.set_cons_zero, List.set_cons_succ, i64_w, i32_w]
    rfl
  refine take_ (i := 2) (N := some 12) (v := ?_) (a' := ?_) #[true, true, true, false, false, false] rfl rfl (by kernel_rfl) (fun _ _ _ h => h) (Or.inl ⟨by rfl, ?_⟩) hHeld ?_ ?_
  rotate_left
  · rintro w' ⟨s0, s1⟩
    go_simp
    with_reducible rfl
  rotate_left
  · simp only [Act.put, List.setIfInBounds_toArray, List.set_cons_zero, List.set_cons_succ, i64_w, i32_w]
    rfl
  refine one_ (i := 3) (N := some 13) #[true, true, true, true, false, false] rfl rfl (by kernel_rfl) (by decide) (fun K hK => ?_)
  refine goes_ Try.func59 (by kernel_rfl) rfl #[.pointer (some ⟨g500, 0, none⟩), .agg #[.int .i64 t501, .int .i64 t502], .int .i64 2] (by rfl) rfl rfl (by (try simp only [List.map_toArray, List.map_cons, List.map_nil]); first | done | rfl | (simp only [List.length_drop, List.length_take]; rfl)) ?_
  with_reducible refine (spec_l20Pattern.calls k g500 t498 t503 t501 t502 2 t505 t508 w _ ?side1 ?side2 A4.out).mono ?_
  (case side1 => repeat (first | (with_reducible first | exact HI500.out | apply IsS84.alloc | apply IsS84.drewN | apply IsS84.drew | apply IsS84.set_1 | refine IsS84.far ?_ NB500_497.out _ | refine IsS84.far ?_ NB500_504.out _) | exact HI500.out))
  (case side2 => repeat (first | (with_reducible first | exact HB.out | apply below_alloc | apply pw_below_drewN | apply below_drew1 | refine below_set ?_ (IsS84.ge HI500.out) | refine below_set ?_ GE497.out | refine below_set ?_ GE504.out) | exact HB.out))
  rintro e w14 ⟨v506, rfl, ho0, hi, hb, hk⟩
  refine ⟨_, rfl, ?_⟩
  have n0_ := Aside0.mk (KeepBut.blk hk (g' := gb497) (o := .cells #[.int .i64 0, .int .i64 0] 37 (0, 0)) (by (with_reducible repeat (first | refine blk_drewN ?_ _ | refine blk_drew ?_ | refine blk_alloc ?_ _)); exact BK497.out) NB497_500.out (by simp))
  have n1_ := Aside0.mk (KeepBut.blk hk (g' := gb504) (o := .cells #[.int .i64 t501, .int .i64 t502] 37 (0, 0)) (by (with_reducible repeat (first | refine blk_drewN ?_ _ | refine blk_drew ?_ | refine blk_alloc ?_ _)); exact BK504.out) NB504_500.out (by simp))
  have n2_ := Aside0.mk (Kd.R_lower ho0 (below_size (by repeat (first | (with_reducible first | exact HB.out | apply below_alloc | apply pw_below_drewN | apply below_drew1 | refine below_set ?_ (IsS84.ge HI500.out) | refine below_set ?_ GE497.out | refine below_set ?_ GE504.out) | exact HB.out))))
  have n3_ := Aside0.mk (hb)
  have n4_ := Aside0.mk (hi)
  clear BK497
  clear BK504
  clear HB
  clear HI500
  have BK497 := n0_
  have BK504 := n1_
  have HO507 := n2_
  have HB := n3_
  have HI500 := n4_
  clear n0_ n1_ n2_ n3_ n4_
  (try clear hb)
  (try clear hb2)
  (try clear hk)
  (try clear hi)
  (try clear ho0)
  refine hK.out _ _ ⟨(blk_cell BK504.out 0).trans rfl, (blk_cell BK504.out 1).trans rfl⟩ (fun hHeld => ?_)
  clear hK K
  refine norm_ (a' := ?_) ?_ ?_
  rotate_left
  · show Act.put _ (some 13) _ = _
    simp only [Act.put, List.setIfInBounds_toArray, List.set_cons_zero, List.set_cons_succ, i64_w, i32_w]
    rfl
  refine one_ (i := 4) (N := none) #[true, true, true, true, true, false] rfl rfl (by kernel_rfl) (by decide) (fun K hK => ?_)
  have hs15 : w14.cell? ⟨gb497, 0, none⟩ = some (.int .i64 0) := (blk_cell BK497.out 0).trans rfl
  have hfs15 := blk_frozen BK497.out 0
  have hns15_1 := NB504_497.out
  have hms15_1 := NB497_504.out
  have hs16 : w14.cell? ⟨gb497, 1, none⟩ = some (.int .i64 0) := (blk_cell BK497.out 1).trans rfl
  have hfs16 := blk_frozen BK497.out 1
  have hns16_1 := NB504_497.out
  have hms16_1 := NB497_504.out
  refine skip_ (w1 := ?_) (by rfl) rfl ?_ ?_
  rotate_left
  · go_simp
    rfl
  refine hK.out _ _ ⟨((cell_far (p := ⟨gb497, _, none⟩) NB504_497.out _).trans (((cell_far (p := ⟨gb497, _, none⟩) NB504_497.out _).trans (hHeld.1)))), ((cell_far (p := ⟨gb497, _, none⟩) NB504_497.out _).trans (((cell_far (p := ⟨gb497, _, none⟩) NB504_497.out _).trans (hHeld.2))))⟩ (fun hHeld => ?_)
  clear hK K
  refine pure_ (i := 5) (N := some 3) (v := ?_) (a' := ?_) #[true, true, true, true, true, true] rfl rfl (by kernel_rfl) (fun _ _ _ h => h) (Or.inl ⟨by rfl, ?_⟩) ?_ ?_
  rotate_left
  · intro w'
    go_simp
    with_reducible rfl
  rotate_left
  · simp only [Act.put, List.setIfInBounds_toArray, List.set_cons_zero, List.set_cons_succ, i64_w, i32_w]
    rfl
  refine done_ (by kernel_rfl) ?_
  try go_wp2
  refine bodyPost_ret (results_ct rfl _ _ gb497 37 #[.int .i64 t501, .int .i64 t502] (0, 0) _ rfl (by (with_reducible repeat (first | refine blk_drewN ?_ _ | refine blk_drew ?_ | refine blk_alloc ?_ _)); refine blk_put (cs := #[.int .i64 t501, .int .i64 0]) ?_ 1 _ rfl; (with_reducible repeat (first | refine blk_drewN ?_ _ | refine blk_drew ?_ | refine blk_alloc ?_ _)); refine blk_put (cs := #[.int .i64 0, .int .i64 0]) ?_ 0 _ rfl; (with_reducible repeat (first | refine blk_drewN ?_ _ | refine blk_drew ?_ | refine blk_alloc ?_ _)); exact BK497.out) Try.underlying37 rfl (by kernel_rfl)) rfl ?_
  exact ⟨_, by first | rfl | (simp [errW_none, errW_some] <;> rfl) | (simp [*, errW_none, errW_some] <;> rfl), by (with_reducible repeat (first | apply Kd.R_alloc | apply Kd.R_drewN | apply Kd.R_drew)); exact Kd.R_mono (Kd.R_far (p := ⟨gb497, 1, none⟩) (Kd.R_far (p := ⟨gb497, 0, none⟩) (Kd.R_types HO507.out BK497.out (by decide)) (fun _ hk => hk.2) (.int .i64 t501)) (fun _ hk => hk.2) (.int .i64 t502)) (fun _ hk => trivial), by repeat (first | (with_reducible first | exact HB.out | apply below_alloc | apply pw_below_drewN | apply below_drew1 | refine below_set ?_ (IsS84.ge HI500.out) | refine below_set ?_ GE497.out | refine below_set ?_ GE504.out) | exact HB.out)⟩

end Go.Proofs.Ytooabmmnbifclaa.P
-- Laid by a program of this work.
namespace Go.Proofs.Ytooabmmnbifclaa.P
open Go.RowKit Go.Proofs.YtooabmmnbifclaaW.PrintWords Go.Proofs.YtooabmmnbifclaaW.PrintLast Go.Proofs.YtooabmmnbifclaaW.PrintMore
attribute [local go_sem] max2_int min2_int max_two min_two max_three min_three max_four min_four   -- for this text's walks alone
set_option linter.unusedVariables false
set_option linter.unusedSimpArgs false

/-! ### laws_FnSupplyWorst: function 16 -/
mutual
def laws_FnSupplyWorst.l0 : Nat → List Bool → Int → Int → Int → Int → Option (Bool)
  | 0, _, _, _, _, _ => none
  | k + 1, x4, x6, x7, x515000, x515001 => if x7 < x6 then (laws_FnSupplyWorst.l1 k x4 x6 x7 0 x7 x515000 x515001) else (some true)
def laws_FnSupplyWorst.l1 : Nat → List Bool → Int → Int → Int → Int → Int → Int → Option (Bool)
  | 0, _, _, _, _, _, _, _ => none
  | k + 1, x4, x6, x7, x8, x9, x515000, x515001 => if x9 < x6 then (if 0 ≤ x9 then (if x9 < (x4.length : Int) then (if rdOf false x4 x9 = true then ((impl_SupplyBound.f x515000 x515001 (wrap64 ((wrap64 (x9 - x7)) + 1))).bind fun t519 => (if (wrap64 (x8 + 1)) < t519 then (some false) else (laws_FnSupplyWorst.l1 k x4 x6 x7 (wrap64 (x8 + 1)) (wrap64 (x9 + 1)) x515000 x515001))) else ((impl_SupplyBound.f x515000 x515001 (wrap64 ((wrap64 (x9 - x7)) + 1))).bind fun t520 => (if x8 < t520 then (some false) else (laws_FnSupplyWorst.l1 k x4 x6 x7 x8 (wrap64 (x9 + 1)) x515000 x515001)))) else (none)) else (none)) else (laws_FnSupplyWorst.l0 k x4 x6 (wrap64 (x7 + 1)) x515000 x515001)
end
def laws_FnSupplyWorst.f (k : Nat) (l0 : List Int) : Option (Bool) := if (l0.length : Int) > 1048576 then (some true) else ((spec_DrawPatternValid.f k l0).bind fun bt509 => ((impl_PatternValid.f k bt509.1 bt509.2.1 bt509.2.2).bind fun t515 => ((spec_PatternValid.f k bt509.1 bt509.2.1 bt509.2.2).bind fun t516 => (if (t515 != t516) = true then (some false) else (if t515 = true then (if bt509.2.1 = 0 then (none) else (laws_FnSupplyWorst.l0 k bt509.2.2 (wrap64 ((wrap64 (Int.tdiv 120 bt509.2.1)) * bt509.2.1)) 0 bt509.1 bt509.2.1)) else ((laws_alive.f).bind fun t517 => (some t517)))))))
theorem laws_FnSupplyWorst.mono_l : ∀ k, (∀ y0 y1 y2 y3 y4, LeO (laws_FnSupplyWorst.l0 k y0 y1 y2 y3 y4) (laws_FnSupplyWorst.l0 (k + 1) y0 y1 y2 y3 y4)) ∧ (∀ y0 y1 y2 y3 y4 y5 y6, LeO (laws_FnSupplyWorst.l1 k y0 y1 y2 y3 y4 y5 y6) (laws_FnSupplyWorst.l1 (k + 1) y0 y1 y2 y3 y4 y5 y6))
  | 0 => ⟨fun _ _ _ _ _ r h => by simp [laws_FnSupplyWorst.l0] at h, fun _ _ _ _ _ _ _ r h => by simp [laws_FnSupplyWorst.l1] at h⟩
  | k + 1 => by
    obtain ⟨ih0, ih1⟩ := laws_FnSupplyWorst.mono_l k
    refine ⟨?_, ?_⟩
    · intro y0 y1 y2 y3 y4
      unfold laws_FnSupplyWorst.l0
      repeat' first
      | (with_reducible exact ih0 _ _ _ _ _)
      | (with_reducible exact ih1 _ _ _ _ _ _ _)
      | (with_reducible exact impl_PatternValid.mono _ _ _ _)
      | (with_reducible exact spec_DrawPatternValid.mono _ _)
      | (with_reducible exact spec_PatternValid.mono _ _ _ _)
      | (with_reducible exact LeO.refl _)
      | (with_reducible exact LeO.none _)
      | (with_reducible refine LeO.ite ?_ ?_)
      | (with_reducible refine LeO.bind ?_ (fun _ => ?_))
      | exact ih0 _ _ _ _ _
      | exact ih1 _ _ _ _ _ _ _
      | exact impl_PatternValid.mono _ _ _ _
      | exact spec_DrawPatternValid.mono _ _
      | exact spec_PatternValid.mono _ _ _ _
      | exact LeO.none _
      | refine LeO.ite ?_ ?_
      | refine LeO.bind ?_ (fun _ => ?_)
    · intro y0 y1 y2 y3 y4 y5 y6
      unfold laws_FnSupplyWorst.l1
      repeat' first
      | (with_reducible exact ih0 _ _ _ _ _)
      | (with_reducible exact ih1 _ _ _ _ _ _ _)
      | (with_reducible exact impl_PatternValid.mono _ _ _ _)
      | (with_reducible exact spec_DrawPatternValid.mono _ _)
      | (with_reducible exact spec_PatternValid.mono _ _ _ _)
      | (with_reducible exact LeO.refl _)
      | (with_reducible exact LeO.none _)
      | (with_reducible refine LeO.ite ?_ ?_)
      | (with_reducible refine LeO.bind ?_ (fun _ => ?_))
      | exact ih0 _ _ _ _ _
      | exact ih1 _ _ _ _ _ _ _
      | exact impl_PatternValid.mono _ _ _ _
      | exact spec_DrawPatternValid.mono _ _
      | exact spec_PatternValid.mono _ _ _ _
      | exact LeO.none _
      | refine LeO.ite ?_ ?_
      | refine LeO.bind ?_ (fun _ => ?_)
theorem laws_FnSupplyWorst.mono : ∀ a0 k, LeO (laws_FnSupplyWorst.f k a0) (laws_FnSupplyWorst.f (k + 1) a0) := by
  intro a0 k
  obtain ⟨ih0, ih1⟩ := laws_FnSupplyWorst.mono_l k
  unfold laws_FnSupplyWorst.f
  repeat' first
      | (with_reducible exact ih0 _ _ _ _ _)
      | (with_reducible exact ih1 _ _ _ _ _ _ _)
      | (with_reducible exact impl_PatternValid.mono _ _ _ _)
      | (with_reducible exact spec_DrawPatternValid.mono _ _)
      | (with_reducible exact spec_PatternValid.mono _ _ _ _)
      | (with_reducible exact LeO.refl _)
      | (with_reducible exact LeO.none _)
      | (with_reducible refine LeO.ite ?_ ?_)
      | (with_reducible refine LeO.bind ?_ (fun _ => ?_))
      | exact ih0 _ _ _ _ _
      | exact ih1 _ _ _ _ _ _ _
      | exact impl_PatternValid.mono _ _ _ _
      | exact spec_DrawPatternValid.mono _ _
      | exact spec_PatternValid.mono _ _ _ _
      | exact LeO.none _
      | refine LeO.ite ?_ ?_
      | refine LeO.bind ?_ (fun _ => ?_)
set_option maxHeartbeats 8000000 in
set_option maxRecDepth 100000 in
theorem laws_FnSupplyWorst.calls (k : Nat) (A0 : Option Addr) (c0 : Nat) (l0 : List Int) (r : Bool) (w : World) (hr0 : Kd.C (Kd.int .u8) w A0 l0.length l0) (hc0 : l0.length ≤ c0) (h : laws_FnSupplyWorst.f k l0 = some r) :
    Calls Try.prog 16 #[.slice A0 l0.length c0] w fun e w' => e = .returned (.bool r) ∧ Below w.heap.size w w' := by
  have hu37 := Try.underlying37
  have HR0 := Aside0.mk hr0
  have HC0 := Aside0.mk hc0
  clear hr0 hc0
  have HB := Aside0.mk (Below.refl w.heap.size w)
  have H : (if (l0.length : Int) > 1048576 then (some true) else ((spec_DrawPatternValid.f k l0).bind fun bt509 => ((impl_PatternValid.f k bt509.1 bt509.2.1 bt509.2.2).bind fun t515 => ((spec_PatternValid.f k bt509.1 bt509.2.1 bt509.2.2).bind fun t516 => (if (t515 != t516) = true then (some false) else (if t515 = true then (if bt509.2.1 = 0 then (none) else (laws_FnSupplyWorst.l0 k bt509.2.2 (wrap64 ((wrap64 (Int.tdiv 120 bt509.2.1)) * bt509.2.1)) 0 bt509.1 bt509.2.1)) else ((laws_alive.f).bind fun t517 => (some t517)))))))) = some r := h
  clear h
  by_cases c2 : (l0.length : Int) > 1048576
  · rw [if_pos c2] at H
    have c2b0 : decide (1048576 < (l0.length : Int)) = true := decide_eq_true c2
    have c2b1 : decide (1048576 < l0.length) = true := decide_eq_true (by omega)
    clear c2
    obtain rfl := Option.some.inj H
    go_enter Try.func16, Try.ntmps16
    go_wp2
    repeat (go_quiet (fail); try go_wp2)
    go_ret
    exact ⟨by first | rfl | (simp [errW_none, errW_some] <;> rfl) | (simp [*, errW_none, errW_some] <;> rfl), by repeat (first | (with_reducible first | exact HB.out | apply below_alloc | apply pw_below_drewN | apply below_drew1) | exact HB.out)⟩
  · rw [if_neg c2] at H
    have c2b0 : decide (1048576 < (l0.length : Int)) = false := decide_eq_false c2
    have c2b1 : decide (1048576 < l0.length) = false := decide_eq_false (by omega)
    clear c2
    replace H := Option.bind_eq_some_iff.mp H
    obtain ⟨⟨t509, t510, t511⟩, A30, H⟩ := H
    replace H : ((impl_PatternValid.f k t509 t510 t511).bind fun t515 => ((spec_PatternValid.f k t509 t510 t511).bind fun t516 => (if (t515 != t516) = true then (some false) else (if t515 = true then (if t510 = 0 then (none) else (laws_FnSupplyWorst.l0 k t511 (wrap64 ((wrap64 (Int.tdiv 120 t510)) * t510)) 0 t509 t510)) else ((laws_alive.f).bind fun t517 => (some t517)))))) = some r := H
    have A3 := Aside0.mk A30
    clear A30
    replace H := Option.bind_eq_some_iff.mp H
    obtain ⟨t515, A40, H⟩ := H
    replace H : ((spec_PatternValid.f k t509 t510 t511).bind fun t516 => (if (t515 != t516) = true then (some false) else (if t515 = true then (if t510 = 0 then (none) else (laws_FnSupplyWorst.l0 k t511 (wrap64 ((wrap64 (Int.tdiv 120 t510)) * t510)) 0 t509 t510)) else ((laws_alive.f).bind fun t517 => (some t517))))) = some r := H
    have A4 := Aside0.mk A40
    clear A40
    replace H := Option.bind_eq_some_iff.mp H
    obtain ⟨t516, A50, H⟩ := H
    replace H : (if (t515 != t516) = true then (some false) else (if t515 = true then (if t510 = 0 then (none) else (laws_FnSupplyWorst.l0 k t511 (wrap64 ((wrap64 (Int.tdiv 120 t510)) * t510)) 0 t509 t510)) else ((laws_alive.f).bind fun t517 => (some t517)))) = some r := H
    have A5 := Aside0.mk A50
    clear A50
    by_cases c6 : (t515 != t516) = true
    · rw [if_pos c6] at H
      have c6b0 : (t515 != t516) = true := c6
      (try (have c6b1 : decide (t515 = t516) = false := by simpa using c6))
      (try (have c6b2 : (t515 == t516) = false := by simpa using c6))
      (try (have c6b3 : ¬ (t515 = t516) := by simpa using c6))
      clear c6
      obtain rfl := Option.some.inj H
      go_enter Try.func16, Try.ntmps16
      go_wp2_with (first | (go_at_call 46; (with_reducible refine (spec_DrawPatternValid.calls k _ _ l0 t509 t510 t511 _ ?side1 ?side2 A3.out).mono ?_); (case side1 => repeat (first | exact HR0.out | (with_reducible refine Kd.C_alloc ?_ _) | (with_reducible refine Kd.C_drewN ?_ _) | (with_reducible refine Kd.C_drew ?_))); (case side2 => exact HC0.out); rintro e w7 ⟨v512, rfl, ho0, hb⟩; have n0_ := Aside0.mk (Kd.R_lower ho0 (below_size (by repeat (first | (with_reducible first | exact HB.out | apply below_alloc | apply pw_below_drewN | apply below_drew1) | exact HB.out)))); have n1_ := Aside0.mk (below_step (by repeat (first | (with_reducible first | exact HB.out | apply below_alloc | apply pw_below_drewN | apply below_drew1) | exact HB.out)) hb); clear HB; have HO513 := n0_; have HB := n1_; clear n0_ n1_; (try clear hb); (try clear hb2); (try clear hk); (try clear hi); (try clear ho0)) | ((with_reducible refine gate_dst (N := 3) rfl ?_); refine box_event ?hg (N := 3) ?hd (cs := #[.int .i64 0, .int .i64 0]) (t := 37) ?hr ?_; (case hd => rfl); (case hg => rfl); (case hr => first | (go_simp; done) | (go_simp; rfl)); intro gb514 hg w8 hbox hb; have n0_ := Aside0.mk (Kd.R_below (by (with_reducible repeat (first | apply Kd.R_alloc | apply Kd.R_drewN | apply Kd.R_drew)); exact HO513.out) hb); have n1_ := Aside0.mk (below_step (by repeat (first | (with_reducible first | exact HB.out | apply below_alloc | apply pw_below_drewN | apply below_drew1) | exact HB.out)) hb); have n2_ := Aside0.mk (hbox); have n3_ := Aside0.mk ((by rw [hg]; exact (below_size (by repeat (first | (with_reducible first | exact HB.out | apply below_alloc | apply pw_below_drewN | apply below_drew1) | exact HB.out))) : w.heap.size ≤ gb514)); have n4_ := Aside0.mk ((by rw [hg]; exact (below_size (by repeat (first | (with_reducible first | exact HB.out | apply below_alloc | apply pw_below_drewN | apply below_drew1) | exact HB.out))) : w.heap.size ≤ gb514)); clear HO513; clear HB; have HO513 := n0_; have HB := n1_; have BK514 := n2_; have GW514 := n3_; have GE514 := n4_; clear n0_ n1_ n2_ n3_ n4_; clear hb hbox hg; have hcz9_0 : w8.cell? ⟨gb514, 0, none⟩ = some (.int .i64 0) := (blk_cell BK514.out 0).trans rfl; have hcz9_1 : w8.cell? ⟨gb514, 1, none⟩ = some (.int .i64 0) := (blk_cell BK514.out 1).trans rfl; have hfz9_0 := blk_frozen BK514.out 0; have hfz9_1 := blk_frozen BK514.out 1; obtain ⟨Ao10, co10, eo10⟩ := Kd.R_slice HO513.out; subst eo10) | (go_at_call 44; (with_reducible refine (impl_PatternValid.calls k t509 t510 _ _ t511 t515 _ ?side1 ?side2 A4.out).mono ?_); (case side1 => refine (Kd.R_reads' (e := 4) (base := w.heap.size) (ok := fun k_ => True) (n := t511.length) (c := co10) ?_).2.2; exact (by (with_reducible repeat (first | apply Kd.R_alloc | apply Kd.R_drewN | apply Kd.R_drew)); exact (Kd.R_mono (Kd.R_far (p := ⟨gb514, 1, none⟩) (Kd.R_far (p := ⟨gb514, 0, none⟩) (Kd.R_types HO513.out BK514.out (by decide)) (fun _ hk => hk.2) (.int .i64 t509)) (fun _ hk => hk.2) (.int .i64 t510)) (fun _ h_ => h_.1)))); (case side2 => exact (Kd.R_reads' HO513.out).2.1); rintro e w11 ⟨rfl, hb⟩; have n0_ := Aside0.mk (Kd.R_below (by (with_reducible repeat (first | apply Kd.R_alloc | apply Kd.R_drewN | apply Kd.R_drew)); exact (Kd.R_mono (Kd.R_far (p := ⟨gb514, 1, none⟩) (Kd.R_far (p := ⟨gb514, 0, none⟩) (Kd.R_types HO513.out BK514.out (by decide)) (fun _ hk => hk.2) (.int .i64 t509)) (fun _ hk => hk.2) (.int .i64 t510)) (fun _ h_ => h_.1))) hb); have n1_ := Aside0.mk (blk_below (g := gb514) (o := .cells #[.int .i64 t509, .int .i64 t510] 37 (0, 0)) (by (with_reducible repeat (first | refine blk_drewN ?_ _ | refine blk_drew ?_ | refine blk_alloc ?_ _)); refine blk_put (cs := #[.int .i64 t509, .int .i64 0]) ?_ 1 _ rfl; (with_reducible repeat (first | refine blk_drewN ?_ _ | refine blk_drew ?_ | refine blk_alloc ?_ _)); refine blk_put (cs := #[.int .i64 0, .int .i64 0]) ?_ 0 _ rfl; (with_reducible repeat (first | refine blk_drewN ?_ _ | refine blk_drew ?_ | refine blk_alloc ?_ _)); exact BK514.out) hb); have n2_ := Aside0.mk (below_step (by repeat (first | (with_reducible first | exact HB.out | apply below_alloc | apply pw_below_drewN | apply below_drew1 | refine below_set ?_ GE514.out) | exact HB.out)) hb); clear HO513; clear BK514; clear HB; have HO513 := n0_; have BK514 := n1_; have HB := n2_; clear n0_ n1_ n2_; (try clear hb); (try clear hb2); (try clear hk); (try clear hi); have hcz12_0 : w11.cell? ⟨gb514, 0, none⟩ = some (.int .i64 t509) := (blk_cell BK514.out 0).trans rfl; have hcz12_1 : w11.cell? ⟨gb514, 1, none⟩ = some (.int .i64 t510) := (blk_cell BK514.out 1).trans rfl; have hfz12_0 := blk_frozen BK514.out 0; have hfz12_1 := blk_frozen BK514.out 1) | (go_at_call 42; (with_reducible refine (spec_PatternValid.calls k t509 t510 _ _ t511 t516 _ ?side1 ?side2 A5.out).mono ?_); (case side1 => repeat (first | exact (Kd.R_reads' HO513.out).2.2 | (with_reducible refine Kd.C_alloc ?_ _) | (with_reducible refine Kd.C_drewN ?_ _) | (with_reducible refine Kd.C_drew ?_))); (case side2 => exact (Kd.R_reads' HO513.out).2.1); rintro e w13 ⟨rfl, hb⟩; have n0_ := Aside0.mk (Kd.R_below (by (with_reducible repeat (first | apply Kd.R_alloc | apply Kd.R_drewN | apply Kd.R_drew)); exact HO513.out) hb); have n1_ := Aside0.mk (blk_below (g := gb514) (o := .cells #[.int .i64 t509, .int .i64 t510] 37 (0, 0)) (by (with_reducible repeat (first | refine blk_drewN ?_ _ | refine blk_drew ?_ | refine blk_alloc ?_ _)); exact BK514.out) hb); have n2_ := Aside0.mk (below_step (by repeat (first | (with_reducible first | exact HB.out | apply below_alloc | apply pw_below_drewN | apply below_drew1 | refine below_set ?_ GE514.out) | exact HB.out)) hb); clear HO513; clear BK514; clear HB; have HO513 := n0_; have BK514 := n1_; have HB := n2_; clear n0_ n1_ n2_; (try clear hb); (try clear hb2); (try clear hk); (try clear hi)))
      repeat (go_quiet (first | (go_at_call 46; (with_reducible refine (spec_DrawPatternValid.calls k _ _ l0 t509 t510 t511 _ ?side1 ?side2 A3.out).mono ?_); (case side1 => repeat (first | exact HR0.out | (with_reducible refine Kd.C_alloc ?_ _) | (with_reducible refine Kd.C_drewN ?_ _) | (with_reducible refine Kd.C_drew ?_))); (case side2 => exact HC0.out); rintro e w7 ⟨v512, rfl, ho0, hb⟩; have n0_ := Aside0.mk (Kd.R_lower ho0 (below_size (by repeat (first | (with_reducible first | exact HB.out | apply below_alloc | apply pw_below_drewN | apply below_drew1) | exact HB.out)))); have n1_ := Aside0.mk (below_step (by repeat (first | (with_reducible first | exact HB.out | apply below_alloc | apply pw_below_drewN | apply below_drew1) | exact HB.out)) hb); clear HB; have HO513 := n0_; have HB := n1_; clear n0_ n1_; (try clear hb); (try clear hb2); (try clear hk); (try clear hi); (try clear ho0)) | ((with_reducible refine gate_dst (N := 3) rfl ?_); refine box_event ?hg (N := 3) ?hd (cs := #[.int .i64 0, .int .i64 0]) (t := 37) ?hr ?_; (case hd => rfl); (case hg => rfl); (case hr => first | (go_simp; done) | (go_simp; rfl)); intro gb514 hg w8 hbox hb; have n0_ := Aside0.mk (Kd.R_below (by (with_reducible repeat (first | apply Kd.R_alloc | apply Kd.R_drewN | apply Kd.R_drew)); exact HO513.out) hb); have n1_ := Aside0.mk (below_step (by repeat (first | (with_reducible first | exact HB.out | apply below_alloc | apply pw_below_drewN | apply below_drew1) | exact HB.out)) hb); have n2_ := Aside0.mk (hbox); have n3_ := Aside0.mk ((by rw [hg]; exact (below_size (by repeat (first | (with_reducible first | exact HB.out | apply below_alloc | apply pw_below_drewN | apply below_drew1) | exact HB.out))) : w.heap.size ≤ gb514)); have n4_ := Aside0.mk ((by rw [hg]; exact (below_size (by repeat (first | (with_reducible first | exact HB.out | apply below_alloc | apply pw_below_drewN | apply below_drew1) | exact HB.out))) : w.heap.size ≤ gb514)); clear HO513; clear HB; have HO513 := n0_; have HB := n1_; have BK514 := n2_; have GW514 := n3_; have GE514 := n4_; clear n0_ n1_ n2_ n3_ n4_; clear hb hbox hg; have hcz9_0 : w8.cell? ⟨gb514, 0, none⟩ = some (.int .i64 0) := (blk_cell BK514.out 0).trans rfl; have hcz9_1 : w8.cell? ⟨gb514, 1, none⟩ = some (.int .i64 0) := (blk_cell BK514.out 1).trans rfl; have hfz9_0 := blk_frozen BK514.out 0; have hfz9_1 := blk_frozen BK514.out 1; obtain ⟨Ao10, co10, eo10⟩ := Kd.R_slice HO513.out; subst eo10) | (go_at_call 44; (with_reducible refine (impl_PatternValid.calls k t509 t510 _ _ t511 t515 _ ?side1 ?side2 A4.out).mono ?_); (case side1 => refine (Kd.R_reads' (e := 4) (base := w.heap.size) (ok := fun k_ => True) (n := t511.length) (c := co10) ?_).2.2; exact (by (with_reducible repeat (first | apply Kd.R_alloc | apply Kd.R_drewN | apply Kd.R_drew)); exact (Kd.R_mono (Kd.R_far (p := ⟨gb514, 1, none⟩) (Kd.R_far (p := ⟨gb514, 0, none⟩) (Kd.R_types HO513.out BK514.out (by decide)) (fun _ hk => hk.2) (.int .i64 t509)) (fun _ hk => hk.2) (.int .i64 t510)) (fun _ h_ => h_.1)))); (case side2 => exact (Kd.R_reads' HO513.out).2.1); rintro e w11 ⟨rfl, hb⟩; have n0_ := Aside0.mk (Kd.R_below (by (with_reducible repeat (first | apply Kd.R_alloc | apply Kd.R_drewN | apply Kd.R_drew)); exact (Kd.R_mono (Kd.R_far (p := ⟨gb514, 1, none⟩) (Kd.R_far (p := ⟨gb514, 0, none⟩) (Kd.R_types HO513.out BK514.out (by decide)) (fun _ hk => hk.2) (.int .i64 t509)) (fun _ hk => hk.2) (.int .i64 t510)) (fun _ h_ => h_.1))) hb); have n1_ := Aside0.mk (blk_below (g := gb514) (o := .cells #[.int .i64 t509, .int .i64 t510] 37 (0, 0)) (by (with_reducible repeat (first | refine blk_drewN ?_ _ | refine blk_drew ?_ | refine blk_alloc ?_ _)); refine blk_put (cs := #[.int .i64 t509, .int .i64 0]) ?_ 1 _ rfl; (with_reducible repeat (first | refine blk_drewN ?_ _ | refine blk_drew ?_ | refine blk_alloc ?_ _)); refine blk_put (cs := #[.int .i64 0, .int .i64 0]) ?_ 0 _ rfl; (with_reducible repeat (first | refine blk_drewN ?_ _ | refine blk_drew ?_ | refine blk_alloc ?_ _)); exact BK514.out) hb); have n2_ := Aside0.mk (below_step (by repeat (first | (with_reducible first | exact HB.out | apply below_alloc | apply pw_below_drewN | apply below_drew1 | refine below_set ?_ GE514.out) | exact HB.out)) hb); clear HO513; clear BK514; clear HB; have HO513 := n0_; have BK514 := n1_; have HB := n2_; clear n0_ n1_ n2_; (try clear hb); (try clear hb2); (try clear hk); (try clear hi); have hcz12_0 : w11.cell? ⟨gb514, 0, none⟩ = some (.int .i64 t509) := (blk_cell BK514.out 0).trans rfl; have hcz12_1 : w11.cell? ⟨gb514, 1, none⟩ = some (.int .i64 t510) := (blk_cell BK514.out 1).trans rfl; have hfz12_0 := blk_frozen BK514.out 0; have hfz12_1 := blk_frozen BK514.out 1) | (go_at_call 42; (with_reducible refine (spec_PatternValid.calls k t509 t510 _ _ t511 t516 _ ?side1 ?side2 A5.out).mono ?_); (case side1 => repeat (first | exact (Kd.R_reads' HO513.out).2.2 | (with_reducible refine Kd.C_alloc ?_ _) | (with_reducible refine Kd.C_drewN ?_ _) | (with_reducible refine Kd.C_drew ?_))); (case side2 => exact (Kd.R_reads' HO513.out).2.1); rintro e w13 ⟨rfl, hb⟩; have n0_ := Aside0.mk (Kd.R_below (by (with_reducible repeat (first | apply Kd.R_alloc | apply Kd.R_drewN | apply Kd.R_drew)); exact HO513.out) hb); have n1_ := Aside0.mk (blk_below (g := gb514) (o := .cells #[.int .i64 t509, .int .i64 t510] 37 (0, 0)) (by (with_reducible repeat (first | refine blk_drewN ?_ _ | refine blk_drew ?_ | refine blk_alloc ?_ _)); exact BK514.out) hb); have n2_ := Aside0.mk (below_step (by repeat (first | (with_reducible first | exact HB.out | apply below_alloc | apply pw_below_drewN | apply below_drew1 | refine below_set ?_ GE514.out) | exact HB.out)) hb); clear HO513; clear BK514; clear HB; have HO513 := n0_; have BK514 := n1_; have HB := n2_; clear n0_ n1_ n2_; (try clear hb); (try clear hb2); (try clear hk); (try clear hi))); try go_wp2_with (first | (go_at_call 46; (with_reducible refine (spec_DrawPatternValid.calls k _ _ l0 t509 t510 t511 _ ?side1 ?side2 A3.out).mono ?_); (case side1 => repeat (first | exact HR0.out | (with_reducible refine Kd.C_alloc ?_ _) | (with_reducible refine Kd.C_drewN ?_ _) | (with_reducible refine Kd.C_drew ?_))); (case side2 => exact HC0.out); rintro e w7 ⟨v512, rfl, ho0, hb⟩; have n0_ := Aside0.mk (Kd.R_lower ho0 (below_size (by repeat (first | (with_reducible first | exact HB.out | apply below_alloc | apply pw_below_drewN | apply below_drew1) | exact HB.out)))); have n1_ := Aside0.mk (below_step (by repeat (first | (with_reducible first | exact HB.out | apply below_alloc | apply pw_below_drewN | apply below_drew1) | exact HB.out)) hb); clear HB; have HO513 := n0_; have HB := n1_; clear n0_ n1_; (try clear hb); (try clear hb2); (try clear hk); (try clear hi); (try clear ho0)) | ((with_reducible refine gate_dst (N := 3) rfl ?_); refine box_event ?hg (N := 3) ?hd (cs := #[.int .i64 0, .int .i64 0]) (t := 37) ?hr ?_; (case hd => rfl); (case hg => rfl); (case hr => first | (go_simp; done) | (go_simp; rfl)); intro gb514 hg w8 hbox hb; have n0_ := Aside0.mk (Kd.R_below (by (with_reducible repeat (first | apply Kd.R_alloc | apply Kd.R_drewN | apply Kd.R_drew)); exact HO513.out) hb); have n1_ := Aside0.mk (below_step (by repeat (first | (with_reducible first | exact HB.out | apply below_alloc | apply pw_below_drewN | apply below_drew1) | exact HB.out)) hb); have n2_ := Aside0.mk (hbox); have n3_ := Aside0.mk ((by rw [hg]; exact (below_size (by repeat (first | (with_reducible first | exact HB.out | apply below_alloc | apply pw_below_drewN | apply below_drew1) | exact HB.out))) : w.heap.size ≤ gb514)); have n4_ := Aside0.mk ((by rw [hg]; exact (below_size (by repeat (first | (with_reducible first | exact HB.out | apply below_alloc | apply pw_below_drewN | apply below_drew1) | exact HB.out))) : w.heap.size ≤ gb514)); clear HO513; clear HB; have HO513 := n0_; have HB := n1_; have BK514 := n2_; have GW514 := n3_; have GE514 := n4_; clear n0_ n1_ n2_ n3_ n4_; clear hb hbox hg; have hcz9_0 : w8.cell? ⟨gb514, 0, none⟩ = some (.int .i64 0) := (blk_cell BK514.out 0).trans rfl; have hcz9_1 : w8.cell? ⟨gb514, 1, none⟩ = some (.int .i64 0) := (blk_cell BK514.out 1).trans rfl; have hfz9_0 := blk_frozen BK514.out 0; have hfz9_1 := blk_frozen BK514.out 1; obtain ⟨Ao10, co10, eo10⟩ := Kd.R_slice HO513.out; subst eo10) | (go_at_call 44; (with_reducible refine (impl_PatternValid.calls k t509 t510 _ _ t511 t515 _ ?side1 ?side2 A4.out).mono ?_); (case side1 => refine (Kd.R_reads' (e := 4) (base := w.heap.size) (ok := fun k_ => True) (n := t511.length) (c := co10) ?_).2.2; exact (by (with_reducible repeat (first | apply Kd.R_alloc | apply Kd.R_drewN | apply Kd.R_drew)); exact (Kd.R_mono (Kd.R_far (p := ⟨gb514, 1, none⟩) (Kd.R_far (p := ⟨gb514, 0, none⟩) (Kd.R_types HO513.out BK514.out (by decide)) (fun _ hk => hk.2) (.int .i64 t509)) (fun _ hk => hk.2) (.int .i64 t510)) (fun _ h_ => h_.1)))); (case side2 => exact (Kd.R_reads' HO513.out).2.1); rintro e w11 ⟨rfl, hb⟩; have n0_ := Aside0.mk (Kd.R_below (by (with_reducible repeat (first | apply Kd.R_alloc | apply Kd.R_drewN | apply Kd.R_drew)); exact (Kd.R_mono (Kd.R_far (p := ⟨gb514, 1, none⟩) (Kd.R_far (p := ⟨gb514, 0, none⟩) (Kd.R_types HO513.out BK514.out (by decide)) (fun _ hk => hk.2) (.int .i64 t509)) (fun _ hk => hk.2) (.int .i64 t510)) (fun _ h_ => h_.1))) hb); have n1_ := Aside0.mk (blk_below (g := gb514) (o := .cells #[.int .i64 t509, .int .i64 t510] 37 (0, 0)) (by (with_reducible repeat (first | refine blk_drewN ?_ _ | refine blk_drew ?_ | refine blk_alloc ?_ _)); refine blk_put (cs := #[.int .i64 t509, .int .i64 0]) ?_ 1 _ rfl; (with_reducible repeat (first | refine blk_drewN ?_ _ | refine blk_drew ?_ | refine blk_alloc ?_ _)); refine blk_put (cs := #[.int .i64 0, .int .i64 0]) ?_ 0 _ rfl; (with_reducible repeat (first | refine blk_drewN ?_ _ | refine blk_drew ?_ | refine blk_alloc ?_ _)); exact BK514.out) hb); have n2_ := Aside0.mk (below_step (by repeat (first | (with_reducible first | exact HB.out | apply below_alloc | apply pw_below_drewN | apply below_drew1 | refine below_set ?_ GE514.out) | exact HB.out)) hb); clear HO513; clear BK514; clear HB; have HO513 := n0_; have BK514 := n1_; have HB := n2_; clear n0_ n1_ n2_; (try clear hb); (try clear hb2); (try clear hk); (try clear hi); have hcz12_0 : w11.cell? ⟨gb514, 0, none⟩ = some (.int .i64 t509) := (blk_cell BK514.out 0).trans rfl; have hcz12_1 : w11.cell? ⟨gb514, 1, none⟩ = some (.int .i64 t510) := (blk_cell BK514.out 1).trans rfl; have hfz12_0 := blk_frozen BK514.out 0; have hfz12_1 := blk_frozen BK514.out 1) | (go_at_call 42; (with_reducible refine (spec_PatternValid.calls k t509 t510 _ _ t511 t516 _ ?side1 ?side2 A5.out).mono ?_); (case side1 => repeat (first | exact (Kd.R_reads' HO513.out).2.2 | (with_reducible refine Kd.C_alloc ?_ _) | (with_reducible refine Kd.C_drewN ?_ _) | (with_reducible refine Kd.C_drew ?_))); (case side2 => exact (Kd.R_reads' HO513.out).2.1); rintro e w13 ⟨rfl, hb⟩; have n0_ := Aside0.mk (Kd.R_below (by (with_reducible repeat (first | apply Kd.R_alloc | apply Kd.R_drewN | apply Kd.R_drew)); exact HO513.out) hb); have n1_ := Aside0.mk (blk_below (g := gb514) (o := .cells #[.int .i64 t509, .int .i64 t510] 37 (0, 0)) (by (with_reducible repeat (first | refine blk_drewN ?_ _ | refine blk_drew ?_ | refine blk_alloc ?_ _)); exact BK514.out) hb); have n2_ := Aside0.mk (below_step (by repeat (first | (with_reducible first | exact HB.out | apply below_alloc | apply pw_below_drewN | apply below_drew1 | refine below_set ?_ GE514.out) | exact HB.out)) hb); clear HO513; clear BK514; clear HB; have HO513 := n0_; have BK514 := n1_; have HB := n2_; clear n0_ n1_ n2_; (try clear hb); (try clear hb2); (try clear hk); (try clear hi))))
      go_ret
      exact ⟨by first | rfl | (simp [errW_none, errW_some] <;> rfl) | (simp [*, errW_none, errW_some] <;> rfl), by repeat (first | (with_reducible first | exact HB.out | apply below_alloc | apply pw_below_drewN | apply below_drew1 | refine below_set ?_ GE514.out) | exact HB.out)⟩
    · rw [if_neg c6] at H
      have c6b0 : (t515 != t516) = false := by simpa using c6
      (try (have c6b1 : decide (t515 = t516) = true := by simpa using c6))
      (try (have c6b2 : (t515 == t516) = true := by simpa using c6))
      clear c6
      by_cases c14 : t515 = true
      · subst c14
        have H1 : (if t510 = 0 then (none) else (laws_FnSupplyWorst.l0 k t511 (wrap64 ((wrap64 (Int.tdiv 120 t510)) * t510)) 0 t509 t510)) = some r := by rw [if_pos rfl] at H; exact H
        clear H
        have H := H1
        clear H1
        by_cases c15 : t510 = 0
        · rw [if_pos c15] at H
          exact absurd H (by simp)
        · rw [if_neg c15] at H
          have c15b0 : (t510 == 0) = false := beq_eq_false_iff_ne.mpr c15
          have c15b1 : (t510 != 0) = true := bne_iff_ne.mpr c15
          have H' := Aside0.mk H
          clear H
          go_enter Try.func16, Try.ntmps16
          go_wp2_with (first | (go_at_call 46; (with_reducible refine (spec_DrawPatternValid.calls k _ _ l0 t509 t510 t511 _ ?side1 ?side2 A3.out).mono ?_); (case side1 => repeat (first | exact HR0.out | (with_reducible refine Kd.C_alloc ?_ _) | (with_reducible refine Kd.C_drewN ?_ _) | (with_reducible refine Kd.C_drew ?_))); (case side2 => exact HC0.out); rintro e w16 ⟨v512, rfl, ho0, hb⟩; have n0_ := Aside0.mk (Kd.R_lower ho0 (below_size (by repeat (first | (with_reducible first | exact HB.out | apply below_alloc | apply pw_below_drewN | apply below_drew1) | exact HB.out)))); have n1_ := Aside0.mk (below_step (by repeat (first | (with_reducible first | exact HB.out | apply below_alloc | apply pw_below_drewN | apply below_drew1) | exact HB.out)) hb); clear HB; have HO513 := n0_; have HB := n1_; clear n0_ n1_; (try clear hb); (try clear hb2); (try clear hk); (try clear hi); (try clear ho0)) | ((with_reducible refine gate_dst (N := 3) rfl ?_); refine box_event ?hg (N := 3) ?hd (cs := #[.int .i64 0, .int .i64 0]) (t := 37) ?hr ?_; (case hd => rfl); (case hg => rfl); (case hr => first | (go_simp; done) | (go_simp; rfl)); intro gb514 hg w17 hbox hb; have n0_ := Aside0.mk (Kd.R_below (by (with_reducible repeat (first | apply Kd.R_alloc | apply Kd.R_drewN | apply Kd.R_drew)); exact HO513.out) hb); have n1_ := Aside0.mk (below_step (by repeat (first | (with_reducible first | exact HB.out | apply below_alloc | apply pw_below_drewN | apply below_drew1) | exact HB.out)) hb); have n2_ := Aside0.mk (hbox); have n3_ := Aside0.mk ((by rw [hg]; exact (below_size (by repeat (first | (with_reducible first | exact HB.out | apply below_alloc | apply pw_below_drewN | apply below_drew1) | exact HB.out))) : w.heap.size ≤ gb514)); have n4_ := Aside0.mk ((by rw [hg]; exact (below_size (by repeat (first | (with_reducible first | exact HB.out | apply below_alloc | apply pw_below_drewN | apply below_drew1) | exact HB.out))) : w.heap.size ≤ gb514)); clear HO513; clear HB; have HO513 := n0_; have HB := n1_; have BK514 := n2_; have GW514 := n3_; have GE514 := n4_; clear n0_ n1_ n2_ n3_ n4_; clear hb hbox hg; have hcz18_0 : w17.cell? ⟨gb514, 0, none⟩ = some (.int .i64 0) := (blk_cell BK514.out 0).trans rfl; have hcz18_1 : w17.cell? ⟨gb514, 1, none⟩ = some (.int .i64 0) := (blk_cell BK514.out 1).trans rfl; have hfz18_0 := blk_frozen BK514.out 0; have hfz18_1 := blk_frozen BK514.out 1; obtain ⟨Ao19, co19, eo19⟩ := Kd.R_slice HO513.out; subst eo19) | (go_at_call 44; (with_reducible refine (impl_PatternValid.calls k t509 t510 _ _ t511 true _ ?side1 ?side2 A4.out).mono ?_); (case side1 => refine (Kd.R_reads' (e := 4) (base := w.heap.size) (ok := fun k_ => True) (n := t511.length) (c := co19) ?_).2.2; exact (by (with_reducible repeat (first | apply Kd.R_alloc | apply Kd.R_drewN | apply Kd.R_drew)); exact (Kd.R_mono (Kd.R_far (p := ⟨gb514, 1, none⟩) (Kd.R_far (p := ⟨gb514, 0, none⟩) (Kd.R_types HO513.out BK514.out (by decide)) (fun _ hk => hk.2) (.int .i64 t509)) (fun _ hk => hk.2) (.int .i64 t510)) (fun _ h_ => h_.1)))); (case side2 => exact (Kd.R_reads' HO513.out).2.1); rintro e w20 ⟨rfl, hb⟩; have n0_ := Aside0.mk (Kd.R_below (by (with_reducible repeat (first | apply Kd.R_alloc | apply Kd.R_drewN | apply Kd.R_drew)); exact (Kd.R_mono (Kd.R_far (p := ⟨gb514, 1, none⟩) (Kd.R_far (p := ⟨gb514, 0, none⟩) (Kd.R_types HO513.out BK514.out (by decide)) (fun _ hk => hk.2) (.int .i64 t509)) (fun _ hk => hk.2) (.int .i64 t510)) (fun _ h_ => h_.1))) hb); have n1_ := Aside0.mk (blk_below (g := gb514) (o := .cells #[.int .i64 t509, .int .i64 t510] 37 (0, 0)) (by (with_reducible repeat (first | refine blk_drewN ?_ _ | refine blk_drew ?_ | refine blk_alloc ?_ _)); refine blk_put (cs := #[.int .i64 t509, .int .i64 0]) ?_ 1 _ rfl; (with_reducible repeat (first | refine blk_drewN ?_ _ | refine blk_drew ?_ | refine blk_alloc ?_ _)); refine blk_put (cs := #[.int .i64 0, .int .i64 0]) ?_ 0 _ rfl; (with_reducible repeat (first | refine blk_drewN ?_ _ | refine blk_drew ?_ | refine blk_alloc ?_ _)); exact BK514.out) hb); have n2_ := Aside0.mk (below_step (by repeat (first | (with_reducible first | exact HB.out | apply below_alloc | apply pw_below_drewN | apply below_drew1 | refine below_set ?_ GE514.out) | exact HB.out)) hb); clear HO513; clear BK514; clear HB; have HO513 := n0_; have BK514 := n1_; have HB := n2_; clear n0_ n1_ n2_; (try clear hb); (try clear hb2); (try clear hk); (try clear hi); have hcz21_0 : w20.cell? ⟨gb514, 0, none⟩ = some (.int .i64 t509) := (blk_cell BK514.out 0).trans rfl; have hcz21_1 : w20.cell? ⟨gb514, 1, none⟩ = some (.int .i64 t510) := (blk_cell BK514.out 1).trans rfl; have hfz21_0 := blk_frozen BK514.out 0; have hfz21_1 := blk_frozen BK514.out 1) | (go_at_call 42; (with_reducible refine (spec_PatternValid.calls k t509 t510 _ _ t511 t516 _ ?side1 ?side2 A5.out).mono ?_); (case side1 => repeat (first | exact (Kd.R_reads' HO513.out).2.2 | (with_reducible refine Kd.C_alloc ?_ _) | (with_reducible refine Kd.C_drewN ?_ _) | (with_reducible refine Kd.C_drew ?_))); (case side2 => exact (Kd.R_reads' HO513.out).2.1); rintro e w22 ⟨rfl, hb⟩; have n0_ := Aside0.mk (Kd.R_below (by (with_reducible repeat (first | apply Kd.R_alloc | apply Kd.R_drewN | apply Kd.R_drew)); exact HO513.out) hb); have n1_ := Aside0.mk (blk_below (g := gb514) (o := .cells #[.int .i64 t509, .int .i64 t510] 37 (0, 0)) (by (with_reducible repeat (first | refine blk_drewN ?_ _ | refine blk_drew ?_ | refine blk_alloc ?_ _)); exact BK514.out) hb); have n2_ := Aside0.mk (below_step (by repeat (first | (with_reducible first | exact HB.out | apply below_alloc | apply pw_below_drewN | apply below_drew1 | refine below_set ?_ GE514.out) | exact HB.out)) hb); clear HO513; clear BK514; clear HB; have HO513 := n0_; have BK514 := n1_; have HB := n2_; clear n0_ n1_ n2_; (try clear hb); (try clear hb2); (try clear hk); (try clear hi); have hcz23_0 : w22.cell? ⟨gb514, 0, none⟩ = some (.int .i64 t509) := (blk_cell BK514.out 0).trans rfl; have hcz23_1 : w22.cell? ⟨gb514, 1, none⟩ = some (.int .i64 t510) := (blk_cell BK514.out 1).trans rfl; have hfz23_0 := blk_frozen BK514.out 0; have hfz23_1 := blk_frozen BK514.out 1))
          repeat (go_quiet (first | (go_at_call 46; (with_reducible refine (spec_DrawPatternValid.calls k _ _ l0 t509 t510 t511 _ ?side1 ?side2 A3.out).mono ?_); (case side1 => repeat (first | exact HR0.out | (with_reducible refine Kd.C_alloc ?_ _) | (with_reducible refine Kd.C_drewN ?_ _) | (with_reducible refine Kd.C_drew ?_))); (case side2 => exact HC0.out); rintro e w16 ⟨v512, rfl, ho0, hb⟩; have n0_ := Aside0.mk (Kd.R_lower ho0 (below_size (by repeat (first | (with_reducible first | exact HB.out | apply below_alloc | apply pw_below_drewN | apply below_drew1) | exact HB.out)))); have n1_ := Aside0.mk (below_step (by repeat (first | (with_reducible first | exact HB.out | apply below_alloc | apply pw_below_drewN | apply below_drew1) | exact HB.out)) hb); clear HB; have HO513 := n0_; have HB := n1_; clear n0_ n1_; (try clear hb); (try clear hb2); (try clear hk); (try clear hi); (try clear ho0)) | ((with_reducible refine gate_dst (N := 3) rfl ?_); refine box_event ?hg (N := 3) ?hd (cs := #[.int .i64 0, .int .i64 0]) (t := 37) ?hr ?_; (case hd => rfl); (case hg => rfl); (case hr => first | (go_simp; done) | (go_simp; rfl)); intro gb514 hg w17 hbox hb; have n0_ := Aside0.mk (Kd.R_below (by (with_reducible repeat (first | apply Kd.R_alloc | apply Kd.R_drewN | apply Kd.R_drew)); exact HO513.out) hb); have n1_ := Aside0.mk (below_step (by repeat (first | (with_reducible first | exact HB.out | apply below_alloc | apply pw_below_drewN | apply below_drew1) | exact HB.out)) hb); have n2_ := Aside0.mk (hbox); have n3_ := Aside0.mk ((by rw [hg]; exact (below_size (by repeat (first | (with_reducible first | exact HB.out | apply below_alloc | apply pw_below_drewN | apply below_drew1) | exact HB.out))) : w.heap.size ≤ gb514)); have n4_ := Aside0.mk ((by rw [hg]; exact (below_size (by repeat (first | (with_reducible first | exact HB.out | apply below_alloc | apply pw_below_drewN | apply below_drew1) | exact HB.out))) : w.heap.size ≤ gb514)); clear HO513; clear HB; have HO513 := n0_; have HB := n1_; have BK514 := n2_; have GW514 := n3_; have GE514 := n4_; clear n0_ n1_ n2_ n3_ n4_; clear hb hbox hg; have hcz18_0 : w17.cell? ⟨gb514, 0, none⟩ = some (.int .i64 0) := (blk_cell BK514.out 0).trans rfl; have hcz18_1 : w17.cell? ⟨gb514, 1, none⟩ = some (.int .i64 0) := (blk_cell BK514.out 1).trans rfl; have hfz18_0 := blk_frozen BK514.out 0; have hfz18_1 := blk_frozen BK514.out 1; obtain ⟨Ao19, co19, eo19⟩ := Kd.R_slice HO513.out; subst eo19) | (go_at_call 44; (with_reducible refine (impl_PatternValid.calls k t509 t510 _ _ t511 true _ ?side1 ?side2 A4.out).mono ?_); (case side1 => refine (Kd.R_reads' (e := 4) (base := w.heap.size) (ok := fun k_ => True) (n := t511.length) (c := co19) ?_).2.2; exact (by (with_reducible repeat (first | apply Kd.R_alloc | apply Kd.R_drewN | apply Kd.R_drew)); exact (Kd.R_mono (Kd.R_far (p := ⟨gb514, 1, none⟩) (Kd.R_far (p := ⟨gb514, 0, none⟩) (Kd.R_types HO513.out BK514.out (by decide)) (fun _ hk => hk.2) (.int .i64 t509)) (fun _ hk => hk.2) (.int .i64 t510)) (fun _ h_ => h_.1)))); (case side2 => exact (Kd.R_reads' HO513.out).2.1); rintro e w20 ⟨rfl, hb⟩; have n0_ := Aside0.mk (Kd.R_below (by (with_reducible repeat (first | apply Kd.R_alloc | apply Kd.R_drewN | apply Kd.R_drew)); exact (Kd.R_mono (Kd.R_far (p := ⟨gb514, 1, none⟩) (Kd.R_far (p := ⟨gb514, 0, none⟩) (Kd.R_types HO513.out BK514.out (by decide)) (fun _ hk => hk.2) (.int .i64 t509)) (fun _ hk => hk.2) (.int .i64 t510)) (fun _ h_ => h_.1))) hb); have n1_ := Aside0.mk (blk_below (g := gb514) (o := .cells #[.int .i64 t509, .int .i64 t510] 37 (0, 0)) (by (with_reducible repeat (first | refine blk_drewN ?_ _ | refine blk_drew ?_ | refine blk_alloc ?_ _)); refine blk_put (cs := #[.int .i64 t509, .int .i64 0]) ?_ 1 _ rfl; (with_reducible repeat (first | refine blk_drewN ?_ _ | refine blk_drew ?_ | refine blk_alloc ?_ _)); refine blk_put (cs := #[.int .i64 0, .int .i64 0]) ?_ 0 _ rfl; (with_reducible repeat (first | refine blk_drewN ?_ _ | refine blk_drew ?_ | refine blk_alloc ?_ _)); exact BK514.out) hb); have n2_ := Aside0.mk (below_step (by repeat (first | (with_reducible first | exact HB.out | apply below_alloc | apply pw_below_drewN | apply below_drew1 | refine below_set ?_ GE514.out) | exact HB.out)) hb); clear HO513; clear BK514; clear HB; have HO513 := n0_; have BK514 := n1_; have HB := n2_; clear n0_ n1_ n2_; (try clear hb); (try clear hb2); (try clear hk); (try clear hi); have hcz21_0 : w20.cell? ⟨gb514, 0, none⟩ = some (.int .i64 t509) := (blk_cell BK514.out 0).trans rfl; have hcz21_1 : w20.cell? ⟨gb514, 1, none⟩ = some (.int .i64 t510) := (blk_cell BK514.out 1).trans rfl; have hfz21_0 := blk_frozen BK514.out 0; have hfz21_1 := blk_frozen BK514.out 1) | (go_at_call 42; (with_reducible refine (spec_PatternValid.calls k t509 t510 _ _ t511 t516 _ ?side1 ?side2 A5.out).mono ?_); (case side1 => repeat (first | exact (Kd.R_reads' HO513.out).2.2 | (with_reducible refine Kd.C_alloc ?_ _) | (with_reducible refine Kd.C_drewN ?_ _) | (with_reducible refine Kd.C_drew ?_))); (case side2 => exact (Kd.R_reads' HO513.out).2.1); rintro e w22 ⟨rfl, hb⟩; have n0_ := Aside0.mk (Kd.R_below (by (with_reducible repeat (first | apply Kd.R_alloc | apply Kd.R_drewN | apply Kd.R_drew)); exact HO513.out) hb); have n1_ := Aside0.mk (blk_below (g := gb514) (o := .cells #[.int .i64 t509, .int .i64 t510] 37 (0, 0)) (by (with_reducible repeat (first | refine blk_drewN ?_ _ | refine blk_drew ?_ | refine blk_alloc ?_ _)); exact BK514.out) hb); have n2_ := Aside0.mk (below_step (by repeat (first | (with_reducible first | exact HB.out | apply below_alloc | apply pw_below_drewN | apply below_drew1 | refine below_set ?_ GE514.out) | exact HB.out)) hb); clear HO513; clear BK514; clear HB; have HO513 := n0_; have BK514 := n1_; have HB := n2_; clear n0_ n1_ n2_; (try clear hb); (try clear hb2); (try clear hk); (try clear hi); have hcz23_0 : w22.cell? ⟨gb514, 0, none⟩ = some (.int .i64 t509) := (blk_cell BK514.out 0).trans rfl; have hcz23_1 : w22.cell? ⟨gb514, 1, none⟩ = some (.int .i64 t510) := (blk_cell BK514.out 1).trans rfl; have hfz23_0 := blk_frozen BK514.out 0; have hfz23_1 := blk_frozen BK514.out 1)); try go_wp2_with (first | (go_at_call 46; (with_reducible refine (spec_DrawPatternValid.calls k _ _ l0 t509 t510 t511 _ ?side1 ?side2 A3.out).mono ?_); (case side1 => repeat (first | exact HR0.out | (with_reducible refine Kd.C_alloc ?_ _) | (with_reducible refine Kd.C_drewN ?_ _) | (with_reducible refine Kd.C_drew ?_))); (case side2 => exact HC0.out); rintro e w16 ⟨v512, rfl, ho0, hb⟩; have n0_ := Aside0.mk (Kd.R_lower ho0 (below_size (by repeat (first | (with_reducible first | exact HB.out | apply below_alloc | apply pw_below_drewN | apply below_drew1) | exact HB.out)))); have n1_ := Aside0.mk (below_step (by repeat (first | (with_reducible first | exact HB.out | apply below_alloc | apply pw_below_drewN | apply below_drew1) | exact HB.out)) hb); clear HB; have HO513 := n0_; have HB := n1_; clear n0_ n1_; (try clear hb); (try clear hb2); (try clear hk); (try clear hi); (try clear ho0)) | ((with_reducible refine gate_dst (N := 3) rfl ?_); refine box_event ?hg (N := 3) ?hd (cs := #[.int .i64 0, .int .i64 0]) (t := 37) ?hr ?_; (case hd => rfl); (case hg => rfl); (case hr => first | (go_simp; done) | (go_simp; rfl)); intro gb514 hg w17 hbox hb; have n0_ := Aside0.mk (Kd.R_below (by (with_reducible repeat (first | apply Kd.R_alloc | apply Kd.R_drewN | apply Kd.R_drew)); exact HO513.out) hb); have n1_ := Aside0.mk (below_step (by repeat (first | (with_reducible first | exact HB.out | apply below_alloc | apply pw_below_drewN | apply below_drew1) | exact HB.out)) hb); have n2_ := Aside0.mk (hbox); have n3_ := Aside0.mk ((by rw [hg]; exact (below_size (by repeat (first | (with_reducible first | exact HB.out | apply below_alloc | apply pw_below_drewN | apply below_drew1) | exact HB.out))) : w.heap.size ≤ gb514)); have n4_ := Aside0.mk ((by rw [hg]; exact (below_size (by repeat (first | (with_reducible first | exact HB.out | apply below_alloc | apply pw_below_drewN | apply below_drew1) | exact HB.out))) : w.heap.size ≤ gb514)); clear HO513; clear HB; have HO513 := n0_; have HB := n1_; have BK514 := n2_; have GW514 := n3_; have GE514 := n4_; clear n0_ n1_ n2_ n3_ n4_; clear hb hbox hg; have hcz18_0 : w17.cell? ⟨gb514, 0, none⟩ = some (.int .i64 0) := (blk_cell BK514.out 0).trans rfl; have hcz18_1 : w17.cell? ⟨gb514, 1, none⟩ = some (.int .i64 0) := (blk_cell BK514.out 1).trans rfl; have hfz18_0 := blk_frozen BK514.out 0; have hfz18_1 := blk_frozen BK514.out 1; obtain ⟨Ao19, co19, eo19⟩ := Kd.R_slice HO513.out; subst eo19) | (go_at_call 44; (with_reducible refine (impl_PatternValid.calls k t509 t510 _ _ t511 true _ ?side1 ?side2 A4.out).mono ?_); (case side1 => refine (Kd.R_reads' (e := 4) (base := w.heap.size) (ok := fun k_ => True) (n := t511.length) (c := co19) ?_).2.2; exact (by (with_reducible repeat (first | apply Kd.R_alloc | apply Kd.R_drewN | apply Kd.R_drew)); exact (Kd.R_mono (Kd.R_far (p := ⟨gb514, 1, none⟩) (Kd.R_far (p := ⟨gb514, 0, none⟩) (Kd.R_types HO513.out BK514.out (by decide)) (fun _ hk => hk.2) (.int .i64 t509)) (fun _ hk => hk.2) (.int .i64 t510)) (fun _ h_ => h_.1)))); (case side2 => exact (Kd.R_reads' HO513.out).2.1); rintro e w20 ⟨rfl, hb⟩; have n0_ := Aside0.mk (Kd.R_below (by (with_reducible repeat (first | apply Kd.R_alloc | apply Kd.R_drewN | apply Kd.R_drew)); exact (Kd.R_mono (Kd.R_far (p := ⟨gb514, 1, none⟩) (Kd.R_far (p := ⟨gb514, 0, none⟩) (Kd.R_types HO513.out BK514.out (by decide)) (fun _ hk => hk.2) (.int .i64 t509)) (fun _ hk => hk.2) (.int .i64 t510)) (fun _ h_ => h_.1))) hb); have n1_ := Aside0.mk (blk_below (g := gb514) (o := .cells #[.int .i64 t509, .int .i64 t510] 37 (0, 0)) (by (with_reducible repeat (first | refine blk_drewN ?_ _ | refine blk_drew ?_ | refine blk_alloc ?_ _)); refine blk_put (cs := #[.int .i64 t509, .int .i64 0]) ?_ 1 _ rfl; (with_reducible repeat (first | refine blk_drewN ?_ _ | refine blk_drew ?_ | refine blk_alloc ?_ _)); refine blk_put (cs := #[.int .i64 0, .int .i64 0]) ?_ 0 _ rfl; (with_reducible repeat (first | refine blk_drewN ?_ _ | refine blk_drew ?_ | refine blk_alloc ?_ _)); exact BK514.out) hb); have n2_ := Aside0.mk (below_step (by repeat (first | (with_reducible first | exact HB.out | apply below_alloc | apply pw_below_drewN | apply below_drew1 | refine below_set ?_ GE514.out) | exact HB.out)) hb); clear HO513; clear BK514; clear HB; have HO513 := n0_; have BK514 := n1_; have HB := n2_; clear n0_ n1_ n2_; (try clear hb); (try clear hb2); (try clear hk); (try clear hi); have hcz21_0 : w20.cell? ⟨gb514, 0, none⟩ = some (.int .i64 t509) := (blk_cell BK514.out 0).trans rfl; have hcz21_1 : w20.cell? ⟨gb514, 1, none⟩ = some (.int .i64 t510) := (blk_cell BK514.out 1).trans rfl; have hfz21_0 := blk_frozen BK514.out 0; have hfz21_1 := blk_frozen BK514.out 1) | (go_at_call 42; (with_reducible refine (spec_PatternValid.calls k t509 t510 _ _ t511 t516 _ ?side1 ?side2 A5.out).mono ?_); (case side1 => repeat (first | exact (Kd.R_reads' HO513.out).2.2 | (with_reducible refine Kd.C_alloc ?_ _) | (with_reducible refine Kd.C_drewN ?_ _) | (with_reducible refine Kd.C_drew ?_))); (case side2 => exact (Kd.R_reads' HO513.out).2.1); rintro e w22 ⟨rfl, hb⟩; have n0_ := Aside0.mk (Kd.R_below (by (with_reducible repeat (first | apply Kd.R_alloc | apply Kd.R_drewN | apply Kd.R_drew)); exact HO513.out) hb); have n1_ := Aside0.mk (blk_below (g := gb514) (o := .cells #[.int .i64 t509, .int .i64 t510] 37 (0, 0)) (by (with_reducible repeat (first | refine blk_drewN ?_ _ | refine blk_drew ?_ | refine blk_alloc ?_ _)); exact BK514.out) hb); have n2_ := Aside0.mk (below_step (by repeat (first | (with_reducible first | exact HB.out | apply below_alloc | apply pw_below_drewN | apply below_drew1 | refine below_set ?_ GE514.out) | exact HB.out)) hb); clear HO513; clear BK514; clear HB; have HO513 := n0_; have BK514 := n1_; have HB := n2_; clear n0_ n1_ n2_; (try clear hb); (try clear hb2); (try clear hk); (try clear hi); have hcz23_0 : w22.cell? ⟨gb514, 0, none⟩ = some (.int .i64 t509) := (blk_cell BK514.out 0).trans rfl; have hcz23_1 : w22.cell? ⟨gb514, 1, none⟩ = some (.int .i64 t510) := (blk_cell BK514.out 1).trans rfl; have hfz23_0 := blk_frozen BK514.out 0; have hfz23_1 := blk_frozen BK514.out 1)))
          go_loopg [7] k (fun kq v7 w' => ∃ (x7_1 : Int), v7 = .int .i64 x7_1 ∧ Aside0 (laws_FnSupplyWorst.l0 kq t511 (wrap64 ((wrap64 (Int.tdiv 120 t510)) * t510)) x7_1 t509 t510 = some r) ∧ Aside0 (kq ≤ k) ∧ Aside0 (Kd.R Kd.bool 4 w' w.heap.size (fun _ => True) (.slice Ao19 t511.length co19) t511) ∧ Aside0 (w'.heap[gb514]? = some (.cells #[.int .i64 t509, .int .i64 t510] 37 (0, 0))) ∧ Aside0 (Below w.heap.size w w'))
          case atStart => exact ⟨(0), (by first | rfl | (simp; done) | (simp [*]; done)), H', ⟨Nat.le_refl _⟩, ⟨by (with_reducible repeat (first | apply Kd.R_alloc | apply Kd.R_drewN | apply Kd.R_drew)); exact HO513.out⟩, ⟨by (with_reducible repeat (first | refine blk_drewN ?_ _ | refine blk_drew ?_ | refine blk_alloc ?_ _)); exact BK514.out⟩, ⟨by repeat (first | (with_reducible first | exact HB.out | apply below_alloc | apply pw_below_drewN | apply below_drew1 | refine below_set ?_ GE514.out) | exact HB.out)⟩⟩
          case round =>
            clear H'
            try clear c1
            try clear c2
            try clear c2b0
            try clear c2b1
            try clear p2
            try clear c6
            try clear c6b0
            try clear c6b1
            try clear c6b2
            try clear p6
            try clear c14
            try clear c15
            try clear c15b0
            try clear c15b1
            try clear c16
            try clear hcz12_0
            try clear hcz12_1
            try clear hcz18_0
            try clear hcz18_1
            try clear hcz21_0
            try clear hcz21_1
            try clear hcz23_0
            try clear hcz23_1
            try clear hcz9_0
            try clear hcz9_1
            try clear hfz12_0
            try clear hfz12_1
            try clear hfz18_0
            try clear hfz18_1
            try clear hfz21_0
            try clear hfz21_1
            try clear hfz23_0
            try clear hfz23_1
            try clear hfz9_0
            try clear hfz9_1
            obtain ⟨x7_1, rfl, HA, HK1, HO_4, BK514, HB⟩ := hrel
            cases gk with
            | zero => exact absurd HA.out (by simp [laws_FnSupplyWorst.l0])
            | succ k1 =>
              have H := HA.out
              clear HA
              simp only [laws_FnSupplyWorst.l0] at H
              by_cases c24 : x7_1 < (wrap64 ((wrap64 (Int.tdiv 120 t510)) * t510))
              · rw [if_pos c24] at H
                have c24b0 : decide (x7_1 < (wrap64 ((wrap64 (Int.tdiv 120 t510)) * t510))) = true := decide_eq_true c24
                clear c24
                have H' := Aside0.mk H
                clear H
                go_wp2
                repeat (go_quiet (fail); try go_wp2)
                go_loopg [8, 9] k1 (fun kq v8 v9 w' => ∃ (x8_2 : Int) (x9_2 : Int), v8 = .int .i64 x8_2 ∧ v9 = .int .i64 x9_2 ∧ Aside0 (laws_FnSupplyWorst.l1 kq t511 (wrap64 ((wrap64 (Int.tdiv 120 t510)) * t510)) x7_1 x8_2 x9_2 t509 t510 = some r) ∧ Aside0 (kq ≤ k1) ∧ Aside0 (Kd.R Kd.bool 4 w' w.heap.size (fun _ => True) (.slice Ao19 t511.length co19) t511) ∧ Aside0 (w'.heap[gb514]? = some (.cells #[.int .i64 t509, .int .i64 t510] 37 (0, 0))) ∧ Aside0 (Below w.heap.size w w'))
                case atStart => exact ⟨(0), (x7_1), (by first | rfl | (simp; done) | (simp [*]; done)), (by first | rfl | (simp; done) | (simp [*]; done)), H', ⟨Nat.le_refl _⟩, ⟨by (with_reducible repeat (first | apply Kd.R_alloc | apply Kd.R_drewN | apply Kd.R_drew)); exact HO_4.out⟩, ⟨by (with_reducible repeat (first | refine blk_drewN ?_ _ | refine blk_drew ?_ | refine blk_alloc ?_ _)); exact BK514.out⟩, ⟨by repeat (first | (with_reducible first | exact HB.out | apply below_alloc | apply pw_below_drewN | apply below_drew1 | refine below_set ?_ GE514.out) | exact HB.out)⟩⟩
                case round =>
                  clear H'
                  try clear c1
                  try clear c2
                  try clear c2b0
                  try clear c2b1
                  try clear p2
                  try clear c6
                  try clear c6b0
                  try clear c6b1
                  try clear c6b2
                  try clear p6
                  try clear c14
                  try clear c15
                  try clear c15b0
                  try clear c15b1
                  try clear c16
                  try clear c24
                  try clear c24b0
                  try clear hcz12_0
                  try clear hcz12_1
                  try clear hcz18_0
                  try clear hcz18_1
                  try clear hcz21_0
                  try clear hcz21_1
                  try clear hcz23_0
                  try clear hcz23_1
                  try clear hcz9_0
                  try clear hcz9_1
                  try clear hfz12_0
                  try clear hfz12_1
                  try clear hfz18_0
                  try clear hfz18_1
                  try clear hfz21_0
                  try clear hfz21_1
                  try clear hfz23_0
                  try clear hfz23_1
                  try clear hfz9_0
                  try clear hfz9_1
                  try clear p2
                  try clear p6
                  obtain ⟨x8_2, x9_2, rfl, rfl, HA, HK2, HO_4, BK514, HB⟩ := hrel
                  cases gk with
                  | zero => exact absurd HA.out (by simp [laws_FnSupplyWorst.l1])
                  | succ k2 =>
                    have H := HA.out
                    clear HA
                    simp only [laws_FnSupplyWorst.l1] at H
                    by_cases c25 : x9_2 < (wrap64 ((wrap64 (Int.tdiv 120 t510)) * t510))
                    · rw [if_pos c25] at H
                      have c25b0 : decide (x9_2 < (wrap64 ((wrap64 (Int.tdiv 120 t510)) * t510))) = true := decide_eq_true c25
                      clear c25
                      by_cases c26 : 0 ≤ x9_2
                      · rw [if_pos c26] at H
                        have c26b0 : decide (0 ≤ x9_2) = true := decide_eq_true c26
                        clear c26
                        by_cases c27 : x9_2 < (t511.length : Int)
                        · rw [if_pos c27] at H
                          have c27b0 : decide (x9_2 < (t511.length : Int)) = true := decide_eq_true c27
                          clear c27
                          obtain ⟨bq28, hbq28⟩ : ∃ b_ : Bool, b_ = (rdOf false t511 x9_2) := ⟨_, rfl⟩
                          replace H : (if bq28 = true then ((impl_SupplyBound.f t509 t510 (wrap64 ((wrap64 (x9_2 - x7_1)) + 1))).bind fun t519 => (if (wrap64 (x8_2 + 1)) < t519 then (some false) else (laws_FnSupplyWorst.l1 k2 t511 (wrap64 ((wrap64 (Int.tdiv 120 t510)) * t510)) x7_1 (wrap64 (x8_2 + 1)) (wrap64 (x9_2 + 1)) t509 t510))) else ((impl_SupplyBound.f t509 t510 (wrap64 ((wrap64 (x9_2 - x7_1)) + 1))).bind fun t520 => (if x8_2 < t520 then (some false) else (laws_FnSupplyWorst.l1 k2 t511 (wrap64 ((wrap64 (Int.tdiv 120 t510)) * t510)) x7_1 x8_2 (wrap64 (x9_2 + 1)) t509 t510)))) = some r := by rw [← hbq28] at H; exact H
                          have Nbq28 := Aside0.mk hbq28
                          clear hbq28
                          by_cases c29 : bq28 = true
                          · subst c29
                            have H1 : ((impl_SupplyBound.f t509 t510 (wrap64 ((wrap64 (x9_2 - x7_1)) + 1))).bind fun t519 => (if (wrap64 (x8_2 + 1)) < t519 then (some false) else (laws_FnSupplyWorst.l1 k2 t511 (wrap64 ((wrap64 (Int.tdiv 120 t510)) * t510)) x7_1 (wrap64 (x8_2 + 1)) (wrap64 (x9_2 + 1)) t509 t510))) = some r := by rw [if_pos rfl] at H; exact H
                            clear H
                            have H := H1
                            clear H1
                            replace H := Option.bind_eq_some_iff.mp H
                            obtain ⟨t519, A300, H⟩ := H
                            replace H : (if (wrap64 (x8_2 + 1)) < t519 then (some false) else (laws_FnSupplyWorst.l1 k2 t511 (wrap64 ((wrap64 (Int.tdiv 120 t510)) * t510)) x7_1 (wrap64 (x8_2 + 1)) (wrap64 (x9_2 + 1)) t509 t510)) = some r := H
                            have A30 := Aside0.mk A300
                            clear A300
                            by_cases c31 : (wrap64 (x8_2 + 1)) < t519
                            · rw [if_pos c31] at H
                              have c31b0 : decide ((wrap64 (x8_2 + 1)) < t519) = true := decide_eq_true c31
                              clear c31
                              obtain rfl := Option.some.inj H
                              have p518 : 0 ≤ (x9_2 : Int) := of_decide_eq_true (by first | (with_reducible assumption) | assumption)
                              have q518 : x9_2 < (t511.length : Int) := of_decide_eq_true (by first | (with_reducible assumption) | assumption)
                              obtain ⟨ad518, e518, hx518_0⟩ := Kd.at_bool (Kd.R_reads' HO_4.out).2.2 x9_2 p518 q518
                              (try rw [← Nbq28.out] at hx518_0)
                              cases e518
                              replace p518 := eq_true p518
                              replace q518 := eq_true q518
                              have hcz32_0 : wr.cell? ⟨gb514, 0, none⟩ = some (.int .i64 t509) := (blk_cell BK514.out 0).trans rfl
                              have hcz32_1 : wr.cell? ⟨gb514, 1, none⟩ = some (.int .i64 t510) := (blk_cell BK514.out 1).trans rfl
                              have hfz32_0 := blk_frozen BK514.out 0
                              have hfz32_1 := blk_frozen BK514.out 1
                              go_wp2_with (first | (go_at_call 34; (with_reducible refine (impl_SupplyBound.calls t509 t510 (wrap64 ((wrap64 (x9_2 - x7_1)) + 1)) t519 _ A30.out).mono ?_); rintro e w33 ⟨rfl, hb⟩; have n0_ := Aside0.mk (Kd.R_below (by (with_reducible repeat (first | apply Kd.R_alloc | apply Kd.R_drewN | apply Kd.R_drew)); exact HO_4.out) hb); have n1_ := Aside0.mk (blk_below (g := gb514) (o := .cells #[.int .i64 t509, .int .i64 t510] 37 (0, 0)) (by (with_reducible repeat (first | refine blk_drewN ?_ _ | refine blk_drew ?_ | refine blk_alloc ?_ _)); exact BK514.out) hb); have n2_ := Aside0.mk (below_step (by repeat (first | (with_reducible first | exact HB.out | apply below_alloc | apply pw_below_drewN | apply below_drew1 | refine below_set ?_ GE514.out) | exact HB.out)) hb); clear HO_4; clear BK514; clear HB; have HO_4 := n0_; have BK514 := n1_; have HB := n2_; clear n0_ n1_ n2_; (try clear hb); (try clear hb2); (try clear hk); (try clear hi)))
                              repeat (go_quiet (first | (go_at_call 34; (with_reducible refine (impl_SupplyBound.calls t509 t510 (wrap64 ((wrap64 (x9_2 - x7_1)) + 1)) t519 _ A30.out).mono ?_); rintro e w33 ⟨rfl, hb⟩; have n0_ := Aside0.mk (Kd.R_below (by (with_reducible repeat (first | apply Kd.R_alloc | apply Kd.R_drewN | apply Kd.R_drew)); exact HO_4.out) hb); have n1_ := Aside0.mk (blk_below (g := gb514) (o := .cells #[.int .i64 t509, .int .i64 t510] 37 (0, 0)) (by (with_reducible repeat (first | refine blk_drewN ?_ _ | refine blk_drew ?_ | refine blk_alloc ?_ _)); exact BK514.out) hb); have n2_ := Aside0.mk (below_step (by repeat (first | (with_reducible first | exact HB.out | apply below_alloc | apply pw_below_drewN | apply below_drew1 | refine below_set ?_ GE514.out) | exact HB.out)) hb); clear HO_4; clear BK514; clear HB; have HO_4 := n0_; have BK514 := n1_; have HB := n2_; clear n0_ n1_ n2_; (try clear hb); (try clear hb2); (try clear hk); (try clear hi))); try go_wp2_with (first | (go_at_call 34; (with_reducible refine (impl_SupplyBound.calls t509 t510 (wrap64 ((wrap64 (x9_2 - x7_1)) + 1)) t519 _ A30.out).mono ?_); rintro e w33 ⟨rfl, hb⟩; have n0_ := Aside0.mk (Kd.R_below (by (with_reducible repeat (first | apply Kd.R_alloc | apply Kd.R_drewN | apply Kd.R_drew)); exact HO_4.out) hb); have n1_ := Aside0.mk (blk_below (g := gb514) (o := .cells #[.int .i64 t509, .int .i64 t510] 37 (0, 0)) (by (with_reducible repeat (first | refine blk_drewN ?_ _ | refine blk_drew ?_ | refine blk_alloc ?_ _)); exact BK514.out) hb); have n2_ := Aside0.mk (below_step (by repeat (first | (with_reducible first | exact HB.out | apply below_alloc | apply pw_below_drewN | apply below_drew1 | refine below_set ?_ GE514.out) | exact HB.out)) hb); clear HO_4; clear BK514; clear HB; have HO_4 := n0_; have BK514 := n1_; have HB := n2_; clear n0_ n1_ n2_; (try clear hb); (try clear hb2); (try clear hk); (try clear hi))))
                              go_ret
                              exact ⟨by first | rfl | (simp [errW_none, errW_some] <;> rfl) | (simp [*, errW_none, errW_some] <;> rfl), by repeat (first | (with_reducible first | exact HB.out | apply below_alloc | apply pw_below_drewN | apply below_drew1 | refine below_set ?_ GE514.out) | exact HB.out)⟩
                            · rw [if_neg c31] at H
                              have c31b0 : decide ((wrap64 (x8_2 + 1)) < t519) = false := decide_eq_false c31
                              clear c31
                              have H' := Aside0.mk H
                              clear H
                              have p518 : 0 ≤ (x9_2 : Int) := of_decide_eq_true (by first | (with_reducible assumption) | assumption)
                              have q518 : x9_2 < (t511.length : Int) := of_decide_eq_true (by first | (with_reducible assumption) | assumption)
                              obtain ⟨ad518, e518, hx518_0⟩ := Kd.at_bool (Kd.R_reads' HO_4.out).2.2 x9_2 p518 q518
                              (try rw [← Nbq28.out] at hx518_0)
                              cases e518
                              replace p518 := eq_true p518
                              replace q518 := eq_true q518
                              have hcz34_0 : wr.cell? ⟨gb514, 0, none⟩ = some (.int .i64 t509) := (blk_cell BK514.out 0).trans rfl
                              have hcz34_1 : wr.cell? ⟨gb514, 1, none⟩ = some (.int .i64 t510) := (blk_cell BK514.out 1).trans rfl
                              have hfz34_0 := blk_frozen BK514.out 0
                              have hfz34_1 := blk_frozen BK514.out 1
                              go_wp2_with (first | (go_at_call 34; (with_reducible refine (impl_SupplyBound.calls t509 t510 (wrap64 ((wrap64 (x9_2 - x7_1)) + 1)) t519 _ A30.out).mono ?_); rintro e w35 ⟨rfl, hb⟩; have n0_ := Aside0.mk (Kd.R_below (by (with_reducible repeat (first | apply Kd.R_alloc | apply Kd.R_drewN | apply Kd.R_drew)); exact HO_4.out) hb); have n1_ := Aside0.mk (blk_below (g := gb514) (o := .cells #[.int .i64 t509, .int .i64 t510] 37 (0, 0)) (by (with_reducible repeat (first | refine blk_drewN ?_ _ | refine blk_drew ?_ | refine blk_alloc ?_ _)); exact BK514.out) hb); have n2_ := Aside0.mk (below_step (by repeat (first | (with_reducible first | exact HB.out | apply below_alloc | apply pw_below_drewN | apply below_drew1 | refine below_set ?_ GE514.out) | exact HB.out)) hb); clear HO_4; clear BK514; clear HB; have HO_4 := n0_; have BK514 := n1_; have HB := n2_; clear n0_ n1_ n2_; (try clear hb); (try clear hb2); (try clear hk); (try clear hi)))
                              repeat (go_quiet (first | (go_at_call 34; (with_reducible refine (impl_SupplyBound.calls t509 t510 (wrap64 ((wrap64 (x9_2 - x7_1)) + 1)) t519 _ A30.out).mono ?_); rintro e w35 ⟨rfl, hb⟩; have n0_ := Aside0.mk (Kd.R_below (by (with_reducible repeat (first | apply Kd.R_alloc | apply Kd.R_drewN | apply Kd.R_drew)); exact HO_4.out) hb); have n1_ := Aside0.mk (blk_below (g := gb514) (o := .cells #[.int .i64 t509, .int .i64 t510] 37 (0, 0)) (by (with_reducible repeat (first | refine blk_drewN ?_ _ | refine blk_drew ?_ | refine blk_alloc ?_ _)); exact BK514.out) hb); have n2_ := Aside0.mk (below_step (by repeat (first | (with_reducible first | exact HB.out | apply below_alloc | apply pw_below_drewN | apply below_drew1 | refine below_set ?_ GE514.out) | exact HB.out)) hb); clear HO_4; clear BK514; clear HB; have HO_4 := n0_; have BK514 := n1_; have HB := n2_; clear n0_ n1_ n2_; (try clear hb); (try clear hb2); (try clear hk); (try clear hi))); try go_wp2_with (first | (go_at_call 34; (with_reducible refine (impl_SupplyBound.calls t509 t510 (wrap64 ((wrap64 (x9_2 - x7_1)) + 1)) t519 _ A30.out).mono ?_); rintro e w35 ⟨rfl, hb⟩; have n0_ := Aside0.mk (Kd.R_below (by (with_reducible repeat (first | apply Kd.R_alloc | apply Kd.R_drewN | apply Kd.R_drew)); exact HO_4.out) hb); have n1_ := Aside0.mk (blk_below (g := gb514) (o := .cells #[.int .i64 t509, .int .i64 t510] 37 (0, 0)) (by (with_reducible repeat (first | refine blk_drewN ?_ _ | refine blk_drew ?_ | refine blk_alloc ?_ _)); exact BK514.out) hb); have n2_ := Aside0.mk (below_step (by repeat (first | (with_reducible first | exact HB.out | apply below_alloc | apply pw_below_drewN | apply below_drew1 | refine below_set ?_ GE514.out) | exact HB.out)) hb); clear HO_4; clear BK514; clear HB; have HO_4 := n0_; have BK514 := n1_; have HB := n2_; clear n0_ n1_ n2_; (try clear hb); (try clear hb2); (try clear hk); (try clear hi))))
                              go_roundg k2
                              case measure => have := HK1.out; have := HK2.out; omega
                              case rel => exact ⟨(wrap64 (x8_2 + 1)), (wrap64 (x9_2 + 1)), (by first | rfl | (simp; done) | (simp [*]; done)), (by first | rfl | (simp; done) | (simp [*]; done)), H', ⟨by have := HK1.out; have := HK2.out; omega⟩, ⟨by (with_reducible repeat (first | apply Kd.R_alloc | apply Kd.R_drewN | apply Kd.R_drew)); exact HO_4.out⟩, ⟨by (with_reducible repeat (first | refine blk_drewN ?_ _ | refine blk_drew ?_ | refine blk_alloc ?_ _)); exact BK514.out⟩, ⟨by repeat (first | (with_reducible first | exact HB.out | apply below_alloc | apply pw_below_drewN | apply below_drew1 | refine below_set ?_ GE514.out) | exact HB.out)⟩⟩
                          · replace c29 := Bool.eq_false_iff.mpr c29
                            subst c29
                            have H1 : ((impl_SupplyBound.f t509 t510 (wrap64 ((wrap64 (x9_2 - x7_1)) + 1))).bind fun t520 => (if x8_2 < t520 then (some false) else (laws_FnSupplyWorst.l1 k2 t511 (wrap64 ((wrap64 (Int.tdiv 120 t510)) * t510)) x7_1 x8_2 (wrap64 (x9_2 + 1)) t509 t510))) = some r := by rw [if_neg (show ¬ (false = true) by decide)] at H; exact H
                            clear H
                            have H := H1
                            clear H1
                            replace H := Option.bind_eq_some_iff.mp H
                            obtain ⟨t520, A360, H⟩ := H
                            replace H : (if x8_2 < t520 then (some false) else (laws_FnSupplyWorst.l1 k2 t511 (wrap64 ((wrap64 (Int.tdiv 120 t510)) * t510)) x7_1 x8_2 (wrap64 (x9_2 + 1)) t509 t510)) = some r := H
                            have A36 := Aside0.mk A360
                            clear A360
                            by_cases c37 : x8_2 < t520
                            · rw [if_pos c37] at H
                              have c37b0 : decide (x8_2 < t520) = true := decide_eq_true c37
                              clear c37
                              obtain rfl := Option.some.inj H
                              have p518 : 0 ≤ (x9_2 : Int) := of_decide_eq_true (by first | (with_reducible assumption) | assumption)
                              have q518 : x9_2 < (t511.length : Int) := of_decide_eq_true (by first | (with_reducible assumption) | assumption)
                              obtain ⟨ad518, e518, hx518_0⟩ := Kd.at_bool (Kd.R_reads' HO_4.out).2.2 x9_2 p518 q518
                              (try rw [← Nbq28.out] at hx518_0)
                              cases e518
                              replace p518 := eq_true p518
                              replace q518 := eq_true q518
                              have hcz38_0 : wr.cell? ⟨gb514, 0, none⟩ = some (.int .i64 t509) := (blk_cell BK514.out 0).trans rfl
                              have hcz38_1 : wr.cell? ⟨gb514, 1, none⟩ = some (.int .i64 t510) := (blk_cell BK514.out 1).trans rfl
                              have hfz38_0 := blk_frozen BK514.out 0
                              have hfz38_1 := blk_frozen BK514.out 1
                              go_wp2_with (first | (go_at_call 34; (with_reducible refine (impl_SupplyBound.calls t509 t510 (wrap64 ((wrap64 (x9_2 - x7_1)) + 1)) t520 _ A36.out).mono ?_); rintro e w39 ⟨rfl, hb⟩; have n0_ := Aside0.mk (Kd.R_below (by (with_reducible repeat (first | apply Kd.R_alloc | apply Kd.R_drewN | apply Kd.R_drew)); exact HO_4.out) hb); have n1_ := Aside0.mk (blk_below (g := gb514) (o := .cells #[.int .i64 t509, .int .i64 t510] 37 (0, 0)) (by (with_reducible repeat (first | refine blk_drewN ?_ _ | refine blk_drew ?_ | refine blk_alloc ?_ _)); exact BK514.out) hb); have n2_ := Aside0.mk (below_step (by repeat (first | (with_reducible first | exact HB.out | apply below_alloc | apply pw_below_drewN | apply below_drew1 | refine below_set ?_ GE514.out) | exact HB.out)) hb); clear HO_4; clear BK514; clear HB; have HO_4 := n0_; have BK514 := n1_; have HB := n2_; clear n0_ n1_ n2_; (try clear hb); (try clear hb2); (try clear hk); (try clear hi)))
                              repeat (go_quiet (first | (go_at_call 34; (with_reducible refine (impl_SupplyBound.calls t509 t510 (wrap64 ((wrap64 (x9_2 - x7_1)) + 1)) t520 _ A36.out).mono ?_); rintro e w39 ⟨rfl, hb⟩; have n0_ := Aside0.mk (Kd.R_below (by (with_reducible repeat (first | apply Kd.R_alloc | apply Kd.R_drewN | apply Kd.R_drew)); exact HO_4.out) hb); have n1_ := Aside0.mk (blk_below (g := gb514) (o := .cells #[.int .i64 t509, .int .i64 t510] 37 (0, 0)) (by (with_reducible repeat (first | refine blk_drewN ?_ _ | refine blk_drew ?_ | refine blk_alloc ?_ _)); exact BK514.out) hb); have n2_ := Aside0.mk (below_step (by repeat (first | (with_reducible first | exact HB.out | apply below_alloc | apply pw_below_drewN | apply below_drew1 | refine below_set ?_ GE514.out) | exact HB.out)) hb); clear HO_4; clear BK514; clear HB; have HO_4 := n0_; have BK514 := n1_; have HB := n2_; clear n0_ n1_ n2_; (try clear hb); (try clear hb2); (try clear hk); (try clear hi))); try go_wp2_with (first | (go_at_call 34; (with_reducible refine (impl_SupplyBound.calls t509 t510 (wrap64 ((wrap64 (x9_2 - x7_1)) + 1)) t520 _ A36.out).mono ?_); rintro e w39 ⟨rfl, hb⟩; have n0_ := Aside0.mk (Kd.R_below (by (with_reducible repeat (first | apply Kd.R_alloc | apply Kd.R_drewN | apply Kd.R_drew)); exact HO_4.out) hb); have n1_ := Aside0.mk (blk_below (g := gb514) (o := .cells #[.int .i64 t509, .int .i64 t510] 37 (0, 0)) (by (with_reducible repeat (first | refine blk_drewN ?_ _ | refine blk_drew ?_ | refine blk_alloc ?_ _)); exact BK514.out) hb); have n2_ := Aside0.mk (below_step (by repeat (first | (with_reducible first | exact HB.out | apply below_alloc | apply pw_below_drewN | apply below_drew1 | refine below_set ?_ GE514.out) | exact HB.out)) hb); clear HO_4; clear BK514; clear HB; have HO_4 := n0_; have BK514 := n1_; have HB := n2_; clear n0_ n1_ n2_; (try clear hb); (try clear hb2); (try clear hk); (try clear hi))))
                              go_ret
                              exact ⟨by first | rfl | (simp [errW_none, errW_some] <;> rfl) | (simp [*, errW_none, errW_some] <;> rfl), by repeat (first | (with_reducible first | exact HB.out | apply below_alloc | apply pw_below_drewN | apply below_drew1 | refine below_set ?_ GE514.out) | exact HB.out)⟩
                            · rw [if_neg c37] at H
                              have c37b0 : decide (x8_2 < t520) = false := decide_eq_false c37
                              clear c37
                              have H' := Aside0.mk H
                              clear H
                              have p518 : 0 ≤ (x9_2 : Int) := of_decide_eq_true (by first | (with_reducible assumption) | assumption)
                              have q518 : x9_2 < (t511.length : Int) := of_decide_eq_true (by first | (with_reducible assumption) | assumption)
                              obtain ⟨ad518, e518, hx518_0⟩ := Kd.at_bool (Kd.R_reads' HO_4.out).2.2 x9_2 p518 q518
                              (try rw [← Nbq28.out] at hx518_0)
                              cases e518
                              replace p518 := eq_true p518
                              replace q518 := eq_true q518
                              have hcz40_0 : wr.cell? ⟨gb514, 0, none⟩ = some (.int .i64 t509) := (blk_cell BK514.out 0).trans rfl
                              have hcz40_1 : wr.cell? ⟨gb514, 1, none⟩ = some (.int .i64 t510) := (blk_cell BK514.out 1).trans rfl
                              have hfz40_0 := blk_frozen BK514.out 0
                              have hfz40_1 := blk_frozen BK514.out 1
                              go_wp2_with (first | (go_at_call 34; (with_reducible refine (impl_SupplyBound.calls t509 t510 (wrap64 ((wrap64 (x9_2 - x7_1)) + 1)) t520 _ A36.out).mono ?_); rintro e w41 ⟨rfl, hb⟩; have n0_ := Aside0.mk (Kd.R_below (by (with_reducible repeat (first | apply Kd.R_alloc | apply Kd.R_drewN | apply Kd.R_drew)); exact HO_4.out) hb); have n1_ := Aside0.mk (blk_below (g := gb514) (o := .cells #[.int .i64 t509, .int .i64 t510] 37 (0, 0)) (by (with_reducible repeat (first | refine blk_drewN ?_ _ | refine blk_drew ?_ | refine blk_alloc ?_ _)); exact BK514.out) hb); have n2_ := Aside0.mk (below_step (by repeat (first | (with_reducible first | exact HB.out | apply below_alloc | apply pw_below_drewN | apply below_drew1 | refine below_set ?_ GE514.out) | exact HB.out)) hb); clear HO_4; clear BK514; clear HB; have HO_4 := n0_; have BK514 := n1_; have HB := n2_; clear n0_ n1_ n2_; (try clear hb); (try clear hb2); (try clear hk); (try clear hi)))
                              repeat (go_quiet (first | (go_at_call 34; (with_reducible refine (impl_SupplyBound.calls t509 t510 (wrap64 ((wrap64 (x9_2 - x7_1)) + 1)) t520 _ A36.out).mono ?_); rintro e w41 ⟨rfl, hb⟩; have n0_ := Aside0.mk (Kd.R_below (by (with_reducible repeat (first | apply Kd.R_alloc | apply Kd.R_drewN | apply Kd.R_drew)); exact HO_4.out) hb); have n1_ := Aside0.mk (blk_below (g := gb514) (o := .cells #[.int .i64 t509, .int .i64 t510] 37 (0, 0)) (by (with_reducible repeat (first | refine blk_drewN ?_ _ | refine blk_drew ?_ | refine blk_alloc ?_ _)); exact BK514.out) hb); have n2_ := Aside0.mk (below_step (by repeat (first | (with_reducible first | exact HB.out | apply below_alloc | apply pw_below_drewN | apply below_drew1 | refine below_set ?_ GE514.out) | exact HB.out)) hb); clear HO_4; clear BK514; clear HB; have HO_4 := n0_; have BK514 := n1_; have HB := n2_; clear n0_ n1_ n2_; (try clear hb); (try clear hb2); (try clear hk); (try clear hi))); try go_wp2_with (first | (go_at_call 34; (with_reducible refine (impl_SupplyBound.calls t509 t510 (wrap64 ((wrap64 (x9_2 - x7_1)) + 1)) t520 _ A36.out).mono ?_); rintro e w41 ⟨rfl, hb⟩; have n0_ := Aside0.mk (Kd.R_below (by (with_reducible repeat (first | apply Kd.R_alloc | apply Kd.R_drewN | apply Kd.R_drew)); exact HO_4.out) hb); have n1_ := Aside0.mk (blk_below (g := gb514) (o := .cells #[.int .i64 t509, .int .i64 t510] 37 (0, 0)) (by (with_reducible repeat (first | refine blk_drewN ?_ _ | refine blk_drew ?_ | refine blk_alloc ?_ _)); exact BK514.out) hb); have n2_ := Aside0.mk (below_step (by repeat (first | (with_reducible first | exact HB.out | apply below_alloc | apply pw_below_drewN | apply below_drew1 | refine below_set ?_ GE514.out) | exact HB.out)) hb); clear HO_4; clear BK514; clear HB; have HO_4 := n0_; have BK514 := n1_; have HB := n2_; clear n0_ n1_ n2_; (try clear hb); (try clear hb2); (try clear hk); (try clear hi))))
                              go_roundg k2
                              case measure => have := HK1.out; have := HK2.out; omega
                              case rel => exact ⟨(x8_2), (wrap64 (x9_2 + 1)), (by first | rfl | (simp; done) | (simp [*]; done)), (by first | rfl | (simp; done) | (simp [*]; done)), H', ⟨by have := HK1.out; have := HK2.out; omega⟩, ⟨by (with_reducible repeat (first | apply Kd.R_alloc | apply Kd.R_drewN | apply Kd.R_drew)); exact HO_4.out⟩, ⟨by (with_reducible repeat (first | refine blk_drewN ?_ _ | refine blk_drew ?_ | refine blk_alloc ?_ _)); exact BK514.out⟩, ⟨by repeat (first | (with_reducible first | exact HB.out | apply below_alloc | apply pw_below_drewN | apply below_drew1 | refine below_set ?_ GE514.out) | exact HB.out)⟩⟩
                        · rw [if_neg c27] at H
                          exact absurd H (by simp)
                      · rw [if_neg c26] at H
                        exact absurd H (by simp)
                    · rw [if_neg c25] at H
                      have c25b0 : decide (x9_2 < (wrap64 ((wrap64 (Int.tdiv 120 t510)) * t510))) = false := decide_eq_false c25
                      clear c25
                      have H' := Aside0.mk H
                      clear H
                      go_wp2
                      repeat (go_quiet (fail); try go_wp2)
                      go_roundg k2
                      case measure => have := HK1.out; have := HK2.out; omega
                      case rel => exact ⟨(wrap64 (x7_1 + 1)), (by first | rfl | (simp; done) | (simp [*]; done)), H', ⟨by have := HK1.out; have := HK2.out; omega⟩, ⟨by (with_reducible repeat (first | apply Kd.R_alloc | apply Kd.R_drewN | apply Kd.R_drew)); exact HO_4.out⟩, ⟨by (with_reducible repeat (first | refine blk_drewN ?_ _ | refine blk_drew ?_ | refine blk_alloc ?_ _)); exact BK514.out⟩, ⟨by repeat (first | (with_reducible first | exact HB.out | apply below_alloc | apply pw_below_drewN | apply below_drew1 | refine below_set ?_ GE514.out) | exact HB.out)⟩⟩
              · rw [if_neg c24] at H
                have c24b0 : decide (x7_1 < (wrap64 ((wrap64 (Int.tdiv 120 t510)) * t510))) = false := decide_eq_false c24
                clear c24
                obtain rfl := Option.some.inj H
                go_wp2
                repeat (go_quiet (fail); try go_wp2)
                go_ret
                exact ⟨by first | rfl | (simp [errW_none, errW_some] <;> rfl) | (simp [*, errW_none, errW_some] <;> rfl), by repeat (first | (with_reducible first | exact HB.out | apply below_alloc | apply pw_below_drewN | apply below_drew1 | refine below_set ?_ GE514.out) | exact HB.out)⟩
      · replace c14 := Bool.eq_false_iff.mpr c14
        subst c14
        have H1 : ((laws_alive.f).bind fun t517 => (some t517)) = some r := by rw [if_neg (show ¬ (false = true) by decide)] at H; exact H
        clear H
        have H := H1
        clear H1
        replace H := Option.bind_eq_some_iff.mp H
        obtain ⟨t517, A420, H⟩ := H
        replace H : (some t517) = some r := H
        have A42 := Aside0.mk A420
        clear A420
        obtain rfl := Option.some.inj H
        go_enter Try.func16, Try.ntmps16
        go_wp2_with (first | (go_at_call 46; (with_reducible refine (spec_DrawPatternValid.calls k _ _ l0 t509 t510 t511 _ ?side1 ?side2 A3.out).mono ?_); (case side1 => repeat (first | exact HR0.out | (with_reducible refine Kd.C_alloc ?_ _) | (with_reducible refine Kd.C_drewN ?_ _) | (with_reducible refine Kd.C_drew ?_))); (case side2 => exact HC0.out); rintro e w43 ⟨v512, rfl, ho0, hb⟩; have n0_ := Aside0.mk (Kd.R_lower ho0 (below_size (by repeat (first | (with_reducible first | exact HB.out | apply below_alloc | apply pw_below_drewN | apply below_drew1) | exact HB.out)))); have n1_ := Aside0.mk (below_step (by repeat (first | (with_reducible first | exact HB.out | apply below_alloc | apply pw_below_drewN | apply below_drew1) | exact HB.out)) hb); clear HB; have HO513 := n0_; have HB := n1_; clear n0_ n1_; (try clear hb); (try clear hb2); (try clear hk); (try clear hi); (try clear ho0)) | ((with_reducible refine gate_dst (N := 3) rfl ?_); refine box_event ?hg (N := 3) ?hd (cs := #[.int .i64 0, .int .i64 0]) (t := 37) ?hr ?_; (case hd => rfl); (case hg => rfl); (case hr => first | (go_simp; done) | (go_simp; rfl)); intro gb514 hg w44 hbox hb; have n0_ := Aside0.mk (Kd.R_below (by (with_reducible repeat (first | apply Kd.R_alloc | apply Kd.R_drewN | apply Kd.R_drew)); exact HO513.out) hb); have n1_ := Aside0.mk (below_step (by repeat (first | (with_reducible first | exact HB.out | apply below_alloc | apply pw_below_drewN | apply below_drew1) | exact HB.out)) hb); have n2_ := Aside0.mk (hbox); have n3_ := Aside0.mk ((by rw [hg]; exact (below_size (by repeat (first | (with_reducible first | exact HB.out | apply below_alloc | apply pw_below_drewN | apply below_drew1) | exact HB.out))) : w.heap.size ≤ gb514)); have n4_ := Aside0.mk ((by rw [hg]; exact (below_size (by repeat (first | (with_reducible first | exact HB.out | apply below_alloc | apply pw_below_drewN | apply below_drew1) | exact HB.out))) : w.heap.size ≤ gb514)); clear HO513; clear HB; have HO513 := n0_; have HB := n1_; have BK514 := n2_; have GW514 := n3_; have GE514 := n4_; clear n0_ n1_ n2_ n3_ n4_; clear hb hbox hg; have hcz45_0 : w44.cell? ⟨gb514, 0, none⟩ = some (.int .i64 0) := (blk_cell BK514.out 0).trans rfl; have hcz45_1 : w44.cell? ⟨gb514, 1, none⟩ = some (.int .i64 0) := (blk_cell BK514.out 1).trans rfl; have hfz45_0 := blk_frozen BK514.out 0; have hfz45_1 := blk_frozen BK514.out 1; obtain ⟨Ao46, co46, eo46⟩ := Kd.R_slice HO513.out; subst eo46) | (go_at_call 44; (with_reducible refine (impl_PatternValid.calls k t509 t510 _ _ t511 false _ ?side1 ?side2 A4.out).mono ?_); (case side1 => refine (Kd.R_reads' (e := 4) (base := w.heap.size) (ok := fun k_ => True) (n := t511.length) (c := co46) ?_).2.2; exact (by (with_reducible repeat (first | apply Kd.R_alloc | apply Kd.R_drewN | apply Kd.R_drew)); exact (Kd.R_mono (Kd.R_far (p := ⟨gb514, 1, none⟩) (Kd.R_far (p := ⟨gb514, 0, none⟩) (Kd.R_types HO513.out BK514.out (by decide)) (fun _ hk => hk.2) (.int .i64 t509)) (fun _ hk => hk.2) (.int .i64 t510)) (fun _ h_ => h_.1)))); (case side2 => exact (Kd.R_reads' HO513.out).2.1); rintro e w47 ⟨rfl, hb⟩; have n0_ := Aside0.mk (Kd.R_below (by (with_reducible repeat (first | apply Kd.R_alloc | apply Kd.R_drewN | apply Kd.R_drew)); exact (Kd.R_mono (Kd.R_far (p := ⟨gb514, 1, none⟩) (Kd.R_far (p := ⟨gb514, 0, none⟩) (Kd.R_types HO513.out BK514.out (by decide)) (fun _ hk => hk.2) (.int .i64 t509)) (fun _ hk => hk.2) (.int .i64 t510)) (fun _ h_ => h_.1))) hb); have n1_ := Aside0.mk (blk_below (g := gb514) (o := .cells #[.int .i64 t509, .int .i64 t510] 37 (0, 0)) (by (with_reducible repeat (first | refine blk_drewN ?_ _ | refine blk_drew ?_ | refine blk_alloc ?_ _)); refine blk_put (cs := #[.int .i64 t509, .int .i64 0]) ?_ 1 _ rfl; (with_reducible repeat (first | refine blk_drewN ?_ _ | refine blk_drew ?_ | refine blk_alloc ?_ _)); refine blk_put (cs := #[.int .i64 0, .int .i64 0]) ?_ 0 _ rfl; (with_reducible repeat (first | refine blk_drewN ?_ _ | refine blk_drew ?_ | refine blk_alloc ?_ _)); exact BK514.out) hb); have n2_ := Aside0.mk (below_step (by repeat (first | (with_reducible first | exact HB.out | apply below_alloc | apply pw_below_drewN | apply below_drew1 | refine below_set ?_ GE514.out) | exact HB.out)) hb); clear HO513; clear BK514; clear HB; have HO513 := n0_; have BK514 := n1_; have HB := n2_; clear n0_ n1_ n2_; (try clear hb); (try clear hb2); (try clear hk); (try clear hi); have hcz48_0 : w47.cell? ⟨gb514, 0, none⟩ = some (.int .i64 t509) := (blk_cell BK514.out 0).trans rfl; have hcz48_1 : w47.cell? ⟨gb514, 1, none⟩ = some (.int .i64 t510) := (blk_cell BK514.out 1).trans rfl; have hfz48_0 := blk_frozen BK514.out 0; have hfz48_1 := blk_frozen BK514.out 1) | (go_at_call 42; (with_reducible refine (spec_PatternValid.calls k t509 t510 _ _ t511 t516 _ ?side1 ?side2 A5.out).mono ?_); (case side1 => repeat (first | exact (Kd.R_reads' HO513.out).2.2 | (with_reducible refine Kd.C_alloc ?_ _) | (with_reducible refine Kd.C_drewN ?_ _) | (with_reducible refine Kd.C_drew ?_))); (case side2 => exact (Kd.R_reads' HO513.out).2.1); rintro e w49 ⟨rfl, hb⟩; have n0_ := Aside0.mk (Kd.R_below (by (with_reducible repeat (first | apply Kd.R_alloc | apply Kd.R_drewN | apply Kd.R_drew)); exact HO513.out) hb); have n1_ := Aside0.mk (blk_below (g := gb514) (o := .cells #[.int .i64 t509, .int .i64 t510] 37 (0, 0)) (by (with_reducible repeat (first | refine blk_drewN ?_ _ | refine blk_drew ?_ | refine blk_alloc ?_ _)); exact BK514.out) hb); have n2_ := Aside0.mk (below_step (by repeat (first | (with_reducible first | exact HB.out | apply below_alloc | apply pw_below_drewN | apply below_drew1 | refine below_set ?_ GE514.out) | exact HB.out)) hb); clear HO513; clear BK514; clear HB; have HO513 := n0_; have BK514 := n1_; have HB := n2_; clear n0_ n1_ n2_; (try clear hb); (try clear hb2); (try clear hk); (try clear hi)) | (go_at_call 36; (with_reducible refine (laws_alive.calls  t517 _ A42.out).mono ?_); rintro e w50 ⟨rfl, hb⟩; have n0_ := Aside0.mk (Kd.R_below (by (with_reducible repeat (first | apply Kd.R_alloc | apply Kd.R_drewN | apply Kd.R_drew)); exact HO513.out) hb); have n1_ := Aside0.mk (blk_below (g := gb514) (o := .cells #[.int .i64 t509, .int .i64 t510] 37 (0, 0)) (by (with_reducible repeat (first | refine blk_drewN ?_ _ | refine blk_drew ?_ | refine blk_alloc ?_ _)); exact BK514.out) hb); have n2_ := Aside0.mk (below_step (by repeat (first | (with_reducible first | exact HB.out | apply below_alloc | apply pw_below_drewN | apply below_drew1 | refine below_set ?_ GE514.out) | exact HB.out)) hb); clear HO513; clear BK514; clear HB; have HO513 := n0_; have BK514 := n1_; have HB := n2_; clear n0_ n1_ n2_; (try clear hb); (try clear hb2); (try clear hk); (try clear hi)))
        repeat (go_quiet (first | (go_at_call 46; (with_reducible refine (spec_DrawPatternValid.calls k _ _ l0 t509 t510 t511 _ ?side1 ?side2 A3.out).mono ?_); (case side1 => repeat (first | exact HR0.out | (with_reducible refine Kd.C_alloc ?_ _) | (with_reducible refine Kd.C_drewN ?_ _) | (with_reducible refine Kd.C_drew ?_))); (case side2 => exact HC0.out); rintro e w43 ⟨v512, rfl, ho0, hb⟩; have n0_ := Aside0.mk (Kd.R_lower ho0 (below_size (by repeat (first | (with_reducible first | exact HB.out | apply below_alloc | apply pw_below_drewN | apply below_drew1) | exact HB.out)))); have n1_ := Aside0.mk (below_step (by repeat (first | (with_reducible first | exact HB.out | apply below_alloc | apply pw_below_drewN | apply below_drew1) | exact HB.out)) hb); clear HB; have HO513 := n0_; have HB := n1_; clear n0_ n1_; (try clear hb); (try clear hb2); (try clear hk); (try clear hi); (try clear ho0)) | ((with_reducible refine gate_dst (N := 3) rfl ?_); refine box_event ?hg (N := 3) ?hd (cs := #[.int .i64 0, .int .i64 0]) (t := 37) ?hr ?_; (case hd => rfl); (case hg => rfl); (case hr => first | (go_simp; done) | (go_simp; rfl)); intro gb514 hg w44 hbox hb; have n0_ := Aside0.mk (Kd.R_below (by (with_reducible repeat (first | apply Kd.R_alloc | apply Kd.R_drewN | apply Kd.R_drew)); exact HO513.out) hb); have n1_ := Aside0.mk (below_step (by repeat (first | (with_reducible first | exact HB.out | apply below_alloc | apply pw_below_drewN | apply below_drew1) | exact HB.out)) hb); have n2_ := Aside0.mk (hbox); have n3_ := Aside0.mk ((by rw [hg]; exact (below_size (by repeat (first | (with_reducible first | exact HB.out | apply below_alloc | apply pw_below_drewN | apply below_drew1) | exact HB.out))) : w.heap.size ≤ gb514)); have n4_ := Aside0.mk ((by rw [hg]; exact (below_size (by repeat (first | (with_reducible first | exact HB.out | apply below_alloc | apply pw_below_drewN | apply below_drew1) | exact HB.out))) : w.heap.size ≤ gb514)); clear HO513; clear HB; have HO513 := n0_; have HB := n1_; have BK514 := n2_; have GW514 := n3_; have GE514 := n4_; clear n0_ n1_ n2_ n3_ n4_; clear hb hbox hg; have hcz45_0 : w44.cell? ⟨gb514, 0, none⟩ = some (.int .i64 0) := (blk_cell BK514.out 0).trans rfl; have hcz45_1 : w44.cell? ⟨gb514, 1, none⟩ = some (.int .i64 0) := (blk_cell BK514.out 1).trans rfl; have hfz45_0 := blk_frozen BK514.out 0; have hfz45_1 := blk_frozen BK514.out 1; obtain ⟨Ao46, co46, eo46⟩ := Kd.R_slice HO513.out; subst eo46) | (go_at_call 44; (with_reducible refine (impl_PatternValid.calls k t509 t510 _ _ t511 false _ ?side1 ?side2 A4.out).mono ?_); (case side1 => refine (Kd.R_reads' (e := 4) (base := w.heap.size) (ok := fun k_ => True) (n := t511.length) (c := co46) ?_).2.2; exact (by (with_reducible repeat (first | apply Kd.R_alloc | apply Kd.R_drewN | apply Kd.R_drew)); exact (Kd.R_mono (Kd.R_far (p := ⟨gb514, 1, none⟩) (Kd.R_far (p := ⟨gb514, 0, none⟩) (Kd.R_types HO513.out BK514.out (by decide)) (fun _ hk => hk.2) (.int .i64 t509)) (fun _ hk => hk.2) (.int .i64 t510)) (fun _ h_ => h_.1)))); (case side2 => exact (Kd.R_reads' HO513.out).2.1); rintro e w47 ⟨rfl, hb⟩; have n0_ := Aside0.mk (Kd.R_below (by (with_reducible repeat (first | apply Kd.R_alloc | apply Kd.R_drewN | apply Kd.R_drew)); exact (Kd.R_mono (Kd.R_far (p := ⟨gb514, 1, none⟩) (Kd.R_far (p := ⟨gb514, 0, none⟩) (Kd.R_types HO513.out BK514.out (by decide)) (fun _ hk => hk.2) (.int .i64 t509)) (fun _ hk => hk.2) (.int .i64 t510)) (fun _ h_ => h_.1))) hb); have n1_ := Aside0.mk (blk_below (g := gb514) (o := .cells #[.int .i64 t509, .int .i64 t510] 37 (0, 0)) (by (with_reducible repeat (first | refine blk_drewN ?_ _ | refine blk_drew ?_ | refine blk_alloc ?_ _)); refine blk_put (cs := #[.int .i64 t509, .int .i64 0]) ?_ 1 _ rfl; (with_reducible repeat (first | refine blk_drewN ?_ _ | refine blk_drew ?_ | refine blk_alloc ?_ _)); refine blk_put (cs := #[.int .i64 0, .int .i64 0]) ?_ 0 _ rfl; (with_reducible repeat (first | refine blk_drewN ?_ _ | refine blk_drew ?_ | refine blk_alloc ?_ _)); exact BK514.out) hb); have n2_ := Aside0.mk (below_step (by repeat (first | (with_reducible first | exact HB.out | apply below_alloc | apply pw_below_drewN | apply below_drew1 | refine below_set ?_ GE514.out) | exact HB.out)) hb); clear HO513; clear BK514; clear HB; have HO513 := n0_; have BK514 := n1_; have HB := n2_; clear n0_ n1_ n2_; (try clear hb); (try clear hb2); (try clear hk); (try clear hi); have hcz48_0 : w47.cell? ⟨gb514, 0, none⟩ = some (.int .i64 t509) := (blk_cell BK514.out 0).trans rfl; have hcz48_1 : w47.cell? ⟨gb514, 1, none⟩ = some (.int .i64 t510) := (blk_cell BK514.out 1).trans rfl; have hfz48_0 := blk_frozen BK514.out 0; have hfz48_1 := blk_frozen BK514.out 1) | (go_at_call 42; (with_reducible refine (spec_PatternValid.calls k t509 t510 _ _ t511 t516 _ ?side1 ?side2 A5.out).mono ?_); (case side1 => repeat (first | exact (Kd.R_reads' HO513.out).2.2 | (with_reducible refine Kd.C_alloc ?_ _) | (with_reducible refine Kd.C_drewN ?_ _) | (with_reducible refine Kd.C_drew ?_))); (case side2 => exact (Kd.R_reads' HO513.out).2.1); rintro e w49 ⟨rfl, hb⟩; have n0_ := Aside0.mk (Kd.R_below (by (with_reducible repeat (first | apply Kd.R_alloc | apply Kd.R_drewN | apply Kd.R_drew)); exact HO513.out) hb); have n1_ := Aside0.mk (blk_below (g := gb514) (o := .cells #[.int .i64 t509, .int .i64 t510] 37 (0, 0)) (by (with_reducible repeat (first | refine blk_drewN ?_ _ | refine blk_drew ?_ | refine blk_alloc ?_ _)); exact BK514.out) hb); have n2_ := Aside0.mk (below_step (by repeat (first | (with_reducible first | exact HB.out | apply below_alloc | apply pw_below_drewN | apply below_drew1 | refine below_set ?_ GE514.out) | exact HB.out)) hb); clear HO513; clear BK514; clear HB; have HO513 := n0_; have BK514 := n1_; have HB := n2_; clear n0_ n1_ n2_; (try clear hb); (try clear hb2); (try clear hk); (try clear hi)) | (go_at_call 36; (with_reducible refine (laws_alive.calls  t517 _ A42.out).mono ?_); rintro e w50 ⟨rfl, hb⟩; have n0_ := Aside0.mk (Kd.R_below (by (with_reducible repeat (first | apply Kd.R_alloc | apply Kd.R_drewN | apply Kd.R_drew)); exact HO513.out) hb); have n1_ := Aside0.mk (blk_below (g := gb514) (o := .cells #[.int .i64 t509, .int .i64 t510] 37 (0, 0)) (by (with_reducible repeat (first | refine blk_drewN ?_ _ | refine blk_drew ?_ | refine blk_alloc ?_ _)); exact BK514.out) hb); have n2_ := Aside0.mk (below_step (by repeat (first | (with_reducible first | exact HB.out | apply below_alloc | apply pw_below_drewN | apply below_drew1 | refine below_set ?_ GE514.out) | exact HB.out)) hb); clear HO513; clear BK514; clear HB; have HO513 := n0_; have BK514 := n1_; have HB := n2_; clear n0_ n1_ n2_; (try clear hb); (try clear hb2); (try clear hk); (try clear hi))); try go_wp2_with (first | (go_at_call 46; (with_reducible refine (spec_DrawPatternValid.calls k _ _ l0 t509 t510 t511 _ ?side1 ?side2 A3.out).mono ?_); (case side1 => repeat (first | exact HR0.out | (with_reducible refine Kd.C_alloc ?_ _) | (with_reducible refine Kd.C_drewN ?_ _) | (with_reducible refine Kd.C_drew ?_))); (case side2 => exact HC0.out); rintro e w43 ⟨v512, rfl, ho0, hb⟩; have n0_ := Aside0.mk (Kd.R_lower ho0 (below_size (by repeat (first | (with_reducible first | exact HB.out | apply below_alloc | apply pw_below_drewN | apply below_drew1) | exact HB.out)))); have n1_ := Aside0.mk (below_step (by repeat (first | (with_reducible first | exact HB.out | apply below_alloc | apply pw_below_drewN | apply below_drew1) | exact HB.out)) hb); clear HB; have HO513 := n0_; have HB := n1_; clear n0_ n1_; (try clear hb); (try clear hb2); (try clear hk); (try clear hi); (try clear ho0)) | ((with_reducible refine gate_dst (N := 3) rfl ?_); refine box_event ?hg (N := 3) ?hd (cs := #[.int .i64 0, .int .i64 0]) (t := 37) ?hr ?_; (case hd => rfl); (case hg => rfl); (case hr => first | (go_simp; done) | (go_simp; rfl)); intro gb514 hg w44 hbox hb; have n0_ := Aside0.mk (Kd.R_below (by (with_reducible repeat (first | apply Kd.R_alloc | apply Kd.R_drewN | apply Kd.R_drew)); exact HO513.out) hb); have n1_ := Aside0.mk (below_step (by repeat (first | (with_reducible first | exact HB.out | apply below_alloc | apply pw_below_drewN | apply below_drew1) | exact HB.out)) hb); have n2_ := Aside0.mk (hbox); have n3_ := Aside0.mk ((by rw [hg]; exact (below_size (by repeat (first | (with_reducible first | exact HB.out | apply below_alloc | apply pw_below_drewN | apply below_drew1) | exact HB.out))) : w.heap.size ≤ gb514)); have n4_ := Aside0.mk ((by rw [hg]; exact (below_size (by repeat (first | (with_reducible first | exact HB.out | apply below_alloc | apply pw_below_drewN | apply below_drew1) | exact HB.out))) : w.heap.size ≤ gb514)); clear HO513; clear HB; have HO513 := n0_; have HB := n1_; have BK514 := n2_; have GW514 := n3_; have GE514 := n4_; clear n0_ n1_ n2_ n3_ n4_; clear hb hbox hg; have hcz45_0 : w44.cell? ⟨gb514, 0, none⟩ = some (.int .i64 0) := (blk_cell BK514.out 0).trans rfl; have hcz45_1 : w44.cell? ⟨gb514, 1, none⟩ = some (.int .i64 0) := (blk_cell BK514.out 1).trans rfl; have hfz45_0 := blk_frozen BK514.out 0; have hfz45_1 := blk_frozen BK514.out 1; obtain ⟨Ao46, co46, eo46⟩ := Kd.R_slice HO513.out; subst eo46) | (go_at_call 44; (with_reducible refine (impl_PatternValid.calls k t509 t510 _ _ t511 false _ ?side1 ?side2 A4.out).mono ?_); (case side1 => refine (Kd.R_reads' (e := 4) (base := w.heap.size) (ok := fun k_ => True) (n := t511.length) (c := co46) ?_).2.2; exact (by (with_reducible repeat (first | apply Kd.R_alloc | apply Kd.R_drewN | apply Kd.R_drew)); exact (Kd.R_mono (Kd.R_far (p := ⟨gb514, 1, none⟩) (Kd.R_far (p := ⟨gb514, 0, none⟩) (Kd.R_types HO513.out BK514.out (by decide)) (fun _ hk => hk.2) (.int .i64 t509)) (fun _ hk => hk.2) (.int .i64 t510)) (fun _ h_ => h_.1)))); (case side2 => exact (Kd.R_reads' HO513.out).2.1); rintro e w47 ⟨rfl, hb⟩; have n0_ := Aside0.mk (Kd.R_below (by (with_reducible repeat (first | apply Kd.R_alloc | apply Kd.R_drewN | apply Kd.R_drew)); exact (Kd.R_mono (Kd.R_far (p := ⟨gb514, 1, none⟩) (Kd.R_far (p := ⟨gb514, 0, none⟩) (Kd.R_types HO513.out BK514.out (by decide)) (fun _ hk => hk.2) (.int .i64 t509)) (fun _ hk => hk.2) (.int .i64 t510)) (fun _ h_ => h_.1))) hb); have n1_ := Aside0.mk (blk_below (g := gb514) (o := .cells #[.int .i64 t509, .int .i64 t510] 37 (0, 0)) (by (with_reducible repeat (first | refine blk_drewN ?_ _ | refine blk_drew ?_ | refine blk_alloc ?_ _)); refine blk_put (cs := #[.int .i64 t509, .int .i64 0]) ?_ 1 _ rfl; (with_reducible repeat (first | refine blk_drewN ?_ _ | refine blk_drew ?_ | refine blk_alloc ?_ _)); refine blk_put (cs := #[.int .i64 0, .int .i64 0]) ?_ 0 _ rfl; (with_reducible repeat (first | refine blk_drewN ?_ _ | refine blk_drew ?_ | refine blk_alloc ?_ _)); exact BK514.out) hb); have n2_ := Aside0.mk (below_step (by repeat (first | (with_reducible first | exact HB.out | apply below_alloc | apply pw_below_drewN | apply below_drew1 | refine below_set ?_ GE514.out) | exact HB.out)) hb); clear HO513; clear BK514; clear HB; have HO513 := n0_; have BK514 := n1_; have HB := n2_; clear n0_ n1_ n2_; (try clear hb); (try clear hb2); (try clear hk); (try clear hi); have hcz48_0 : w47.cell? ⟨gb514, 0, none⟩ = some (.int .i64 t509) := (blk_cell BK514.out 0).trans rfl; have hcz48_1 : w47.cell? ⟨gb514, 1, none⟩ = some (.int .i64 t510) := (blk_cell BK514.out 1).trans rfl; have hfz48_0 := blk_frozen BK514.out 0; have hfz48_1 := blk_frozen BK514.out 1) | (go_at_call 42; (with_reducible refine (spec_PatternValid.calls k t509 t510 _ _ t511 t516 _ ?side1 ?side2 A5.out).mono ?_); (case side1 => repeat (first | exact (Kd.R_reads' HO513.out).2.2 | (with_reducible refine Kd.C_alloc ?_ _) | (with_reducible refine Kd.C_drewN ?_ _) | (with_reducible refine Kd.C_drew ?_))); (case side2 => exact (Kd.R_reads' HO513.out).2.1); rintro e w49 ⟨rfl, hb⟩; have n0_ := Aside0.mk (Kd.R_below (by (with_reducible repeat (first | apply Kd.R_alloc | apply Kd.R_drewN | apply Kd.R_drew)); exact HO513.out) hb); have n1_ := Aside0.mk (blk_below (g := gb514) (o := .cells #[.int .i64 t509, .int .i64 t510] 37 (0, 0)) (by (with_reducible repeat (first | refine blk_drewN ?_ _ | refine blk_drew ?_ | refine blk_alloc ?_ _)); exact BK514.out) hb); have n2_ := Aside0.mk (below_step (by repeat (first | (with_reducible first | exact HB.out | apply below_alloc | apply pw_below_drewN | apply below_drew1 | refine below_set ?_ GE514.out) | exact HB.out)) hb); clear HO513; clear BK514; clear HB; have HO513 := n0_; have BK514 := n1_; have HB := n2_; clear n0_ n1_ n2_; (try clear hb); (try clear hb2); (try clear hk); (try clear hi)) | (go_at_call 36; (with_reducible refine (laws_alive.calls  t517 _ A42.out).mono ?_); rintro e w50 ⟨rfl, hb⟩; have n0_ := Aside0.mk (Kd.R_below (by (with_reducible repeat (first | apply Kd.R_alloc | apply Kd.R_drewN | apply Kd.R_drew)); exact HO513.out) hb); have n1_ := Aside0.mk (blk_below (g := gb514) (o := .cells #[.int .i64 t509, .int .i64 t510] 37 (0, 0)) (by (with_reducible repeat (first | refine blk_drewN ?_ _ | refine blk_drew ?_ | refine blk_alloc ?_ _)); exact BK514.out) hb); have n2_ := Aside0.mk (below_step (by repeat (first | (with_reducible first | exact HB.out | apply below_alloc | apply pw_below_drewN | apply below_drew1 | refine below_set ?_ GE514.out) | exact HB.out)) hb); clear HO513; clear BK514; clear HB; have HO513 := n0_; have BK514 := n1_; have HB := n2_; clear n0_ n1_ n2_; (try clear hb); (try clear hb2); (try clear hk); (try clear hi))))
        go_ret
        exact ⟨by first | rfl | (simp [errW_none, errW_some] <;> rfl) | (simp [*, errW_none, errW_some] <;> rfl), by repeat (first | (with_reducible first | exact HB.out | apply below_alloc | apply pw_below_drewN | apply below_drew1 | refine below_set ?_ GE514.out) | exact HB.out)⟩

/-- The one pure statement of laws_FnSupplyWorst. -/
def laws_FnSupplyWorst.Pure : Prop := ∀ (l0 : List Int), l0.length * 1 ≤ 140737488351232 → (l0.length ≤ maxLen ∧ ∀ y0 ∈ l0, (Lit.int .u8 y0).wf = true) → ∃ k, laws_FnSupplyWorst.f k l0 = some true

end Go.Proofs.Ytooabmmnbifclaa.P
/- Small laws that all proofs of this seat use. No condition. -/
namespace Go.Proofs.Ytooabmmnbifclaa.Base
open Go.RowKit Go.Proofs.Ytooabmmnbifclaa.P Go.Proofs.YtooabmmnbifclaaW.PrintWords Go.Proofs.YtooabmmnbifclaaW.PrintLast Go.Proofs.YtooabmmnbifclaaW.PrintMore
theorem w64 {x : Int} (h0 : -9223372036854775808 ≤ x) (h1 : x < 9223372036854775808) : wrap64 x = x := by unfold wrap64; omega
theorem mul_bd {a b A B : Int} (ha : 0 ≤ a) (hA : a ≤ A) (hb : 0 ≤ b) (hB : b ≤ B) : 0 ≤ a * b ∧ a * b ≤ A * B :=
  ⟨Int.mul_nonneg ha hb, Int.mul_le_mul hA hB hb (by omega)⟩
theorem in_f (a b c : Int) : impl_in.f a b c = some (decide (b ≤ a ∧ a ≤ c)) := by
  unfold impl_in.f
  by_cases h : a ≥ b
  · rw [if_pos h]; simp [show b ≤ a from h]
  · rw [if_neg h]; simp [show ¬ b ≤ a from h]
theorem l1In_f (a b c : Int) : spec_l1In.f a b c = some (decide (b ≤ a ∧ a ≤ c)) := by
  unfold spec_l1In.f
  by_cases h : a ≥ b
  · rw [if_pos h]; simp [show b ≤ a from h]
  · rw [if_neg h]; simp [show ¬ b ≤ a from h]
theorem and_two (p q : Prop) [Decidable p] [Decidable q] : (if decide p = true then some (decide q) else some false) = some (decide (p ∧ q)) := by
  by_cases hp : p <;> by_cases hq : q <;> simp [hp, hq]
theorem and_bind {α : Type} (p : Prop) [Decidable p] (x y : Option α) : (some (decide p)).bind (fun t => if t = true then x else y) = if p then x else y := by
  by_cases hp : p <;> simp [hp]
theorem mn_min (a b : Int) : mn a b = min a b := by unfold mn; omega
theorem mx_max (a b : Int) : mx a b = max a b := by unfold mx; omega
theorem tdiv_pos {a b : Int} (h : 0 ≤ a) : Int.tdiv a b = a / b := Int.tdiv_eq_ediv_of_nonneg h
theorem tmod_pos {a b : Int} (h : 0 ≤ a) : Int.tmod a b = a % b := Int.tmod_eq_emod_of_nonneg h
theorem wf64 {x : Int} (h : (Lit.int .i64 x).wf = true) : -9223372036854775808 ≤ x ∧ x < 9223372036854775808 := by
  simp [Lit.wf, IntKind.min, IntKind.max, IntKind.bits, IntKind.signed] at h
  omega
end Go.Proofs.Ytooabmmnbifclaa.Base
/- Runs that end, whatever the number of rounds from some number on; loops over a row. No condition. -/
namespace Go.Proofs.Ytooabmmnbifclaa.Gen
open Go.RowKit Go.Proofs.YtooabmmnbifclaaW.PrintWords Go.Proofs.YtooabmmnbifclaaW.PrintLast

/-- From some number of rounds on the run ends in one answer, and the answer is good. -/
def Tot {α : Type} (g : Nat → Option α) (P : α → Prop) : Prop := ∃ r, Ev g r ∧ P r
theorem Tot.ret {α : Type} {P : α → Prop} (a : α) (h : P a) : Tot (fun _ => some a) P := ⟨a, Ev.now a, h⟩
theorem Tot.of_eq {α : Type} {P : α → Prop} {g : Nat → Option α} {a : α} (e : ∀ k, g k = some a) (h : P a) : Tot g P := ⟨a, ⟨0, fun k _ => e k⟩, h⟩
theorem Tot.mono {α : Type} {P Q : α → Prop} {g : Nat → Option α} (h : Tot g P) (hpq : ∀ a, P a → Q a) : Tot g Q := by
  obtain ⟨r, h1, h2⟩ := h
  exact ⟨r, h1, hpq r h2⟩
theorem Tot.congr {α : Type} {P : α → Prop} {g f : Nat → Option α} (e : ∀ k, g k = f k) (h : Tot f P) : Tot g P := by
  have : g = f := funext e
  rw [this]; exact h
theorem Tot.step {α : Type} {P : α → Prop} {g f : Nat → Option α} (e : ∀ k, g (k + 1) = f k) (h : Tot f P) : Tot g P := by
  obtain ⟨r, h1, h2⟩ := h
  exact ⟨r, Ev.step e h1, h2⟩
theorem Tot.bind {α β : Type} {P : α → Prop} {Q : β → Prop} {g : Nat → Option α} {f : Nat → α → Option β} (h : Tot g P) (hf : ∀ a, P a → Tot (fun k => f k a) Q) : Tot (fun k => (g k).bind (f k)) Q := by
  obtain ⟨r, h1, h2⟩ := h
  obtain ⟨q, h3, h4⟩ := hf r h2
  exact ⟨q, Ev.bind h1 h3, h4⟩
/-- A call without rounds. -/
theorem Tot.bind0 {α β : Type} {Q : β → Prop} {g : Option α} {f : Nat → α → Option β} {a : α} (h : g = some a) (hf : Tot (fun k => f k a) Q) : Tot (fun k => g.bind (f k)) Q := by
  subst h; exact hf
theorem Tot.yes {α : Type} {P : α → Prop} {c : Prop} [Decidable c] {g f : Nat → Option α} (hc : c) (h : Tot g P) : Tot (fun k => if c then g k else f k) P := by
  simp only [if_pos hc]; exact h
theorem Tot.no {α : Type} {P : α → Prop} {c : Prop} [Decidable c] {g f : Nat → Option α} (hc : ¬ c) (h : Tot f P) : Tot (fun k => if c then g k else f k) P := by
  simp only [if_neg hc]; exact h
theorem Tot.ite {α : Type} {P : α → Prop} {c : Prop} [Decidable c] {g f : Nat → Option α} (h1 : c → Tot g P) (h2 : ¬ c → Tot f P) : Tot (fun k => if c then g k else f k) P := by
  by_cases hc : c
  · exact Tot.yes hc (h1 hc)
  · exact Tot.no hc (h2 hc)
theorem Tot.rounds {g : Nat → Option Bool} (h : Tot g (fun r => r = true)) : ∃ k, g k = some true := by
  obtain ⟨r, h1, rfl⟩ := h
  exact h1.rounds
theorem Tot.rounds0 {g : Option Bool} (h : Tot (fun _ => g) (fun r => r = true)) : g = some true := by
  obtain ⟨k, hk⟩ := h.rounds
  exact hk
/-- What a run answers, and how it was found. -/
theorem Tot.val {α : Type} {g : Nat → Option α} {a : α} (h : Ev g a) : Tot g (fun r => r = a) := ⟨a, h, rfl⟩
theorem Tot.ev {α : Type} {g : Nat → Option α} {a : α} (h : Tot g (fun r => r = a)) : Ev g a := by
  obtain ⟨r, h1, rfl⟩ := h
  exact h1
/-- A loop with a counter: 'Inv i s' at the head of round i, n rounds. -/
theorem Tot.loop {σ ρ : Type} {P : ρ → Prop} (F : Nat → Nat → σ → Option ρ) (n : Nat) (Inv : Nat → σ → Prop)
    (hstep : ∀ i s, i < n → Inv i s → (∀ s', Inv (i + 1) s' → Tot (fun k => F k (i + 1) s') P) → Tot (fun k => F k i s) P)
    (hend : ∀ s, Inv n s → Tot (fun k => F k n s) P) : ∀ i s, i ≤ n → Inv i s → Tot (fun k => F k i s) P := by
  have key : ∀ d i s, i + d = n → Inv i s → Tot (fun k => F k i s) P := by
    intro d
    induction d with
    | zero => intro i s hi h; obtain rfl : i = n := by omega
              exact hend s h
    | succ d ih => intro i s hi h; exact hstep i s (by omega) h (fun s' hs' => ih (i + 1) s' (by omega) hs')
  intro i s hi h
  exact key (n - i) i s (by omega) h
/-- A loop with a measure. -/
theorem Tot.meas {σ ρ : Type} {P : ρ → Prop} (F : Nat → σ → Option ρ) (Inv : σ → Prop) (m : σ → Nat)
    (hstep : ∀ s, Inv s → (∀ s', Inv s' → m s' < m s → Tot (fun k => F k s') P) → Tot (fun k => F k s) P) : ∀ s, Inv s → Tot (fun k => F k s) P := by
  have key : ∀ d s, m s < d → Inv s → Tot (fun k => F k s) P := by
    intro d
    induction d with
    | zero => intro s hd; omega
    | succ d ih => intro s hd h; exact hstep s h (fun s' hs' hm => ih s' (by omega) hs')
  intro s h
  exact key (m s + 1) s (by omega) h
theorem rdOf_at {α : Type} (d : α) (xs : List α) (i : Nat) (h : i < xs.length) : rdOf d xs (i : Int) = xs[i] := by
  unfold rdOf
  rw [List.getD_eq_getElem?_getD, Int.toNat_natCast, List.getElem?_eq_getElem h]
  rfl
theorem rd_at (xs : List Int) (i : Nat) (h : i < xs.length) : rd xs (i : Int) = xs[i] := by
  unfold rd
  rw [List.getD_eq_getElem?_getD, Int.toNat_natCast, List.getElem?_eq_getElem h]
  rfl
/-- A row that is filled from the left, element by element. -/
theorem fill_step {β : Type} (acc tgt : List β) (i : Nat) (hl : acc.length = tgt.length) (h : acc.take i = tgt.take i) (hi : i < tgt.length) : (acc.set i tgt[i]).take (i + 1) = tgt.take (i + 1) := by
  rw [List.take_succ_eq_append_getElem (by simpa [hl] using hi), List.take_succ_eq_append_getElem hi]
  rw [List.take_set_of_le (Nat.le_refl i), h]
  simp
/-- A copy: 'out[i] = c(a[i])' from 0 on. -/
theorem Tot.copy {β : Type} (F : Nat → List β → Int → Option (List β)) (tgt : List β) (z : β)
    (hstep : ∀ k acc (i : Nat) (h : i < tgt.length), acc.length = tgt.length → F (k + 1) acc (i : Int) = F k (acc.set i tgt[i]) ((i : Int) + 1))
    (hend : ∀ k acc, acc.length = tgt.length → F (k + 1) acc (tgt.length : Int) = some acc) : Tot (fun k => F k (List.replicate tgt.length z) 0) (fun r => r = tgt) := by
  have key : ∀ d (i : Nat) acc, i + d = tgt.length → acc.length = tgt.length → acc.take i = tgt.take i → Tot (fun k => F k acc (i : Int)) (fun r => r = tgt) := by
    intro d
    induction d with
    | zero =>
      intro i acc hi hl ht
      obtain rfl : i = tgt.length := by omega
      refine Tot.step (f := fun _ => some acc) (fun k => hend k acc hl) (Tot.ret _ ?_)
      rw [List.take_length, ← hl, List.take_length] at ht
      exact ht
    | succ d ih =>
      intro i acc hi hl ht
      have hlt : i < tgt.length := by omega
      refine Tot.step (fun k => hstep k acc i hlt hl) ?_
      have := ih (i + 1) (acc.set i tgt[i]) (by omega) (by simpa using hl) (fill_step acc tgt i hl ht hlt)
      simpa using this
  simpa using key tgt.length 0 (List.replicate tgt.length z) (by omega) (by simp) (by simp)
/-- A walk that only looks. -/
theorem Tot.look {ρ : Type} {r : ρ} (F : Nat → Int → Option ρ) (n : Nat) (hstep : ∀ k (i : Nat), i < n → F (k + 1) (i : Int) = F k ((i : Int) + 1)) (hend : ∀ k, F (k + 1) (n : Int) = some r) : Tot (fun k => F k 0) (fun q => q = r) := by
  have key : ∀ d (i : Nat), i + d = n → Tot (fun k => F k (i : Int)) (fun q => q = r) := by
    intro d
    induction d with
    | zero => intro i hi; obtain rfl : i = n := by omega
              exact Tot.step (f := fun _ => some r) (fun k => hend k) (Tot.ret _ rfl)
    | succ d ih => intro i hi; exact Tot.step (fun k => hstep k i (by omega)) (by simpa using ih (i + 1) (by omega))
  simpa using key n 0 (by omega)
/-- 'append' in a loop, element by element. -/
theorem Tot.collect {β : Type} (F : Nat → List β → Int → Option (List β)) (tgt : List β)
    (hstep : ∀ k (i : Nat) (h : i < tgt.length), F (k + 1) (tgt.take i) (i : Int) = F k (tgt.take i ++ [tgt[i]]) ((i : Int) + 1))
    (hend : ∀ k, F (k + 1) tgt (tgt.length : Int) = some tgt) : Tot (fun k => F k [] 0) (fun r => r = tgt) := by
  have key : ∀ d (i : Nat), i + d = tgt.length → Tot (fun k => F k (tgt.take i) (i : Int)) (fun r => r = tgt) := by
    intro d
    induction d with
    | zero =>
      intro i hi
      obtain rfl : i = tgt.length := by omega
      rw [List.take_length]
      exact Tot.step (f := fun _ => some tgt) (fun k => hend k) (Tot.ret _ rfl)
    | succ d ih =>
      intro i hi
      have hlt : i < tgt.length := by omega
      refine Tot.step (fun k => hstep k i hlt) ?_
      rw [← List.take_succ_eq_append_getElem hlt]
      simpa using ih (i + 1) (by omega)
  simpa using key tgt.length 0 (by omega)
end Go.Proofs.Ytooabmmnbifclaa.Gen
/- The reader of a code: what a pick tells. Conditions: the code's bytes are bytes, at most 2000 of them; the place is small. -/
namespace Go.Proofs.Ytooabmmnbifclaa.Pb
open Go.RowKit Go.Proofs.Ytooabmmnbifclaa.P Go.Proofs.Ytooabmmnbifclaa.Gen Go.Proofs.Ytooabmmnbifclaa.Base Go.Proofs.YtooabmmnbifclaaW.PrintWords Go.Proofs.YtooabmmnbifclaaW.PrintLast

theorem xor_ok (x y : Int) (hx : 0 ≤ x) (hx1 : x < 4611686018427387904) (hy : 0 ≤ y) (hy1 : y < 4611686018427387904) : 0 ≤ Go.bits .xor .i64 x y := by
  obtain ⟨a, rfl⟩ := Int.eq_ofNat_of_zero_le hx
  obtain ⟨b, rfl⟩ := Int.eq_ofNat_of_zero_le hy
  have ha : a < 2 ^ 62 := by have e : (2 : Nat) ^ 62 = 4611686018427387904 := by decide
                             omega
  have hb : b < 2 ^ 62 := by have e : (2 : Nat) ^ 62 = 4611686018427387904 := by decide
                             omega
  have ha' : a % 2 ^ 64 = a := Nat.mod_eq_of_lt (by omega)
  have hb' : b % 2 ^ 64 = b := Nat.mod_eq_of_lt (by omega)
  have hx := Nat.xor_lt_two_pow ha hb
  simp only [Go.bits]
  rw [show IntKind.i64.bits = 64 from rfl]
  rw [BitVec.toNat_xor, BitVec.ofInt_natCast, BitVec.ofInt_natCast, BitVec.toNat_ofNat, BitVec.toNat_ofNat, ha', hb', IntKind.wrap_i64]
  have e : (2 : Nat) ^ 62 = 4611686018427387904 := by decide
  omega
/-- The bytes of a code. -/
def Bytes (s : List Int) : Prop := s.length ≤ 2000 ∧ ∀ x ∈ s, 0 ≤ x ∧ x ≤ 255
theorem Bytes.rd {s : List Int} (h : Bytes s) (i : Int) : 0 ≤ rd s i ∧ rd s i ≤ 255 := by
  unfold Go.Proofs.YtooabmmnbifclaaW.PrintWords.rd
  rw [List.getD_eq_getElem?_getD]
  rcases Nat.lt_or_ge i.toNat s.length with hi | hi
  · rw [List.getElem?_eq_getElem hi]
    exact h.2 _ (List.getElem_mem hi)
  · rw [List.getElem?_eq_none hi]
    simp
theorem u8_wf {x : Int} (h : (Lit.int .u8 x).wf = true) : 0 ≤ x ∧ x ≤ 255 := by
  simp [Lit.wf, IntKind.min, IntKind.max, IntKind.bits, IntKind.signed] at h
  omega
theorem tmod_ok (a n : Int) (ha : 0 ≤ a) (hn : 1 ≤ n) : 0 ≤ Int.tmod a n ∧ Int.tmod a n < n := by
  rw [Int.tmod_eq_emod_of_nonneg ha]
  exact ⟨Int.emod_nonneg _ (by omega), Int.emod_lt_of_pos _ (by omega)⟩
theorem tdiv_ok (a n : Int) (ha : 0 ≤ a) (hn : 1 ≤ n) : 0 ≤ Int.tdiv a n ∧ Int.tdiv a n ≤ a := by
  rw [Int.tdiv_eq_ediv_of_nonneg ha]
  exact ⟨Int.ediv_nonneg ha (by omega), Int.ediv_le_self _ ha⟩
/-- One pick: at every number of rounds but 0. -/
theorem pick_at (k : Nat) (s : List Int) (p n : Int) (hs : Bytes s) (hp : 0 ≤ p) (hp2 : p ≤ 1000000000) :
    ∃ r, spec_l20Rd_pick.f (k + 1) s p n = some (r, p + 1) ∧ 0 ≤ r ∧ (1 ≤ n → r < n) := by
  unfold spec_l20Rd_pick.f
  rw [w64 (x := p + 1) (by omega) (by omega)]
  by_cases hn : n < 1
  · rw [if_pos hn]
    exact ⟨0, by simp [spec_l20Rd_pick.j0], Int.le_refl _, fun h => by omega⟩
  · rw [if_neg hn]
    by_cases h0 : (s.length : Int) = 0
    · refine ⟨0, ?_, Int.le_refl _, fun h => by omega⟩
      simp only [spec_l20Rd_pick.j0]
      rw [if_pos (by simpa using h0)]
    · simp only [spec_l20Rd_pick.j0]
      rw [if_neg (by simpa using h0)]
      have hl := hs.1
      rw [w64 (x := p + 1 - 1) (by omega) (by omega), show p + 1 - 1 = p by omega]
      by_cases h1 : p < (s.length : Int)
      · have hb := hs.rd p
        rw [if_pos h1, if_pos hp, if_neg (by omega), w64 (x := rd s p) (by omega) (by omega)]
        have ht := tmod_ok (rd s p) n hb.1 (by omega)
        exact ⟨_, rfl, ht.1, fun _ => ht.2⟩
      · rw [if_neg h1, if_neg h0]
        have m0 := tmod_ok p (s.length : Int) hp (by omega)
        rw [if_pos m0.1, if_pos m0.2]
        rw [w64 (x := p * 7) (by omega) (by omega), w64 (x := p * 7 + 3) (by omega) (by omega)]
        have m1 := tmod_ok (p * 7 + 3) (s.length : Int) (by omega) (by omega)
        rw [if_pos m1.1, if_pos m1.2, if_neg (by omega)]
        have b0 := hs.rd (Int.tmod p (s.length : Int))
        have b1 := hs.rd (Int.tmod (p * 7 + 3) (s.length : Int))
        have d0 := tdiv_ok p (s.length : Int) hp (by omega)
        generalize rd s (Int.tmod p (s.length : Int)) = x at b0 ⊢
        generalize rd s (Int.tmod (p * 7 + 3) (s.length : Int)) = y at b1 ⊢
        generalize Int.tdiv p (s.length : Int) = q at d0 ⊢
        rw [w64 (x := x) (by omega) (by omega), w64 (x := y) (by omega) (by omega), w64 (x := q) (by omega) (by omega)]
        rw [w64 (x := x * 131) (by omega) (by omega), w64 (x := y * 1117) (by omega) (by omega), w64 (x := p * 29) (by omega) (by omega), w64 (x := q * 53) (by omega) (by omega)]
        rw [w64 (x := x * 131 + y * 1117) (by omega) (by omega), w64 (x := x * 131 + y * 1117 + p * 29) (by omega) (by omega), w64 (x := x * 131 + y * 1117 + p * 29 + q * 53) (by omega) (by omega)]
        have e0 := tdiv_ok (x * 131 + y * 1117 + p * 29 + q * 53) 64 (by omega) (by omega)
        rw [w64 (x := Int.tdiv (x * 131 + y * 1117 + p * 29 + q * 53) 64) (by omega) (by omega)]
        have hx := xor_ok (x * 131 + y * 1117 + p * 29 + q * 53) (Int.tdiv (x * 131 + y * 1117 + p * 29 + q * 53) 64) (by omega) (by omega) e0.1 (by omega)
        have ht := tmod_ok _ n hx (by omega)
        exact ⟨_, rfl, ht.1, fun _ => ht.2⟩
theorem odd_at (k : Nat) (s : List Int) (p n : Int) (hs : Bytes s) (hp : 0 ≤ p) (hp2 : p ≤ 1000000000) :
    ∃ b q, spec_l20Rd_odd.f (k + 1) s p n = some (b, q) ∧ p ≤ q ∧ q ≤ p + 1 := by
  unfold spec_l20Rd_odd.f
  by_cases hn : n > 0
  · rw [if_pos hn]
    obtain ⟨r, hr, _⟩ := pick_at k s p n hs hp hp2
    rw [hr]
    exact ⟨_, _, rfl, by show p ≤ p + 1; omega, Int.le_refl _⟩
  · rw [if_neg hn]
    exact ⟨_, _, rfl, by omega, by omega⟩
theorem open_at (l : List Int) (hl : ∀ x ∈ l, (Lit.int .u8 x).wf = true) : ∃ s, spec_l20Open.f l = some (s, 0) ∧ Bytes s := by
  unfold spec_l20Open.f
  by_cases h : (l.length : Int) > 2000
  · rw [if_pos h, if_pos (by omega)]
    exact ⟨_, rfl, by rw [List.length_take]; omega, fun x hx => u8_wf (hl x (List.mem_of_mem_take hx))⟩
  · rw [if_neg h]
    exact ⟨_, rfl, by omega, fun x hx => u8_wf (hl x hx)⟩
/-- A place of the reader that is small. -/
def At (p q : Int) (c : Int) : Prop := p ≤ q ∧ q ≤ p + c
theorem pick_tot (s : List Int) (p n : Int) (hs : Bytes s) (hp : 0 ≤ p) (hp2 : p ≤ 1000000000) : Tot (fun k => spec_l20Rd_pick.f k s p n) (fun r => r.2 = p + 1 ∧ 0 ≤ r.1 ∧ (1 ≤ n → r.1 < n)) := by
  obtain ⟨r, hr, h0, h1⟩ := pick_at 0 s p n hs hp hp2
  refine ⟨(r, p + 1), ⟨1, fun k hk => ?_⟩, rfl, h0, h1⟩
  obtain ⟨j, rfl⟩ : ∃ j, k = j + 1 := ⟨k - 1, by omega⟩
  obtain ⟨r', hr', h0', h1'⟩ := pick_at j s p n hs hp hp2
  have hm := at_rounds (g := fun k => spec_l20Rd_pick.f k s p n) (fun k => spec_l20Rd_pick.mono _ _ _ k) (show 1 ≤ j + 1 by omega) hr
  exact hm
theorem odd_tot (s : List Int) (p n : Int) (hs : Bytes s) (hp : 0 ≤ p) (hp2 : p ≤ 1000000000) : Tot (fun k => spec_l20Rd_odd.f k s p n) (fun r => p ≤ r.2 ∧ r.2 ≤ p + 1) := by
  unfold spec_l20Rd_odd.f
  refine Tot.ite (fun _ => ?_) (fun _ => Tot.ret _ ⟨Int.le_refl _, by omega⟩)
  refine Tot.bind (pick_tot s p n hs hp hp2) ?_
  rintro ⟨a, q⟩ ⟨rfl, _, _⟩
  exact Tot.ret _ ⟨by show p ≤ p + 1; omega, Int.le_refl _⟩
theorem open_tot {β : Type} {Q : β → Prop} (l : List Int) (hl : ∀ x ∈ l, (Lit.int .u8 x).wf = true) {f : Nat → List Int × Int → Option β} (hf : ∀ s, Bytes s → Tot (fun k => f k (s, 0)) Q) : Tot (fun k => (spec_l20Open.f l).bind (f k)) Q := by
  obtain ⟨s, hs, hb⟩ := open_at l hl
  exact Tot.bind0 hs (hf s hb)
theorem some_bind {α β : Type} {Q : β → Prop} (a : α) {f : Nat → α → Option β} (h : Tot (fun k => f k a) Q) : Tot (fun k => (some a).bind (f k)) Q := h
theorem rd_mem {xs : List Int} {i : Int} (h0 : 0 ≤ i) (h1 : i < (xs.length : Int)) : rd xs i ∈ xs := by
  unfold Go.Proofs.YtooabmmnbifclaaW.PrintWords.rd
  have : i.toNat < xs.length := by omega
  rw [List.getD_eq_getElem?_getD, List.getElem?_eq_getElem this]
  exact List.getElem_mem this
end Go.Proofs.Ytooabmmnbifclaa.Pb
-- Laid by a program of this work.
namespace Go.Proofs.Ytooabmmnbifclaa.P
open Go.RowKit Go.Proofs.YtooabmmnbifclaaW.PrintWords Go.Proofs.YtooabmmnbifclaaW.PrintLast Go.Proofs.YtooabmmnbifclaaW.PrintMore
attribute [local go_sem] max2_int min2_int max_two min_two max_three min_three max_four min_four   -- for this text's walks alone
set_option linter.unusedVariables false
set_option linter.unusedSimpArgs false

/-! ### spec_l22Bound: function 51 -/
def spec_l22Bound.f (a0_0 : Int) (a0_1 : Int) (a1 : Int) : Option (Int) := if a1 ≤ (wrap64 (2 * (wrap64 (a0_1 - a0_0)))) then (some (mx 0 (mn a0_0 (wrap64 (a1 - (wrap64 (2 * (wrap64 (a0_1 - a0_0))))))))) else (if a0_1 = 0 then (none) else (some (wrap64 ((wrap64 ((wrap64 (Int.tdiv (wrap64 (a1 - (wrap64 (a0_1 - a0_0)))) a0_1)) * a0_0)) + (mx 0 (mn a0_0 (wrap64 ((wrap64 ((wrap64 (a1 - (wrap64 (a0_1 - a0_0)))) - (wrap64 ((wrap64 (Int.tdiv (wrap64 (a1 - (wrap64 (a0_1 - a0_0)))) a0_1)) * a0_1)))) - (wrap64 (a0_1 - a0_0))))))))))
set_option maxHeartbeats 8000000 in
set_option maxRecDepth 100000 in
theorem spec_l22Bound.calls (a0_0 : Int) (a0_1 : Int) (a1 : Int) (r : Int) (w : World) (h : spec_l22Bound.f a0_0 a0_1 a1 = some r) :
    Calls Try.prog 51 #[.agg #[.int .i64 a0_0, .int .i64 a0_1], .int .i64 a1] w fun e w' => e = .returned (.int .i64 r) ∧ Below w.heap.size w w' := by
  have hu37 := Try.underlying37
  have HB := Aside0.mk (Below.refl w.heap.size w)
  have H : (if a1 ≤ (wrap64 (2 * (wrap64 (a0_1 - a0_0)))) then (some (mx 0 (mn a0_0 (wrap64 (a1 - (wrap64 (2 * (wrap64 (a0_1 - a0_0))))))))) else (if a0_1 = 0 then (none) else (some (wrap64 ((wrap64 ((wrap64 (Int.tdiv (wrap64 (a1 - (wrap64 (a0_1 - a0_0)))) a0_1)) * a0_0)) + (mx 0 (mn a0_0 (wrap64 ((wrap64 ((wrap64 (a1 - (wrap64 (a0_1 - a0_0)))) - (wrap64 ((wrap64 (Int.tdiv (wrap64 (a1 - (wrap64 (a0_1 - a0_0)))) a0_1)) * a0_1)))) - (wrap64 (a0_1 - a0_0))))))))))) = some r := h
  clear h
  by_cases c3 : a1 ≤ (wrap64 (2 * (wrap64 (a0_1 - a0_0))))
  · rw [if_pos c3] at H
    have c3b0 : decide (a1 ≤ (wrap64 (2 * (wrap64 (a0_1 - a0_0))))) = true := decide_eq_true c3
    clear c3
    obtain ⟨ji4, hji4⟩ : ∃ j_ : Int, (mn a0_0 (wrap64 (a1 - (wrap64 (2 * (wrap64 (a0_1 - a0_0))))))) = j_ := ⟨_, rfl⟩
    replace H : (some (mx 0 (ji4))) = some r := by first | (rw [hji4] at H; exact H) | (simp only [hji4] at H ⊢; exact H)
    have hji4_ : (if (wrap64 (a1 - (wrap64 (2 * (wrap64 (a0_1 - a0_0)))))) < a0_0 then (wrap64 (a1 - (wrap64 (2 * (wrap64 (a0_1 - a0_0)))))) else a0_0) = ji4 := hji4
    obtain ⟨ji5, hji5⟩ : ∃ j_ : Int, (mx 0 (ji4)) = j_ := ⟨_, rfl⟩
    replace H : (some ji5) = some r := by first | (rw [hji5] at H; exact H) | (simp only [hji5] at H ⊢; exact H)
    have hji5_ : (if 0 < (ji4) then (ji4) else 0) = ji5 := hji5
    obtain rfl := Option.some.inj H
    go_enter Try.func51, Try.ntmps51
    go_wp2_with (first | ((with_reducible refine gate_dst (N := 2) rfl ?_); refine box_event ?hg (N := 2) ?hd (cs := #[.int .i64 a0_0, .int .i64 a0_1]) (t := 37) ?hr ?_; (case hd => rfl); (case hg => rfl); (case hr => first | (go_simp; done) | (go_simp; rfl)); intro gb220 hg w6 hbox hb; have n0_ := Aside0.mk (below_step (by repeat (first | (with_reducible first | exact HB.out | apply below_alloc | apply pw_below_drewN | apply below_drew1) | exact HB.out)) hb); have n1_ := Aside0.mk (hbox); have n2_ := Aside0.mk ((by rw [hg]; exact (below_size (by repeat (first | (with_reducible first | exact HB.out | apply below_alloc | apply pw_below_drewN | apply below_drew1) | exact HB.out))) : w.heap.size ≤ gb220)); have n3_ := Aside0.mk ((by rw [hg]; exact (below_size (by repeat (first | (with_reducible first | exact HB.out | apply below_alloc | apply pw_below_drewN | apply below_drew1) | exact HB.out))) : w.heap.size ≤ gb220)); clear HB; have HB := n0_; have BK220 := n1_; have GW220 := n2_; have GE220 := n3_; clear n0_ n1_ n2_ n3_; clear hb hbox hg; have hcz7_0 : w6.cell? ⟨gb220, 0, none⟩ = some (.int .i64 a0_0) := (blk_cell BK220.out 0).trans rfl; have hcz7_1 : w6.cell? ⟨gb220, 1, none⟩ = some (.int .i64 a0_1) := (blk_cell BK220.out 1).trans rfl; have hfz7_0 := blk_frozen BK220.out 0; have hfz7_1 := blk_frozen BK220.out 1))
    go_ret
    exact ⟨by first | rfl | (simp [errW_none, errW_some] <;> rfl) | (simp only [← hji4, ← hji5]; first | rfl | (simp [errW_none, errW_some] <;> rfl)) | (simp [*, errW_none, errW_some] <;> rfl), by repeat (first | (with_reducible first | exact HB.out | apply below_alloc | apply pw_below_drewN | apply below_drew1 | refine below_set ?_ GE220.out) | exact HB.out)⟩
  · rw [if_neg c3] at H
    have c3b0 : decide (a1 ≤ (wrap64 (2 * (wrap64 (a0_1 - a0_0))))) = false := decide_eq_false c3
    clear c3
    by_cases c8 : a0_1 = 0
    · rw [if_pos c8] at H
      exact absurd H (by simp)
    · rw [if_neg c8] at H
      have c8b0 : (a0_1 == 0) = false := beq_eq_false_iff_ne.mpr c8
      have c8b1 : (a0_1 != 0) = true := bne_iff_ne.mpr c8
      obtain ⟨ji9, hji9⟩ : ∃ j_ : Int, (mn a0_0 (wrap64 ((wrap64 ((wrap64 (a1 - (wrap64 (a0_1 - a0_0)))) - (wrap64 ((wrap64 (Int.tdiv (wrap64 (a1 - (wrap64 (a0_1 - a0_0)))) a0_1)) * a0_1)))) - (wrap64 (a0_1 - a0_0))))) = j_ := ⟨_, rfl⟩
      replace H : (some (wrap64 ((wrap64 ((wrap64 (Int.tdiv (wrap64 (a1 - (wrap64 (a0_1 - a0_0)))) a0_1)) * a0_0)) + (mx 0 (ji9))))) = some r := by first | (rw [hji9] at H; exact H) | (simp only [hji9] at H ⊢; exact H)
      have hji9_ : (if (wrap64 ((wrap64 ((wrap64 (a1 - (wrap64 (a0_1 - a0_0)))) - (wrap64 ((wrap64 (Int.tdiv (wrap64 (a1 - (wrap64 (a0_1 - a0_0)))) a0_1)) * a0_1)))) - (wrap64 (a0_1 - a0_0)))) < a0_0 then (wrap64 ((wrap64 ((wrap64 (a1 - (wrap64 (a0_1 - a0_0)))) - (wrap64 ((wrap64 (Int.tdiv (wrap64 (a1 - (wrap64 (a0_1 - a0_0)))) a0_1)) * a0_1)))) - (wrap64 (a0_1 - a0_0)))) else a0_0) = ji9 := hji9
      obtain ⟨ji10, hji10⟩ : ∃ j_ : Int, (mx 0 (ji9)) = j_ := ⟨_, rfl⟩
      replace H : (some (wrap64 ((wrap64 ((wrap64 (Int.tdiv (wrap64 (a1 - (wrap64 (a0_1 - a0_0)))) a0_1)) * a0_0)) + (ji10)))) = some r := by first | (rw [hji10] at H; exact H) | (simp only [hji10] at H ⊢; exact H)
      have hji10_ : (if 0 < (ji9) then (ji9) else 0) = ji10 := hji10
      obtain rfl := Option.some.inj H
      go_enter Try.func51, Try.ntmps51
      go_wp2_with (first | ((with_reducible refine gate_dst (N := 2) rfl ?_); refine box_event ?hg (N := 2) ?hd (cs := #[.int .i64 a0_0, .int .i64 a0_1]) (t := 37) ?hr ?_; (case hd => rfl); (case hg => rfl); (case hr => first | (go_simp; done) | (go_simp; rfl)); intro gb220 hg w11 hbox hb; have n0_ := Aside0.mk (below_step (by repeat (first | (with_reducible first | exact HB.out | apply below_alloc | apply pw_below_drewN | apply below_drew1) | exact HB.out)) hb); have n1_ := Aside0.mk (hbox); have n2_ := Aside0.mk ((by rw [hg]; exact (below_size (by repeat (first | (with_reducible first | exact HB.out | apply below_alloc | apply pw_below_drewN | apply below_drew1) | exact HB.out))) : w.heap.size ≤ gb220)); have n3_ := Aside0.mk ((by rw [hg]; exact (below_size (by repeat (first | (with_reducible first | exact HB.out | apply below_alloc | apply pw_below_drewN | apply below_drew1) | exact HB.out))) : w.heap.size ≤ gb220)); clear HB; have HB := n0_; have BK220 := n1_; have GW220 := n2_; have GE220 := n3_; clear n0_ n1_ n2_ n3_; clear hb hbox hg; have hcz12_0 : w11.cell? ⟨gb220, 0, none⟩ = some (.int .i64 a0_0) := (blk_cell BK220.out 0).trans rfl; have hcz12_1 : w11.cell? ⟨gb220, 1, none⟩ = some (.int .i64 a0_1) := (blk_cell BK220.out 1).trans rfl; have hfz12_0 := blk_frozen BK220.out 0; have hfz12_1 := blk_frozen BK220.out 1))
      go_ret
      exact ⟨by first | rfl | (simp [errW_none, errW_some] <;> rfl) | (simp only [← hji9, ← hji10]; first | rfl | (simp [errW_none, errW_some] <;> rfl)) | (simp [*, errW_none, errW_some] <;> rfl), by repeat (first | (with_reducible first | exact HB.out | apply below_alloc | apply pw_below_drewN | apply below_drew1 | refine below_set ?_ GE220.out) | exact HB.out)⟩

end Go.Proofs.Ytooabmmnbifclaa.P
-- Laid by a program of this work.
namespace Go.Proofs.Ytooabmmnbifclaa.P
open Go.RowKit Go.Proofs.YtooabmmnbifclaaW.PrintWords Go.Proofs.YtooabmmnbifclaaW.PrintLast Go.Proofs.YtooabmmnbifclaaW.PrintMore
attribute [local go_sem] max2_int min2_int max_two min_two max_three min_three max_four min_four   -- for this text's walks alone
set_option linter.unusedVariables false
set_option linter.unusedSimpArgs false

/-! ### spec_SupplyBound: function 33 -/
def spec_SupplyBound.f (a0_0 : Int) (a0_1 : Int) (a1 : Int) : Option (Int) := (spec_SupplyValid.f a0_0 a0_1).bind fun t222 => (if t222 = true then ((spec_l1In.f a1 0 100000).bind fun t223 => (if t223 = true then ((spec_l22Bound.f a0_0 a0_1 a1).bind fun t224 => (some t224)) else (some (-1)))) else (some (-1)))
set_option maxHeartbeats 8000000 in
set_option maxRecDepth 100000 in
theorem spec_SupplyBound.calls (a0_0 : Int) (a0_1 : Int) (a1 : Int) (r : Int) (w : World) (h : spec_SupplyBound.f a0_0 a0_1 a1 = some r) :
    Calls Try.prog 33 #[.agg #[.int .i64 a0_0, .int .i64 a0_1], .int .i64 a1] w fun e w' => e = .returned (.int .i64 r) ∧ Below w.heap.size w w' := by
  have hu37 := Try.underlying37
  have HB := Aside0.mk (Below.refl w.heap.size w)
  have H : ((spec_SupplyValid.f a0_0 a0_1).bind fun t222 => (if t222 = true then ((spec_l1In.f a1 0 100000).bind fun t223 => (if t223 = true then ((spec_l22Bound.f a0_0 a0_1 a1).bind fun t224 => (some t224)) else (some (-1)))) else (some (-1)))) = some r := h
  clear h
  replace H := Option.bind_eq_some_iff.mp H
  obtain ⟨t222, A30, H⟩ := H
  replace H : (if t222 = true then ((spec_l1In.f a1 0 100000).bind fun t223 => (if t223 = true then ((spec_l22Bound.f a0_0 a0_1 a1).bind fun t224 => (some t224)) else (some (-1)))) else (some (-1))) = some r := H
  have A3 := Aside0.mk A30
  clear A30
  by_cases c4 : t222 = true
  · subst c4
    have H1 : ((spec_l1In.f a1 0 100000).bind fun t223 => (if t223 = true then ((spec_l22Bound.f a0_0 a0_1 a1).bind fun t224 => (some t224)) else (some (-1)))) = some r := by rw [if_pos rfl] at H; exact H
    clear H
    have H := H1
    clear H1
    replace H := Option.bind_eq_some_iff.mp H
    obtain ⟨t223, A50, H⟩ := H
    replace H : (if t223 = true then ((spec_l22Bound.f a0_0 a0_1 a1).bind fun t224 => (some t224)) else (some (-1))) = some r := H
    have A5 := Aside0.mk A50
    clear A50
    by_cases c6 : t223 = true
    · subst c6
      have H1 : ((spec_l22Bound.f a0_0 a0_1 a1).bind fun t224 => (some t224)) = some r := by rw [if_pos rfl] at H; exact H
      clear H
      have H := H1
      clear H1
      replace H := Option.bind_eq_some_iff.mp H
      obtain ⟨t224, A70, H⟩ := H
      replace H : (some t224) = some r := H
      have A7 := Aside0.mk A70
      clear A70
      obtain rfl := Option.some.inj H
      go_enter Try.func33, Try.ntmps33
      go_wp2_with (first | ((with_reducible refine gate_dst (N := 2) rfl ?_); refine box_event ?hg (N := 2) ?hd (cs := #[.int .i64 a0_0, .int .i64 a0_1]) (t := 37) ?hr ?_; (case hd => rfl); (case hg => rfl); (case hr => first | (go_simp; done) | (go_simp; rfl)); intro gb221 hg w8 hbox hb; have n0_ := Aside0.mk (below_step (by repeat (first | (with_reducible first | exact HB.out | apply below_alloc | apply pw_below_drewN | apply below_drew1) | exact HB.out)) hb); have n1_ := Aside0.mk (hbox); have n2_ := Aside0.mk ((by rw [hg]; exact (below_size (by repeat (first | (with_reducible first | exact HB.out | apply below_alloc | apply pw_below_drewN | apply below_drew1) | exact HB.out))) : w.heap.size ≤ gb221)); have n3_ := Aside0.mk ((by rw [hg]; exact (below_size (by repeat (first | (with_reducible first | exact HB.out | apply below_alloc | apply pw_below_drewN | apply below_drew1) | exact HB.out))) : w.heap.size ≤ gb221)); clear HB; have HB := n0_; have BK221 := n1_; have GW221 := n2_; have GE221 := n3_; clear n0_ n1_ n2_ n3_; clear hb hbox hg; have hcz9_0 : w8.cell? ⟨gb221, 0, none⟩ = some (.int .i64 a0_0) := (blk_cell BK221.out 0).trans rfl; have hcz9_1 : w8.cell? ⟨gb221, 1, none⟩ = some (.int .i64 a0_1) := (blk_cell BK221.out 1).trans rfl; have hfz9_0 := blk_frozen BK221.out 0; have hfz9_1 := blk_frozen BK221.out 1) | ((with_reducible refine gate_callee (f := 23) rfl ?_); refine goesL_ (some 6) rfl rfl Try.func23 (by kernel_rfl) rfl #[.agg #[.int .i64 a0_0, .int .i64 a0_1]] rfl (by (try simp only [List.map_toArray, List.map_cons, List.map_nil]); first | done | rfl | (simp only [List.length_drop, List.length_take]; rfl)) ?_; (with_reducible refine (spec_SupplyValid.calls a0_0 a0_1 true _ A3.out).mono ?_); rintro e w10 ⟨rfl, hb⟩; refine ⟨_, rfl, ?_⟩; have n0_ := Aside0.mk (blk_below (g := gb221) (o := .cells #[.int .i64 a0_0, .int .i64 a0_1] 37 (0, 0)) (by (with_reducible repeat (first | refine blk_drewN ?_ _ | refine blk_drew ?_ | refine blk_alloc ?_ _)); exact BK221.out) hb); have n1_ := Aside0.mk (below_step (by repeat (first | (with_reducible first | exact HB.out | apply below_alloc | apply pw_below_drewN | apply below_drew1 | refine below_set ?_ GE221.out) | exact HB.out)) hb); clear BK221; clear HB; have BK221 := n0_; have HB := n1_; clear n0_ n1_; (try clear hb); (try clear hb2); (try clear hk); (try clear hi)) | (go_at_call 47; (with_reducible refine (spec_l1In.calls a1 0 100000 true _ A5.out).mono ?_); rintro e w' ⟨rfl, ⟨nd, rfl⟩⟩; have hcz11_0 : w10.cell? ⟨gb221, 0, none⟩ = some (.int .i64 a0_0) := (blk_cell BK221.out 0).trans rfl; have hcz11_1 : w10.cell? ⟨gb221, 1, none⟩ = some (.int .i64 a0_1) := (blk_cell BK221.out 1).trans rfl; have hfz11_0 := blk_frozen BK221.out 0; have hfz11_1 := blk_frozen BK221.out 1) | ((with_reducible refine gate_callee (f := 51) rfl ?_); refine goesL_ (some 15) rfl rfl Try.func51 (by kernel_rfl) rfl #[.agg #[.int .i64 a0_0, .int .i64 a0_1], .int .i64 a1] rfl (by (try simp only [List.map_toArray, List.map_cons, List.map_nil]); first | done | rfl | (simp only [List.length_drop, List.length_take]; rfl)) ?_; (with_reducible refine (spec_l22Bound.calls a0_0 a0_1 a1 t224 _ A7.out).mono ?_); rintro e w12 ⟨rfl, hb⟩; refine ⟨_, rfl, ?_⟩; have n0_ := Aside0.mk (blk_below (g := gb221) (o := .cells #[.int .i64 a0_0, .int .i64 a0_1] 37 (0, 0)) (by (with_reducible repeat (first | refine blk_drewN ?_ _ | refine blk_drew ?_ | refine blk_alloc ?_ _)); exact BK221.out) hb); have n1_ := Aside0.mk (below_step (by repeat (first | (with_reducible first | exact HB.out | apply below_alloc | apply pw_below_drewN | apply below_drew1 | refine below_set ?_ GE221.out) | exact HB.out)) hb); clear BK221; clear HB; have BK221 := n0_; have HB := n1_; clear n0_ n1_; (try clear hb); (try clear hb2); (try clear hk); (try clear hi)))
      go_ret
      exact ⟨by first | rfl | (simp [errW_none, errW_some] <;> rfl) | (simp [*, errW_none, errW_some] <;> rfl), by repeat (first | (with_reducible first | exact HB.out | apply below_alloc | apply pw_below_drewN | apply below_drew1 | refine below_set ?_ GE221.out) | exact HB.out)⟩
    · replace c6 := Bool.eq_false_iff.mpr c6
      subst c6
      have H1 : (some (-1)) = some r := by rw [if_neg (show ¬ (false = true) by decide)] at H; exact H
      clear H
      have H := H1
      clear H1
      obtain rfl := Option.some.inj H
      go_enter Try.func33, Try.ntmps33
      go_wp2_with (first | ((with_reducible refine gate_dst (N := 2) rfl ?_); refine box_event ?hg (N := 2) ?hd (cs := #[.int .i64 a0_0, .int .i64 a0_1]) (t := 37) ?hr ?_; (case hd => rfl); (case hg => rfl); (case hr => first | (go_simp; done) | (go_simp; rfl)); intro gb221 hg w13 hbox hb; have n0_ := Aside0.mk (below_step (by repeat (first | (with_reducible first | exact HB.out | apply below_alloc | apply pw_below_drewN | apply below_drew1) | exact HB.out)) hb); have n1_ := Aside0.mk (hbox); have n2_ := Aside0.mk ((by rw [hg]; exact (below_size (by repeat (first | (with_reducible first | exact HB.out | apply below_alloc | apply pw_below_drewN | apply below_drew1) | exact HB.out))) : w.heap.size ≤ gb221)); have n3_ := Aside0.mk ((by rw [hg]; exact (below_size (by repeat (first | (with_reducible first | exact HB.out | apply below_alloc | apply pw_below_drewN | apply below_drew1) | exact HB.out))) : w.heap.size ≤ gb221)); clear HB; have HB := n0_; have BK221 := n1_; have GW221 := n2_; have GE221 := n3_; clear n0_ n1_ n2_ n3_; clear hb hbox hg; have hcz14_0 : w13.cell? ⟨gb221, 0, none⟩ = some (.int .i64 a0_0) := (blk_cell BK221.out 0).trans rfl; have hcz14_1 : w13.cell? ⟨gb221, 1, none⟩ = some (.int .i64 a0_1) := (blk_cell BK221.out 1).trans rfl; have hfz14_0 := blk_frozen BK221.out 0; have hfz14_1 := blk_frozen BK221.out 1) | ((with_reducible refine gate_callee (f := 23) rfl ?_); refine goesL_ (some 6) rfl rfl Try.func23 (by kernel_rfl) rfl #[.agg #[.int .i64 a0_0, .int .i64 a0_1]] rfl (by (try simp only [List.map_toArray, List.map_cons, List.map_nil]); first | done | rfl | (simp only [List.length_drop, List.length_take]; rfl)) ?_; (with_reducible refine (spec_SupplyValid.calls a0_0 a0_1 true _ A3.out).mono ?_); rintro e w15 ⟨rfl, hb⟩; refine ⟨_, rfl, ?_⟩; have n0_ := Aside0.mk (blk_below (g := gb221) (o := .cells #[.int .i64 a0_0, .int .i64 a0_1] 37 (0, 0)) (by (with_reducible repeat (first | refine blk_drewN ?_ _ | refine blk_drew ?_ | refine blk_alloc ?_ _)); exact BK221.out) hb); have n1_ := Aside0.mk (below_step (by repeat (first | (with_reducible first | exact HB.out | apply below_alloc | apply pw_below_drewN | apply below_drew1 | refine below_set ?_ GE221.out) | exact HB.out)) hb); clear BK221; clear HB; have BK221 := n0_; have HB := n1_; clear n0_ n1_; (try clear hb); (try clear hb2); (try clear hk); (try clear hi)) | (go_at_call 47; (with_reducible refine (spec_l1In.calls a1 0 100000 false _ A5.out).mono ?_); rintro e w' ⟨rfl, ⟨nd, rfl⟩⟩))
      go_ret
      exact ⟨by first | rfl | (simp [errW_none, errW_some] <;> rfl) | (simp [*, errW_none, errW_some] <;> rfl), by repeat (first | (with_reducible first | exact HB.out | apply below_alloc | apply pw_below_drewN | apply below_drew1 | refine below_set ?_ GE221.out) | exact HB.out)⟩
  · replace c4 := Bool.eq_false_iff.mpr c4
    subst c4
    have H1 : (some (-1)) = some r := by rw [if_neg (show ¬ (false = true) by decide)] at H; exact H
    clear H
    have H := H1
    clear H1
    obtain rfl := Option.some.inj H
    go_enter Try.func33, Try.ntmps33
    go_wp2_with (first | ((with_reducible refine gate_dst (N := 2) rfl ?_); refine box_event ?hg (N := 2) ?hd (cs := #[.int .i64 a0_0, .int .i64 a0_1]) (t := 37) ?hr ?_; (case hd => rfl); (case hg => rfl); (case hr => first | (go_simp; done) | (go_simp; rfl)); intro gb221 hg w16 hbox hb; have n0_ := Aside0.mk (below_step (by repeat (first | (with_reducible first | exact HB.out | apply below_alloc | apply pw_below_drewN | apply below_drew1) | exact HB.out)) hb); have n1_ := Aside0.mk (hbox); have n2_ := Aside0.mk ((by rw [hg]; exact (below_size (by repeat (first | (with_reducible first | exact HB.out | apply below_alloc | apply pw_below_drewN | apply below_drew1) | exact HB.out))) : w.heap.size ≤ gb221)); have n3_ := Aside0.mk ((by rw [hg]; exact (below_size (by repeat (first | (with_reducible first | exact HB.out | apply below_alloc | apply pw_below_drewN | apply below_drew1) | exact HB.out))) : w.heap.size ≤ gb221)); clear HB; have HB := n0_; have BK221 := n1_; have GW221 := n2_; have GE221 := n3_; clear n0_ n1_ n2_ n3_; clear hb hbox hg; have hcz17_0 : w16.cell? ⟨gb221, 0, none⟩ = some (.int .i64 a0_0) := (blk_cell BK221.out 0).trans rfl; have hcz17_1 : w16.cell? ⟨gb221, 1, none⟩ = some (.int .i64 a0_1) := (blk_cell BK221.out 1).trans rfl; have hfz17_0 := blk_frozen BK221.out 0; have hfz17_1 := blk_frozen BK221.out 1) | ((with_reducible refine gate_callee (f := 23) rfl ?_); refine goesL_ (some 6) rfl rfl Try.func23 (by kernel_rfl) rfl #[.agg #[.int .i64 a0_0, .int .i64 a0_1]] rfl (by (try simp only [List.map_toArray, List.map_cons, List.map_nil]); first | done | rfl | (simp only [List.length_drop, List.length_take]; rfl)) ?_; (with_reducible refine (spec_SupplyValid.calls a0_0 a0_1 false _ A3.out).mono ?_); rintro e w18 ⟨rfl, hb⟩; refine ⟨_, rfl, ?_⟩; have n0_ := Aside0.mk (blk_below (g := gb221) (o := .cells #[.int .i64 a0_0, .int .i64 a0_1] 37 (0, 0)) (by (with_reducible repeat (first | refine blk_drewN ?_ _ | refine blk_drew ?_ | refine blk_alloc ?_ _)); exact BK221.out) hb); have n1_ := Aside0.mk (below_step (by repeat (first | (with_reducible first | exact HB.out | apply below_alloc | apply pw_below_drewN | apply below_drew1 | refine below_set ?_ GE221.out) | exact HB.out)) hb); clear BK221; clear HB; have BK221 := n0_; have HB := n1_; clear n0_ n1_; (try clear hb); (try clear hb2); (try clear hk); (try clear hi)))
    go_ret
    exact ⟨by first | rfl | (simp [errW_none, errW_some] <;> rfl) | (simp [*, errW_none, errW_some] <;> rfl), by repeat (first | (with_reducible first | exact HB.out | apply below_alloc | apply pw_below_drewN | apply below_drew1 | refine below_set ?_ GE221.out) | exact HB.out)⟩

end Go.Proofs.Ytooabmmnbifclaa.P
/- The functions of a periodic resource, each as a plain function. No condition. -/
namespace Go.Proofs.Ytooabmmnbifclaa.Sup
open Go.RowKit Go.Proofs.Ytooabmmnbifclaa.P Go.Proofs.Ytooabmmnbifclaa.Base Go.Proofs.YtooabmmnbifclaaW.PrintWords Go.Proofs.YtooabmmnbifclaaW.PrintLast
def SV (b p : Int) : Prop := 1 ≤ b ∧ b ≤ p ∧ p ≤ 12
instance (b p : Int) : Decidable (SV b p) := by unfold SV; infer_instance
theorem sv_f (b p : Int) : impl_SupplyValid.f b p = some (decide (SV b p)) := by
  unfold impl_SupplyValid.f
  rw [in_f]; simp only [Option.bind_some]
  rw [and_two]
  congr 1; rw [decide_eq_decide]; unfold SV; omega
theorem ssv_f (b p : Int) : spec_SupplyValid.f b p = some (decide (SV b p)) := by
  unfold spec_SupplyValid.f
  rw [l1In_f, l1In_f]; simp only [Option.bind_some]
  rw [and_two]
  congr 1; rw [decide_eq_decide]; unfold SV; omega
/-- The supply bound of a valid resource. -/
def sb (b p t : Int) : Int := if t - (p - b) < 0 then 0 else (t - (p - b)) / p * b + max 0 (min b (t - (p - b) - (t - (p - b)) / p * p - (p - b)))
theorem div_bd {x p : Int} (h0 : 0 ≤ x) (hp : 1 ≤ p) : 0 ≤ x / p ∧ x / p ≤ x ∧ x / p * p ≤ x ∧ x < x / p * p + p := by
  have h1 := Int.ediv_nonneg h0 (show 0 ≤ p by omega)
  have h2 := Int.ediv_le_self p h0
  have h3 := Int.mul_ediv_add_emod x p
  have h4 := Int.emod_nonneg x (show p ≠ 0 by omega)
  have h5 := Int.emod_lt_of_pos x (show 0 < p by omega)
  rw [Int.mul_comm] at h3
  omega
theorem bound_f {b p t : Int} (h : SV b p) (h0 : 0 ≤ t) (h1 : t ≤ 10000000) : impl_Supply_bound.f b p t = some (sb b p t) := by
  unfold SV at h
  unfold impl_Supply_bound.f sb
  rw [w64 (x := p - b) (by omega) (by omega), w64 (x := t - (p - b)) (by omega) (by omega)]
  by_cases hx : t - (p - b) < 0
  · rw [if_pos hx, if_pos hx]
  · rw [if_neg hx, if_neg hx, if_neg (by omega), tdiv_pos (by omega), mx_max, mn_min]
    have hd := div_bd (x := t - (p - b)) (p := p) (by omega) (by omega)
    have hxb : t - (p - b) ≤ 10000000 := by omega
    generalize t - (p - b) = x at *
    generalize x / p = k at *
    have hm := mul_bd (a := k) (b := b) (A := 10000000) (B := 12) (by omega) (by omega) (by omega) (by omega)
    rw [w64 (x := k) (by omega) (by omega), w64 (x := k * b) (by omega) (by omega), w64 (x := k * p) (by omega) (by omega), w64 (x := x - k * p) (by omega) (by omega), w64 (x := x - k * p - (p - b)) (by omega) (by omega), w64 (by omega) (by omega)]
theorem sbound_f {b p t : Int} (h : SV b p) (h0 : 0 ≤ t) (h1 : t ≤ 10000000) : spec_l22Bound.f b p t = some (sb b p t) := by
  have hv := h
  unfold SV at h
  unfold spec_l22Bound.f sb
  rw [w64 (x := p - b) (by omega) (by omega), w64 (x := 2 * (p - b)) (by omega) (by omega), w64 (x := t - 2 * (p - b)) (by omega) (by omega), w64 (x := t - (p - b)) (by omega) (by omega), mx_max, mn_min]
  by_cases hx : t ≤ 2 * (p - b)
  · rw [if_pos hx]
    by_cases hy : t - (p - b) < 0
    · rw [if_pos hy]
      congr 1; omega
    · rw [if_neg hy, show (t - (p - b)) / p = 0 from Int.ediv_eq_zero_of_lt (by omega) (by omega)]
      congr 1; omega
  · rw [if_neg hx, if_neg (by omega), if_neg (by omega), tdiv_pos (by omega), mx_max, mn_min]
    have hd := div_bd (x := t - (p - b)) (p := p) (by omega) (by omega)
    have hxb : t - (p - b) ≤ 10000000 := by omega
    generalize t - (p - b) = x at *
    generalize x / p = k at *
    have hm := mul_bd (a := k) (b := b) (A := 10000000) (B := 12) (by omega) (by omega) (by omega) (by omega)
    rw [w64 (x := k) (by omega) (by omega), w64 (x := k * b) (by omega) (by omega), w64 (x := k * p) (by omega) (by omega), w64 (x := x - k * p) (by omega) (by omega), w64 (x := x - k * p - (p - b)) (by omega) (by omega), w64 (by omega) (by omega)]
/-- SupplyBound, for all arguments. -/
def sbx (b p t : Int) : Int := if SV b p ∧ 0 ≤ t ∧ t ≤ 100000 then sb b p t else -1
theorem supply_f (b p t : Int) : impl_SupplyBound.f b p t = some (sbx b p t) := by
  unfold impl_SupplyBound.f sbx
  rw [sv_f, in_f, and_bind, and_bind]
  by_cases h1 : SV b p
  · by_cases h2 : 0 ≤ t ∧ t ≤ 100000
    · rw [if_pos h1, if_pos h2, if_pos ⟨h1, h2⟩, bound_f h1 h2.1 (by omega)]; rfl
    · rw [if_pos h1, if_neg h2, if_neg (fun h => h2 h.2)]
  · rw [if_neg h1, if_neg (fun h => h1 h.1)]
theorem ssupply_f (b p t : Int) : spec_SupplyBound.f b p t = some (sbx b p t) := by
  unfold spec_SupplyBound.f sbx
  rw [ssv_f, l1In_f, and_bind, and_bind]
  by_cases h1 : SV b p
  · by_cases h2 : 0 ≤ t ∧ t ≤ 100000
    · rw [if_pos h1, if_pos h2, if_pos ⟨h1, h2⟩, sbound_f h1 h2.1 (by omega)]; rfl
    · rw [if_pos h1, if_neg h2, if_neg (fun h => h2 h.2)]
  · rw [if_neg h1, if_neg (fun h => h1 h.1)]
end Go.Proofs.Ytooabmmnbifclaa.Sup
