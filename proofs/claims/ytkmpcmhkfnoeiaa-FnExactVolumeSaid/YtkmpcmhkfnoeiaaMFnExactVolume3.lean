/- The law FnExactVolume for every input, part 3 of its proof: what the program's functions answer, and the plain law. No condition. -/
import Derived.Test.YtkmpcmhkfnoeiaaMFnExactVolume1
import Derived.Test.YtkmpcmhkfnoeiaaMFnExactVolume2
import Derived.Test.YtkmpcmhkfnoeiaaWWords
import Derived.SizedLaws
import Derived.ChangeSlices
import Derived.ChangeArms
import Derived.WideShapes
import Derived.Deep.Slices
import Derived.OpenShut
import Derived.Test.YtkmpcmhkfnoeiaaRows
import Derived.JoinedOf
import Derived.KernelRfl
import Derived.WalkKit
import Derived.ProofKit
import Derived.ShutString
import Derived.ChangeOld
import Derived.Below
-- Laid by a program of this work.
namespace Go.Proofs.Ytkmpcmhkfnoeiaa.P
open Go.RowKit Go.Proofs.YtkmpcmhkfnoeiaaW.PrintWords Go.Proofs.YtkmpcmhkfnoeiaaW.PrintLast Go.Proofs.YtkmpcmhkfnoeiaaW.PrintMore
attribute [local go_sem] max2_int min2_int max_two min_two max_three min_three max_four min_four   -- for this text's walks alone
set_option linter.unusedVariables false
set_option linter.unusedSimpArgs false

/-! ### spec_l22Ends: function 78 -/
mutual
def spec_l22Ends.l0 : Nat → List Int → List (List Int) → List Int → Int → Option (List Int)
  | 0, _, _, _, _ => none
  | k + 1, x0, x1, x5, x6 => if x6 < (x0.length : Int) then (spec_l22Ends.l1 k x0 x1 x5 x6 0 0) else (some x5)
def spec_l22Ends.l1 : Nat → List Int → List (List Int) → List Int → Int → Int → Int → Option (List Int)
  | 0, _, _, _, _, _, _ => none
  | k + 1, x0, x1, x5, x6, x7, x8 => if x8 < (x1.length : Int) then (if 0 ≤ x8 then (if 1 < ((rd_L5 x1 x8).length : Int) then (if (rd (rd_L5 x1 x8) 1) = x6 then (if 0 < ((rd_L5 x1 x8).length : Int) then (if 0 ≤ (rd (rd_L5 x1 x8) 0) then (if (rd (rd_L5 x1 x8) 0) < (x5.length : Int) then (spec_l22Ends.l1 k x0 x1 x5 x6 (mx x7 (rd x5 (rd (rd_L5 x1 x8) 0))) (wrap64 (x8 + 1))) else (none)) else (none)) else (none)) else (spec_l22Ends.l1 k x0 x1 x5 x6 x7 (wrap64 (x8 + 1)))) else (none)) else (none)) else (if 0 ≤ x6 then (if x6 < (x0.length : Int) then (if x5.length < 17592186044416 then (spec_l22Ends.l0 k x0 x1 (x5 ++ [wrap64 (x7 + (rd x0 x6))]) (wrap64 (x6 + 1))) else (none)) else (none)) else (none))
end
def spec_l22Ends.f (k : Nat) (l0 : List Int) (l1 : List (List Int)) : Option (List Int) := spec_l22Ends.l0 k l0 l1 (([] : List Int)) 0
theorem spec_l22Ends.mono_l : ∀ k, (∀ y0 y1 y2 y3, LeO (spec_l22Ends.l0 k y0 y1 y2 y3) (spec_l22Ends.l0 (k + 1) y0 y1 y2 y3)) ∧ (∀ y0 y1 y2 y3 y4 y5, LeO (spec_l22Ends.l1 k y0 y1 y2 y3 y4 y5) (spec_l22Ends.l1 (k + 1) y0 y1 y2 y3 y4 y5))
  | 0 => ⟨fun _ _ _ _ r h => by simp [spec_l22Ends.l0] at h, fun _ _ _ _ _ _ r h => by simp [spec_l22Ends.l1] at h⟩
  | k + 1 => by
    obtain ⟨ih0, ih1⟩ := spec_l22Ends.mono_l k
    refine ⟨?_, ?_⟩
    · intro y0 y1 y2 y3
      unfold spec_l22Ends.l0
      repeat' first
      | (with_reducible exact ih0 _ _ _ _)
      | (with_reducible exact ih1 _ _ _ _ _ _)
      | (with_reducible exact LeO.refl _)
      | (with_reducible exact LeO.none _)
      | (with_reducible refine LeO.ite ?_ ?_)
      | (with_reducible refine LeO.bind ?_ (fun _ => ?_))
      | exact ih0 _ _ _ _
      | exact ih1 _ _ _ _ _ _
      | exact LeO.none _
      | refine LeO.ite ?_ ?_
      | refine LeO.bind ?_ (fun _ => ?_)
    · intro y0 y1 y2 y3 y4 y5
      unfold spec_l22Ends.l1
      repeat' first
      | (with_reducible exact ih0 _ _ _ _)
      | (with_reducible exact ih1 _ _ _ _ _ _)
      | (with_reducible exact LeO.refl _)
      | (with_reducible exact LeO.none _)
      | (with_reducible refine LeO.ite ?_ ?_)
      | (with_reducible refine LeO.bind ?_ (fun _ => ?_))
      | exact ih0 _ _ _ _
      | exact ih1 _ _ _ _ _ _
      | exact LeO.none _
      | refine LeO.ite ?_ ?_
      | refine LeO.bind ?_ (fun _ => ?_)
theorem spec_l22Ends.mono : ∀ a0 a1 k, LeO (spec_l22Ends.f k a0 a1) (spec_l22Ends.f (k + 1) a0 a1) := by
  intro a0 a1 k
  obtain ⟨ih0, ih1⟩ := spec_l22Ends.mono_l k
  unfold spec_l22Ends.f
  repeat' first
      | (with_reducible exact ih0 _ _ _ _)
      | (with_reducible exact ih1 _ _ _ _ _ _)
      | (with_reducible exact LeO.refl _)
      | (with_reducible exact LeO.none _)
      | (with_reducible refine LeO.ite ?_ ?_)
      | (with_reducible refine LeO.bind ?_ (fun _ => ?_))
      | exact ih0 _ _ _ _
      | exact ih1 _ _ _ _ _ _
      | exact LeO.none _
      | refine LeO.ite ?_ ?_
      | refine LeO.bind ?_ (fun _ => ?_)
set_option maxHeartbeats 8000000 in
set_option maxRecDepth 100000 in
theorem spec_l22Ends.calls (k : Nat) (A0 : Option Addr) (c0 : Nat) (l0 : List Int) (A1 : Option Addr) (c1 : Nat) (l1 : List (List Int)) (r : List Int) (w : World) (hr0 : Kd.C (Kd.int .i64) w A0 l0.length l0) (hc0 : l0.length ≤ c0) (hr1 : Kd.C (Kd.slice 3 (Kd.int .i64)) w A1 l1.length l1) (hc1 : l1.length ≤ c1) (h : spec_l22Ends.f k l0 l1 = some r) :
    Calls Try.prog 78 #[.slice A0 l0.length c0, .slice A1 l1.length c1] w fun e w' => ∃ v0_ : Value, e = .returned (v0_) ∧ Kd.R (Kd.int .i64) 3 w' w.heap.size (fun _ => True) v0_ r ∧ Below w.heap.size w w' := by
  have HR0 := Aside0.mk hr0
  have HC0 := Aside0.mk hc0
  clear hr0 hc0
  have HR1 := Aside0.mk hr1
  have HC1 := Aside0.mk hc1
  clear hr1 hc1
  have HB := Aside0.mk (Below.refl w.heap.size w)
  have H : (spec_l22Ends.l0 k l0 l1 (([] : List Int)) 0) = some r := h
  clear h
  obtain ⟨y793, hy793⟩ : ∃ y_ : List Int, y_ = (([] : List Int)) := ⟨_, rfl⟩
  replace H : (spec_l22Ends.l0 k l0 l1 y793 0) = some r := by first | (rw [hy793]; with_reducible exact H) | (have H2_ := (Option.bind_some _ _).symm.trans H; rw [hy793]; with_reducible exact H2_) | (have H2_ := (Option.bind_some _ _).symm.trans H; with_reducible exact H2_) | with_reducible exact H | (rw [hy793]; exact H) | exact H
  have Ny793 := Aside0.mk hy793
  clear hy793
  have H' := Aside0.mk H
  clear H
  go_enter Try.func78, Try.ntmps78
  go_wp2_with (first | ((with_reducible refine gate_dst (N := 9) rfl ?_); refine Kd.R_lit (Kd.int .i64) _ 3 ?hg (N := 9) ?hd (xs := ([] : List Int)) (inner := []) (ok := fun _ => True) (okp := fun _ => True) ?hr ?hp (fun _ hk => hk) trivial (Below.refl _ _) (Nat.le_refl _) (by simp) ?_; (case hd => rfl); (case hg => rfl); (case hr => first | (go_simp; done) | (go_simp; rfl)); (case hp => exact (Reps.none _ _)); intro v794 w3 ho4 hb hg_ hnew_; clear hg_ hnew_; (first | rw [← Ny793.out] at ho4 | (simp only [Int.reduceToNat] at ho4; rw [← Ny793.out] at ho4)); have n0_ := Aside0.mk (Kd.R_lower ho4 (below_size (by repeat (first | (with_reducible first | exact HB.out | apply below_alloc | apply pw_below_drewN | apply below_drew1) | exact HB.out)))); have n1_ := Aside0.mk (below_step (by repeat (first | (with_reducible first | exact HB.out | apply below_alloc | apply pw_below_drewN | apply below_drew1) | exact HB.out)) hb); clear HB; have HO795 := n0_; have HB := n1_; clear n0_ n1_; clear hb ho4))
  go_loopg [5, 6] k (fun kq v5 v6 w' => ∃ (x5_1 : List Int) (x6_1 : Int), v6 = .int .i64 x6_1 ∧ Aside0 (spec_l22Ends.l0 kq l0 l1 x5_1 x6_1 = some r) ∧ Aside0 (kq ≤ k) ∧ Aside0 (Kd.R (Kd.int .i64) 3 w' w.heap.size (fun _ => True) v5 x5_1) ∧ Aside0 (Below w.heap.size w w'))
  case atStart => exact ⟨(y793), (0), (by first | rfl | (simp; done) | (simp [*]; done)), H', ⟨Nat.le_refl _⟩, ⟨by (with_reducible repeat (first | apply Kd.R_alloc | apply Kd.R_drewN | apply Kd.R_drew)); exact HO795.out⟩, ⟨by repeat (first | (with_reducible first | exact HB.out | apply below_alloc | apply pw_below_drewN | apply below_drew1) | exact HB.out)⟩⟩
  case round =>
    clear H'
    try clear c1
    try clear p2
    obtain ⟨x5_1, x6_1, rfl, HA, HK1, HO_5, HB⟩ := hrel
    cases gk with
    | zero => exact absurd HA.out (by simp [spec_l22Ends.l0])
    | succ k1 =>
      have H := HA.out
      clear HA
      simp only [spec_l22Ends.l0] at H
      by_cases c5 : x6_1 < (l0.length : Int)
      · rw [if_pos c5] at H
        have c5b0 : decide (x6_1 < (l0.length : Int)) = true := decide_eq_true c5
        clear c5
        have H' := Aside0.mk H
        clear H
        go_wp2
        go_loopg [7, 8] k1 (fun kq v7 v8 w' => ∃ (x7_2 : Int) (x8_2 : Int), v7 = .int .i64 x7_2 ∧ v8 = .int .i64 x8_2 ∧ Aside0 (spec_l22Ends.l1 kq l0 l1 x5_1 x6_1 x7_2 x8_2 = some r) ∧ Aside0 (kq ≤ k1) ∧ Aside0 (Kd.R (Kd.int .i64) 3 w' w.heap.size (fun _ => True) u5 x5_1) ∧ Aside0 (Below w.heap.size w w'))
        case atStart => exact ⟨(0), (0), (by first | rfl | (simp; done) | (simp [*]; done)), (by first | rfl | (simp; done) | (simp [*]; done)), H', ⟨Nat.le_refl _⟩, ⟨by (with_reducible repeat (first | apply Kd.R_alloc | apply Kd.R_drewN | apply Kd.R_drew)); exact HO_5.out⟩, ⟨by repeat (first | (with_reducible first | exact HB.out | apply below_alloc | apply pw_below_drewN | apply below_drew1) | exact HB.out)⟩⟩
        case round =>
          clear H'
          try clear c1
          try clear p2
          try clear c5
          try clear c5b0
          try clear p2
          obtain ⟨x7_2, x8_2, rfl, rfl, HA, HK2, HO_5, HB⟩ := hrel
          cases gk with
          | zero => exact absurd HA.out (by simp [spec_l22Ends.l1])
          | succ k2 =>
            have H := HA.out
            clear HA
            simp only [spec_l22Ends.l1] at H
            by_cases c6 : x8_2 < (l1.length : Int)
            · rw [if_pos c6] at H
              have c6b0 : decide (x8_2 < (l1.length : Int)) = true := decide_eq_true c6
              clear c6
              by_cases c7 : 0 ≤ x8_2
              · rw [if_pos c7] at H
                have c7b0 : decide (0 ≤ x8_2) = true := decide_eq_true c7
                clear c7
                by_cases c8 : 1 < ((rd_L5 l1 x8_2).length : Int)
                · rw [if_pos c8] at H
                  have c8b0 : decide (1 < ((rd_L5 l1 x8_2).length : Int)) = true := decide_eq_true c8
                  have c8b1 : decide (1 < (rd_L5 l1 x8_2).length) = true := decide_eq_true (by omega)
                  clear c8
                  by_cases c9 : (rd (rd_L5 l1 x8_2) 1) = x6_1
                  · rw [if_pos c9] at H
                    have c9b0 : ((rd (rd_L5 l1 x8_2) 1) == x6_1) = true := beq_iff_eq.mpr c9
                    have c9b1 : ((rd (rd_L5 l1 x8_2) 1) != x6_1) = false := bne_eq_false_iff_eq.mpr c9
                    clear c9
                    by_cases c10 : 0 < ((rd_L5 l1 x8_2).length : Int)
                    · rw [if_pos c10] at H
                      have c10b0 : decide (0 < ((rd_L5 l1 x8_2).length : Int)) = true := decide_eq_true c10
                      have c10b1 : decide (0 < (rd_L5 l1 x8_2).length) = true := decide_eq_true (by omega)
                      clear c10
                      by_cases c11 : 0 ≤ (rd (rd_L5 l1 x8_2) 0)
                      · rw [if_pos c11] at H
                        have c11b0 : decide (0 ≤ (rd (rd_L5 l1 x8_2) 0)) = true := decide_eq_true c11
                        clear c11
                        by_cases c12 : (rd (rd_L5 l1 x8_2) 0) < (x5_1.length : Int)
                        · rw [if_pos c12] at H
                          have c12b0 : decide ((rd (rd_L5 l1 x8_2) 0) < (x5_1.length : Int)) = true := decide_eq_true c12
                          clear c12
                          obtain ⟨ji13, hji13⟩ : ∃ j_ : Int, (mx x7_2 (rd x5_1 (rd (rd_L5 l1 x8_2) 0))) = j_ := ⟨_, rfl⟩
                          replace H : (spec_l22Ends.l1 k2 l0 l1 x5_1 x6_1 ji13 (wrap64 (x8_2 + 1))) = some r := by first | (rw [hji13] at H; exact H) | (simp only [hji13] at H ⊢; exact H)
                          have hji13_ : (if x7_2 < (rd x5_1 (rd (rd_L5 l1 x8_2) 0)) then (rd x5_1 (rd (rd_L5 l1 x8_2) 0)) else x7_2) = ji13 := hji13
                          have H' := Aside0.mk H
                          clear H
                          have p796 : 0 ≤ (x8_2 : Int) := of_decide_eq_true (by first | (with_reducible assumption) | assumption)
                          have q796 : x8_2 < (l1.length : Int) := of_decide_eq_true (by first | (with_reducible assumption) | assumption)
                          obtain ⟨ad796, A796_0, c796_0, e796, hx796_0, hl796_0, hi796_0⟩ := at_L5 HR1.out x8_2 p796 q796
                          cases e796
                          replace hx796_0 := (HB.out.cell (World.block_lt_of_cell? w _ hx796_0)).trans hx796_0
                          have HR796_0 := Aside0.mk hi796_0
                          have HC796_0 := Aside0.mk hl796_0
                          clear hi796_0 hl796_0
                          replace p796 := eq_true p796
                          replace q796 := eq_true q796
                          have p797 : 0 ≤ (1 : Int) := (by omega)
                          have q797 : 1 < ((rd_L5 l1 x8_2).length : Int) := of_decide_eq_true (by first | (with_reducible assumption) | assumption)
                          obtain ⟨ad797, e797, hx797_0⟩ := Kd.at_int HR796_0.out 1 p797 q797
                          cases e797
                          (try simp only [show (1 : Int).toNat = 1 from rfl, Nat.reduceMul, Nat.reduceEqDiff, Go.Addr.add, ↓reduceIte] at hx797_0)
                          have qi797 : (1 < (rd_L5 l1 x8_2).length) = True := eq_true (by omega)
                          (try rw [show ((1 : Int)).toNat = 1 from rfl] at hx797_0)
                          replace hx797_0 := (HB.out.cell (World.block_lt_of_cell? w _ hx797_0)).trans hx797_0
                          replace p797 := eq_true p797
                          replace q797 := eq_true q797
                          have p798 : 0 ≤ (x8_2 : Int) := of_decide_eq_true (by first | (with_reducible assumption) | assumption)
                          have q798 : x8_2 < (l1.length : Int) := of_decide_eq_true (by first | (with_reducible assumption) | assumption)
                          obtain ⟨ad798, A798_0, c798_0, e798, hx798_0, hl798_0, hi798_0⟩ := at_L5 HR1.out x8_2 p798 q798
                          obtain rfl : ad796 = ad798 := (by injection e798)
                          replace hx798_0 := (HB.out.cell (World.block_lt_of_cell? w _ hx798_0)).trans hx798_0
                          have HR798_0 := Aside0.mk hi798_0
                          have HC798_0 := Aside0.mk hl798_0
                          clear hi798_0 hl798_0
                          replace p798 := eq_true p798
                          replace q798 := eq_true q798
                          have ea_ := Option.some.inj (hx796_0.symm.trans hx798_0)
                          injection ea_ with ea_ en_ ec_
                          subst ea_
                          subst ec_
                          clear en_
                          have p799 : 0 ≤ (0 : Int) := (by omega)
                          have q799 : 0 < ((rd_L5 l1 x8_2).length : Int) := of_decide_eq_true (by first | (with_reducible assumption) | assumption)
                          obtain ⟨ad799, e799, hx799_0⟩ := Kd.at_int HR798_0.out 0 p799 q799
                          cases e799
                          have qi799 : (0 < (rd_L5 l1 x8_2).length) = True := eq_true (by omega)
                          (try rw [show ((0 : Int)).toNat = 0 from rfl] at hx799_0)
                          (try rw [Addr.add_zero'] at hx799_0)
                          replace hx799_0 := (HB.out.cell (World.block_lt_of_cell? w _ hx799_0)).trans hx799_0
                          replace p799 := eq_true p799
                          replace q799 := eq_true q799
                          obtain ⟨Ao14, co14, eo14⟩ := Kd.R_slice HO_5.out
                          subst eo14
                          have p800 : 0 ≤ ((rd (rd_L5 l1 x8_2) 0) : Int) := of_decide_eq_true (by first | (with_reducible assumption) | assumption)
                          have q800 : (rd (rd_L5 l1 x8_2) 0) < (x5_1.length : Int) := of_decide_eq_true (by first | (with_reducible assumption) | assumption)
                          obtain ⟨ad800, e800, hx800_0⟩ := Kd.at_int (Kd.R_reads' HO_5.out).2.2 (rd (rd_L5 l1 x8_2) 0) p800 q800
                          cases e800
                          replace p800 := eq_true p800
                          replace q800 := eq_true q800
                          go_wp2
                          go_roundg k2
                          case measure => have := HK1.out; have := HK2.out; omega
                          case rel => exact ⟨(ji13), (wrap64 (x8_2 + 1)), (by first | rfl | (simp; done) | (simp only [← hji13] <;> (first | rfl | simp)) | (simp [*]; done)), (by first | rfl | (simp; done) | (simp [*]; done)), H', ⟨by have := HK1.out; have := HK2.out; omega⟩, ⟨by (with_reducible repeat (first | apply Kd.R_alloc | apply Kd.R_drewN | apply Kd.R_drew)); exact HO_5.out⟩, ⟨by repeat (first | (with_reducible first | exact HB.out | apply below_alloc | apply pw_below_drewN | apply below_drew1) | exact HB.out)⟩⟩
                        · rw [if_neg c12] at H
                          exact absurd H (by simp)
                      · rw [if_neg c11] at H
                        exact absurd H (by simp)
                    · rw [if_neg c10] at H
                      exact absurd H (by simp)
                  · rw [if_neg c9] at H
                    have c9b0 : ((rd (rd_L5 l1 x8_2) 1) == x6_1) = false := beq_eq_false_iff_ne.mpr c9
                    have c9b1 : ((rd (rd_L5 l1 x8_2) 1) != x6_1) = true := bne_iff_ne.mpr c9
                    have H' := Aside0.mk H
                    clear H
                    have p796 : 0 ≤ (x8_2 : Int) := of_decide_eq_true (by first | (with_reducible assumption) | assumption)
                    have q796 : x8_2 < (l1.length : Int) := of_decide_eq_true (by first | (with_reducible assumption) | assumption)
                    obtain ⟨ad796, A796_0, c796_0, e796, hx796_0, hl796_0, hi796_0⟩ := at_L5 HR1.out x8_2 p796 q796
                    cases e796
                    replace hx796_0 := (HB.out.cell (World.block_lt_of_cell? w _ hx796_0)).trans hx796_0
                    have HR796_0 := Aside0.mk hi796_0
                    have HC796_0 := Aside0.mk hl796_0
                    clear hi796_0 hl796_0
                    replace p796 := eq_true p796
                    replace q796 := eq_true q796
                    have p797 : 0 ≤ (1 : Int) := (by omega)
                    have q797 : 1 < ((rd_L5 l1 x8_2).length : Int) := of_decide_eq_true (by first | (with_reducible assumption) | assumption)
                    obtain ⟨ad797, e797, hx797_0⟩ := Kd.at_int HR796_0.out 1 p797 q797
                    cases e797
                    (try simp only [show (1 : Int).toNat = 1 from rfl, Nat.reduceMul, Nat.reduceEqDiff, Go.Addr.add, ↓reduceIte] at hx797_0)
                    have qi797 : (1 < (rd_L5 l1 x8_2).length) = True := eq_true (by omega)
                    (try rw [show ((1 : Int)).toNat = 1 from rfl] at hx797_0)
                    replace hx797_0 := (HB.out.cell (World.block_lt_of_cell? w _ hx797_0)).trans hx797_0
                    replace p797 := eq_true p797
                    replace q797 := eq_true q797
                    go_wp2
                    go_roundg k2
                    case measure => have := HK1.out; have := HK2.out; omega
                    case rel => exact ⟨(x7_2), (wrap64 (x8_2 + 1)), (by first | rfl | (simp; done) | (simp [*]; done)), (by first | rfl | (simp; done) | (simp [*]; done)), H', ⟨by have := HK1.out; have := HK2.out; omega⟩, ⟨by (with_reducible repeat (first | apply Kd.R_alloc | apply Kd.R_drewN | apply Kd.R_drew)); exact HO_5.out⟩, ⟨by repeat (first | (with_reducible first | exact HB.out | apply below_alloc | apply pw_below_drewN | apply below_drew1) | exact HB.out)⟩⟩
                · rw [if_neg c8] at H
                  exact absurd H (by simp)
              · rw [if_neg c7] at H
                exact absurd H (by simp)
            · rw [if_neg c6] at H
              have c6b0 : decide (x8_2 < (l1.length : Int)) = false := decide_eq_false c6
              clear c6
              by_cases c15 : 0 ≤ x6_1
              · rw [if_pos c15] at H
                have c15b0 : decide (0 ≤ x6_1) = true := decide_eq_true c15
                clear c15
                by_cases c16 : x6_1 < (l0.length : Int)
                · rw [if_pos c16] at H
                  have c16b0 : decide (x6_1 < (l0.length : Int)) = true := decide_eq_true c16
                  clear c16
                  by_cases c17 : x5_1.length < 17592186044416
                  · rw [if_pos c17] at H
                    have LMc17 := Aside0.mk c17
                    clear c17
                    obtain ⟨y802, hy802⟩ : ∃ y_ : List Int, y_ = (x5_1 ++ [wrap64 (x7_2 + (rd l0 x6_1))]) := ⟨_, rfl⟩
                    replace H : (spec_l22Ends.l0 k2 l0 l1 y802 (wrap64 (x6_1 + 1))) = some r := by first | (rw [hy802]; with_reducible exact H) | (have H2_ := (Option.bind_some _ _).symm.trans H; rw [hy802]; with_reducible exact H2_) | (have H2_ := (Option.bind_some _ _).symm.trans H; with_reducible exact H2_) | with_reducible exact H | (rw [hy802]; exact H) | exact H
                    have Ny802 := Aside0.mk hy802
                    clear hy802
                    have H' := Aside0.mk H
                    clear H
                    have p801 : 0 ≤ (x6_1 : Int) := of_decide_eq_true (by first | (with_reducible assumption) | assumption)
                    have q801 : x6_1 < (l0.length : Int) := of_decide_eq_true (by first | (with_reducible assumption) | assumption)
                    obtain ⟨ad801, e801, hx801_0⟩ := Kd.at_int HR0.out x6_1 p801 q801
                    cases e801
                    replace hx801_0 := (HB.out.cell (World.block_lt_of_cell? w _ hx801_0)).trans hx801_0
                    replace p801 := eq_true p801
                    replace q801 := eq_true q801
                    go_wp2_with (first | ((with_reducible refine gate_builtin (b := .append) (xs := #[.tmp 41, .tmp 48]) rfl ?_); at_builtin; refine Kd.R_append (Kd.int .i64) (w0 := w) w.heap.size rfl (.tmp 41) (.tmp 48) 39 3 (.int .i64 0) 8 rfl Try.underlying39 info3 rfl (by decide) (by omega) u5 x5_1 (wrap64 (x7_2 + (rd l0 x6_1))) [.int .i64 (wrap64 (x7_2 + (rd l0 x6_1)))] (fun _ => True) (fun _ => False) rfl rfl ?aP (fun _ hk => hk.elim) ?aF ?aO ?aB ?aS ?aL ?_; (case aP => exact rfl); (case aB => exact (by repeat (first | (with_reducible first | exact HB.out | apply below_alloc | apply pw_below_drewN | apply below_drew1) | exact HB.out))); (case aF => exact (fun _ _ => trivial)); (case aO => exact (by (with_reducible repeat (first | apply Kd.R_alloc | apply Kd.R_drewN | apply Kd.R_drew)); exact HO_5.out)); (case aS => exact (below_size (by repeat (first | (with_reducible first | exact HB.out | apply below_alloc | apply pw_below_drewN | apply below_drew1) | exact HB.out)))); (case aL => have := LMc17.out; omega); intro v803 w18 ho hb hg hat; rw [← Ny802.out] at ho; have n0_ := Aside0.mk (hb); have n1_ := Aside0.mk (ho); clear HB; clear HO_5; have HB := n0_; have HO804 := n1_; clear n0_ n1_; clear ho hb hg hat))
                    go_roundg k2
                    case measure => have := HK1.out; have := HK2.out; omega
                    case rel => exact ⟨(y802), (wrap64 (x6_1 + 1)), (by first | rfl | (simp; done) | (simp [*]; done)), H', ⟨by have := HK1.out; have := HK2.out; omega⟩, ⟨by (with_reducible repeat (first | apply Kd.R_alloc | apply Kd.R_drewN | apply Kd.R_drew)); exact HO804.out⟩, ⟨by repeat (first | (with_reducible first | exact HB.out | apply below_alloc | apply pw_below_drewN | apply below_drew1) | exact HB.out)⟩⟩
                  · rw [if_neg c17] at H
                    exact absurd H (by simp)
                · rw [if_neg c16] at H
                  exact absurd H (by simp)
              · rw [if_neg c15] at H
                exact absurd H (by simp)
      · rw [if_neg c5] at H
        have c5b0 : decide (x6_1 < (l0.length : Int)) = false := decide_eq_false c5
        clear c5
        obtain rfl := Option.some.inj H
        go_wp2
        go_ret
        exact ⟨_, by first | rfl | (simp [errW_none, errW_some] <;> rfl) | (simp [*, errW_none, errW_some] <;> rfl), by (with_reducible repeat (first | apply Kd.R_alloc | apply Kd.R_drewN | apply Kd.R_drew)); exact HO_5.out, by repeat (first | (with_reducible first | exact HB.out | apply below_alloc | apply pw_below_drewN | apply below_drew1) | exact HB.out)⟩

end Go.Proofs.Ytkmpcmhkfnoeiaa.P
-- Laid by a program of this work.
namespace Go.Proofs.Ytkmpcmhkfnoeiaa.P
open Go.RowKit Go.Proofs.YtkmpcmhkfnoeiaaW.PrintWords Go.Proofs.YtkmpcmhkfnoeiaaW.PrintLast Go.Proofs.YtkmpcmhkfnoeiaaW.PrintMore
attribute [local go_sem] max2_int min2_int max_two min_two max_three min_three max_four min_four   -- for this text's walks alone
set_option linter.unusedVariables false
set_option linter.unusedSimpArgs false

/-! ### spec_CriticalPath: function 48 -/
def spec_CriticalPath.l0 : Nat → Int → List Int → Int → Option (Int)
  | 0, _, _, _ => none
  | k + 1, x5, x6, x7 => if x7 < (x6.length : Int) then (if 0 ≤ x7 then (spec_CriticalPath.l0 k (mx x5 (rd x6 x7)) x6 (wrap64 (x7 + 1))) else (none)) else (some x5)
def spec_CriticalPath.f (k : Nat) (l0 : List Int) (l1 : List (List Int)) : Option (Int) := (spec_GraphValid.f k l0 l1).bind fun t805 => (if t805 = true then ((spec_l22Ends.f k l0 l1).bind fun t806 => (spec_CriticalPath.l0 k 0 t806 0)) else (some (-1)))
theorem spec_CriticalPath.mono_l : ∀ k, (∀ y0 y1 y2, LeO (spec_CriticalPath.l0 k y0 y1 y2) (spec_CriticalPath.l0 (k + 1) y0 y1 y2))
  | 0 => fun _ _ _ r h => by simp [spec_CriticalPath.l0] at h
  | k + 1 => by
    have ih0 := spec_CriticalPath.mono_l k
    · intro y0 y1 y2
      unfold spec_CriticalPath.l0
      repeat' first
      | (with_reducible exact ih0 _ _ _)
      | (with_reducible exact spec_GraphValid.mono _ _ _)
      | (with_reducible exact spec_l22Ends.mono _ _ _)
      | (with_reducible exact LeO.refl _)
      | (with_reducible exact LeO.none _)
      | (with_reducible refine LeO.ite ?_ ?_)
      | (with_reducible refine LeO.bind ?_ (fun _ => ?_))
      | exact ih0 _ _ _
      | exact spec_GraphValid.mono _ _ _
      | exact spec_l22Ends.mono _ _ _
      | exact LeO.none _
      | refine LeO.ite ?_ ?_
      | refine LeO.bind ?_ (fun _ => ?_)
theorem spec_CriticalPath.mono : ∀ a0 a1 k, LeO (spec_CriticalPath.f k a0 a1) (spec_CriticalPath.f (k + 1) a0 a1) := by
  intro a0 a1 k
  have ih0 := spec_CriticalPath.mono_l k
  unfold spec_CriticalPath.f
  repeat' first
      | (with_reducible exact ih0 _ _ _)
      | (with_reducible exact spec_GraphValid.mono _ _ _)
      | (with_reducible exact spec_l22Ends.mono _ _ _)
      | (with_reducible exact LeO.refl _)
      | (with_reducible exact LeO.none _)
      | (with_reducible refine LeO.ite ?_ ?_)
      | (with_reducible refine LeO.bind ?_ (fun _ => ?_))
      | exact ih0 _ _ _
      | exact spec_GraphValid.mono _ _ _
      | exact spec_l22Ends.mono _ _ _
      | exact LeO.none _
      | refine LeO.ite ?_ ?_
      | refine LeO.bind ?_ (fun _ => ?_)
set_option maxHeartbeats 8000000 in
set_option maxRecDepth 100000 in
theorem spec_CriticalPath.calls (k : Nat) (A0 : Option Addr) (c0 : Nat) (l0 : List Int) (A1 : Option Addr) (c1 : Nat) (l1 : List (List Int)) (r : Int) (w : World) (hr0 : Kd.C (Kd.int .i64) w A0 l0.length l0) (hc0 : l0.length ≤ c0) (hr1 : Kd.C (Kd.slice 3 (Kd.int .i64)) w A1 l1.length l1) (hc1 : l1.length ≤ c1) (h : spec_CriticalPath.f k l0 l1 = some r) :
    Calls Try.prog 48 #[.slice A0 l0.length c0, .slice A1 l1.length c1] w fun e w' => e = .returned (.int .i64 r) ∧ Below w.heap.size w w' := by
  have HR0 := Aside0.mk hr0
  have HC0 := Aside0.mk hc0
  clear hr0 hc0
  have HR1 := Aside0.mk hr1
  have HC1 := Aside0.mk hc1
  clear hr1 hc1
  have HB := Aside0.mk (Below.refl w.heap.size w)
  have H : ((spec_GraphValid.f k l0 l1).bind fun t805 => (if t805 = true then ((spec_l22Ends.f k l0 l1).bind fun t806 => (spec_CriticalPath.l0 k 0 t806 0)) else (some (-1)))) = some r := h
  clear h
  replace H := Option.bind_eq_some_iff.mp H
  obtain ⟨t805, A30, H⟩ := H
  replace H : (if t805 = true then ((spec_l22Ends.f k l0 l1).bind fun t806 => (spec_CriticalPath.l0 k 0 t806 0)) else (some (-1))) = some r := H
  have A3 := Aside0.mk A30
  clear A30
  by_cases c4 : t805 = true
  · subst c4
    have H1 : ((spec_l22Ends.f k l0 l1).bind fun t806 => (spec_CriticalPath.l0 k 0 t806 0)) = some r := by rw [if_pos rfl] at H; exact H
    clear H
    have H := H1
    clear H1
    replace H := Option.bind_eq_some_iff.mp H
    obtain ⟨t806, A50, H⟩ := H
    replace H : (spec_CriticalPath.l0 k 0 t806 0) = some r := H
    have A5 := Aside0.mk A50
    clear A50
    have H' := Aside0.mk H
    clear H
    go_enter Try.func48, Try.ntmps48
    go_wp2_with (first | ((with_reducible refine gate_callee (f := 41) rfl ?_); refine goesL_ (some 10) rfl rfl Try.func41 (by kernel_rfl) rfl #[.slice A0 l0.length c0, .slice A1 l1.length c1] rfl (by (try simp only [List.map_toArray, List.map_cons, List.map_nil]); first | done | rfl | (simp only [List.length_drop, List.length_take]; rfl)) ?_; (with_reducible refine (spec_GraphValid.calls k _ _ l0 _ _ l1 true _ ?side1 ?side2 ?side3 ?side4 A3.out).mono ?_); (case side1 => repeat (first | exact HR0.out | (with_reducible refine Kd.C_alloc ?_ _) | (with_reducible refine Kd.C_drewN ?_ _) | (with_reducible refine Kd.C_drew ?_))); (case side2 => exact HC0.out); (case side3 => repeat (first | exact HR1.out | (with_reducible refine Kd.C_alloc ?_ _) | (with_reducible refine Kd.C_drewN ?_ _) | (with_reducible refine Kd.C_drew ?_))); (case side4 => exact HC1.out); rintro e w6 ⟨rfl, hb⟩; refine ⟨_, rfl, ?_⟩; have n0_ := Aside0.mk (below_step (by repeat (first | (with_reducible first | exact HB.out | apply below_alloc | apply pw_below_drewN | apply below_drew1) | exact HB.out)) hb); clear HB; have HB := n0_; clear n0_; (try clear hb); (try clear hb2); (try clear hk); (try clear hi)) | ((with_reducible refine gate_callee (f := 78) rfl ?_); refine goesL_ (some 14) rfl rfl Try.func78 (by kernel_rfl) rfl #[.slice A0 l0.length c0, .slice A1 l1.length c1] rfl (by (try simp only [List.map_toArray, List.map_cons, List.map_nil]); first | done | rfl | (simp only [List.length_drop, List.length_take]; rfl)) ?_; (with_reducible refine (spec_l22Ends.calls k _ _ l0 _ _ l1 t806 _ ?side1 ?side2 ?side3 ?side4 A5.out).mono ?_); (case side1 => repeat (first | exact (Kd.C_below HR0.out HB.out) | (with_reducible refine Kd.C_alloc ?_ _) | (with_reducible refine Kd.C_drewN ?_ _) | (with_reducible refine Kd.C_drew ?_))); (case side2 => exact HC0.out); (case side3 => repeat (first | exact (Kd.C_below HR1.out HB.out) | (with_reducible refine Kd.C_alloc ?_ _) | (with_reducible refine Kd.C_drewN ?_ _) | (with_reducible refine Kd.C_drew ?_))); (case side4 => exact HC1.out); rintro e w7 ⟨v807, rfl, ho0, hb⟩; refine ⟨_, rfl, ?_⟩; have n0_ := Aside0.mk (Kd.R_lower ho0 (below_size (by repeat (first | (with_reducible first | exact HB.out | apply below_alloc | apply pw_below_drewN | apply below_drew1) | exact HB.out)))); have n1_ := Aside0.mk (below_step (by repeat (first | (with_reducible first | exact HB.out | apply below_alloc | apply pw_below_drewN | apply below_drew1) | exact HB.out)) hb); clear HB; have HO808 := n0_; have HB := n1_; clear n0_ n1_; (try clear hb); (try clear hb2); (try clear hk); (try clear hi); (try clear ho0)))
    go_loopg [5, 7] k (fun kq v5 v7 w' => ∃ (x5_1 : Int) (x7_1 : Int), v5 = .int .i64 x5_1 ∧ v7 = .int .i64 x7_1 ∧ Aside0 (spec_CriticalPath.l0 kq x5_1 t806 x7_1 = some r) ∧ Aside0 (kq ≤ k) ∧ Aside0 (Kd.R (Kd.int .i64) 3 w' w.heap.size (fun _ => True) v807 t806) ∧ Aside0 (Below w.heap.size w w'))
    case atStart => exact ⟨(0), (0), (by first | rfl | (simp; done) | (simp [*]; done)), (by first | rfl | (simp; done) | (simp [*]; done)), H', ⟨Nat.le_refl _⟩, ⟨by (with_reducible repeat (first | apply Kd.R_alloc | apply Kd.R_drewN | apply Kd.R_drew)); exact HO808.out⟩, ⟨by repeat (first | (with_reducible first | exact HB.out | apply below_alloc | apply pw_below_drewN | apply below_drew1) | exact HB.out)⟩⟩
    case round =>
      clear H'
      try clear c1
      try clear p2
      try clear c4
      try clear c7
      obtain ⟨x5_1, x7_1, rfl, rfl, HA, HK1, HO_6, HB⟩ := hrel
      cases gk with
      | zero => exact absurd HA.out (by simp [spec_CriticalPath.l0])
      | succ k1 =>
        have H := HA.out
        clear HA
        simp only [spec_CriticalPath.l0] at H
        by_cases c8 : x7_1 < (t806.length : Int)
        · rw [if_pos c8] at H
          have c8b0 : decide (x7_1 < (t806.length : Int)) = true := decide_eq_true c8
          clear c8
          by_cases c9 : 0 ≤ x7_1
          · rw [if_pos c9] at H
            have c9b0 : decide (0 ≤ x7_1) = true := decide_eq_true c9
            clear c9
            obtain ⟨ji10, hji10⟩ : ∃ j_ : Int, (mx x5_1 (rd t806 x7_1)) = j_ := ⟨_, rfl⟩
            replace H : (spec_CriticalPath.l0 k1 ji10 t806 (wrap64 (x7_1 + 1))) = some r := by first | (rw [hji10] at H; exact H) | (simp only [hji10] at H ⊢; exact H)
            have hji10_ : (if x5_1 < (rd t806 x7_1) then (rd t806 x7_1) else x5_1) = ji10 := hji10
            have H' := Aside0.mk H
            clear H
            obtain ⟨Ao11, co11, eo11⟩ := Kd.R_slice HO_6.out
            subst eo11
            have p809 : 0 ≤ (x7_1 : Int) := of_decide_eq_true (by first | (with_reducible assumption) | assumption)
            have q809 : x7_1 < (t806.length : Int) := of_decide_eq_true (by first | (with_reducible assumption) | assumption)
            obtain ⟨ad809, e809, hx809_0⟩ := Kd.at_int (Kd.R_reads' HO_6.out).2.2 x7_1 p809 q809
            cases e809
            replace p809 := eq_true p809
            replace q809 := eq_true q809
            go_wp2
            go_roundg k1
            case measure => have := HK1.out; omega
            case rel => exact ⟨(ji10), (wrap64 (x7_1 + 1)), (by first | rfl | (simp; done) | (simp only [← hji10] <;> (first | rfl | simp)) | (simp [*]; done)), (by first | rfl | (simp; done) | (simp [*]; done)), H', ⟨by have := HK1.out; omega⟩, ⟨by (with_reducible repeat (first | apply Kd.R_alloc | apply Kd.R_drewN | apply Kd.R_drew)); exact HO_6.out⟩, ⟨by repeat (first | (with_reducible first | exact HB.out | apply below_alloc | apply pw_below_drewN | apply below_drew1) | exact HB.out)⟩⟩
          · rw [if_neg c9] at H
            exact absurd H (by simp)
        · rw [if_neg c8] at H
          have c8b0 : decide (x7_1 < (t806.length : Int)) = false := decide_eq_false c8
          clear c8
          obtain rfl := Option.some.inj H
          obtain ⟨Ao12, co12, eo12⟩ := Kd.R_slice HO_6.out
          subst eo12
          go_wp2
          go_ret
          exact ⟨by first | rfl | (simp [errW_none, errW_some] <;> rfl) | (simp [*, errW_none, errW_some] <;> rfl), by repeat (first | (with_reducible first | exact HB.out | apply below_alloc | apply pw_below_drewN | apply below_drew1) | exact HB.out)⟩
  · replace c4 := Bool.eq_false_iff.mpr c4
    subst c4
    have H1 : (some (-1)) = some r := by rw [if_neg (show ¬ (false = true) by decide)] at H; exact H
    clear H
    have H := H1
    clear H1
    obtain rfl := Option.some.inj H
    go_enter Try.func48, Try.ntmps48
    go_wp2_with (first | ((with_reducible refine gate_callee (f := 41) rfl ?_); refine goesL_ (some 10) rfl rfl Try.func41 (by kernel_rfl) rfl #[.slice A0 l0.length c0, .slice A1 l1.length c1] rfl (by (try simp only [List.map_toArray, List.map_cons, List.map_nil]); first | done | rfl | (simp only [List.length_drop, List.length_take]; rfl)) ?_; (with_reducible refine (spec_GraphValid.calls k _ _ l0 _ _ l1 false _ ?side1 ?side2 ?side3 ?side4 A3.out).mono ?_); (case side1 => repeat (first | exact HR0.out | (with_reducible refine Kd.C_alloc ?_ _) | (with_reducible refine Kd.C_drewN ?_ _) | (with_reducible refine Kd.C_drew ?_))); (case side2 => exact HC0.out); (case side3 => repeat (first | exact HR1.out | (with_reducible refine Kd.C_alloc ?_ _) | (with_reducible refine Kd.C_drewN ?_ _) | (with_reducible refine Kd.C_drew ?_))); (case side4 => exact HC1.out); rintro e w13 ⟨rfl, hb⟩; refine ⟨_, rfl, ?_⟩; have n0_ := Aside0.mk (below_step (by repeat (first | (with_reducible first | exact HB.out | apply below_alloc | apply pw_below_drewN | apply below_drew1) | exact HB.out)) hb); clear HB; have HB := n0_; clear n0_; (try clear hb); (try clear hb2); (try clear hk); (try clear hi)))
    go_ret
    exact ⟨by first | rfl | (simp [errW_none, errW_some] <;> rfl) | (simp [*, errW_none, errW_some] <;> rfl), by repeat (first | (with_reducible first | exact HB.out | apply below_alloc | apply pw_below_drewN | apply below_drew1) | exact HB.out)⟩

end Go.Proofs.Ytkmpcmhkfnoeiaa.P
-- Laid by a program of this work.
namespace Go.Proofs.Ytkmpcmhkfnoeiaa.P
open Go.RowKit Go.Proofs.YtkmpcmhkfnoeiaaW.PrintWords Go.Proofs.YtkmpcmhkfnoeiaaW.PrintLast Go.Proofs.YtkmpcmhkfnoeiaaW.PrintMore
attribute [local go_sem] max2_int min2_int max_two min_two max_three min_three max_four min_four   -- for this text's walks alone
set_option linter.unusedVariables false
set_option linter.unusedSimpArgs false

/-! ### impl_critical: function 79 -/
mutual
def impl_critical.l0 : Nat → List (List Int) → List Int → Int → List Int → Int → Int → Option (Int)
  | 0, _, _, _, _, _, _ => none
  | k + 1, x1, x5, x6, x14, x15, x16 => if x16 < x15 then (if 0 ≤ x16 then (if x16 < (x14.length : Int) then (impl_critical.l1 k x1 x5 x6 x16 (rd x14 x16) x14 x15 x16 x1 (x1.length : Int) 0) else (none)) else (none)) else (some x6)
def impl_critical.l1 : Nat → List (List Int) → List Int → Int → Int → Int → List Int → Int → Int → List (List Int) → Int → Int → Option (Int)
  | 0, _, _, _, _, _, _, _, _, _, _, _ => none
  | k + 1, x1, x5, x6, x7, x8, x14, x15, x16, x21, x22, x23 => if x23 < x22 then (if 0 ≤ x23 then (if x23 < (x21.length : Int) then (if 1 < ((rd_L5 x21 x23).length : Int) then (if (rd (rd_L5 x21 x23) 1) = x7 then (if 0 ≤ x7 then (if x7 < (x5.length : Int) then (if 0 < ((rd_L5 x21 x23).length : Int) then (if 0 ≤ (rd (rd_L5 x21 x23) 0) then (if (rd (rd_L5 x21 x23) 0) < (x5.length : Int) then (impl_critical.l1 k x1 (x5.set (x7 : Int).toNat (mx (rd x5 x7) (rd x5 (rd (rd_L5 x21 x23) 0)))) x6 x7 x8 x14 x15 x16 x21 x22 (wrap64 (x23 + 1))) else (none)) else (none)) else (none)) else (none)) else (none)) else (impl_critical.l1 k x1 x5 x6 x7 x8 x14 x15 x16 x21 x22 (wrap64 (x23 + 1)))) else (none)) else (none)) else (none)) else (if 0 ≤ x7 then (if x7 < (x5.length : Int) then ((some (x5.set (x7 : Int).toNat (wrap64 ((rd x5 x7) + x8)) : List Int)).bind fun y821 => (impl_critical.l0 k x1 y821 (mx x6 (rd y821 x7)) x14 x15 (wrap64 (x16 + 1)))) else (none)) else (none))
end
def impl_critical.f (k : Nat) (l0 : List Int) (l1 : List (List Int)) : Option (Int) := if 0 ≤ (l0.length : Int) then (if ((l0.length : Int) : Int).toNat ≤ 35184372088832 then (impl_critical.l0 k l1 (List.replicate ((l0.length : Int) : Int).toNat 0) 0 l0 (l0.length : Int) 0) else (none)) else (none)
theorem impl_critical.mono_l : ∀ k, (∀ y0 y1 y2 y3 y4 y5, LeO (impl_critical.l0 k y0 y1 y2 y3 y4 y5) (impl_critical.l0 (k + 1) y0 y1 y2 y3 y4 y5)) ∧ (∀ y0 y1 y2 y3 y4 y5 y6 y7 y8 y9 y10, LeO (impl_critical.l1 k y0 y1 y2 y3 y4 y5 y6 y7 y8 y9 y10) (impl_critical.l1 (k + 1) y0 y1 y2 y3 y4 y5 y6 y7 y8 y9 y10))
  | 0 => ⟨fun _ _ _ _ _ _ r h => by simp [impl_critical.l0] at h, fun _ _ _ _ _ _ _ _ _ _ _ r h => by simp [impl_critical.l1] at h⟩
  | k + 1 => by
    obtain ⟨ih0, ih1⟩ := impl_critical.mono_l k
    refine ⟨?_, ?_⟩
    · intro y0 y1 y2 y3 y4 y5
      unfold impl_critical.l0
      repeat' first
      | (with_reducible exact ih0 _ _ _ _ _ _)
      | (with_reducible exact ih1 _ _ _ _ _ _ _ _ _ _ _)
      | (with_reducible exact LeO.refl _)
      | (with_reducible exact LeO.none _)
      | (with_reducible refine LeO.ite ?_ ?_)
      | (with_reducible refine LeO.bind ?_ (fun _ => ?_))
      | exact ih0 _ _ _ _ _ _
      | exact ih1 _ _ _ _ _ _ _ _ _ _ _
      | exact LeO.none _
      | refine LeO.ite ?_ ?_
      | refine LeO.bind ?_ (fun _ => ?_)
    · intro y0 y1 y2 y3 y4 y5 y6 y7 y8 y9 y10
      unfold impl_critical.l1
      repeat' first
      | (with_reducible exact ih0 _ _ _ _ _ _)
      | (with_reducible exact ih1 _ _ _ _ _ _ _ _ _ _ _)
      | (with_reducible exact LeO.refl _)
      | (with_reducible exact LeO.none _)
      | (with_reducible refine LeO.ite ?_ ?_)
      | (with_reducible refine LeO.bind ?_ (fun _ => ?_))
      | exact ih0 _ _ _ _ _ _
      | exact ih1 _ _ _ _ _ _ _ _ _ _ _
      | exact LeO.none _
      | refine LeO.ite ?_ ?_
      | refine LeO.bind ?_ (fun _ => ?_)
theorem impl_critical.mono : ∀ a0 a1 k, LeO (impl_critical.f k a0 a1) (impl_critical.f (k + 1) a0 a1) := by
  intro a0 a1 k
  obtain ⟨ih0, ih1⟩ := impl_critical.mono_l k
  unfold impl_critical.f
  repeat' first
      | (with_reducible exact ih0 _ _ _ _ _ _)
      | (with_reducible exact ih1 _ _ _ _ _ _ _ _ _ _ _)
      | (with_reducible exact LeO.refl _)
      | (with_reducible exact LeO.none _)
      | (with_reducible refine LeO.ite ?_ ?_)
      | (with_reducible refine LeO.bind ?_ (fun _ => ?_))
      | exact ih0 _ _ _ _ _ _
      | exact ih1 _ _ _ _ _ _ _ _ _ _ _
      | exact LeO.none _
      | refine LeO.ite ?_ ?_
      | refine LeO.bind ?_ (fun _ => ?_)
def impl_critical.T10 : Bool × List (List Nat × List Nat) := (true, [([], []), ([], []), ([], []), ([], []), ([2, 3], [2, 3]), ([4], [4]), ([], []), ([], []), ([7], [7]), ([8], [8]), ([6, 9], [6, 9]), ([10], [10]), ([5, 11], [5, 11]), ([0, 1, 0, 1, 2, 3, 4, 5, 6, 7, 8, 9, 10, 11, 12], [0, 1]), ([13, 12, 0, 1, 2, 3, 4, 5, 6, 7, 8, 9, 10, 11, 12], [12, 13])])
def impl_critical.B10 : List Nat := [0, 0, 0, 0, 12, 28, 0, 0, 128, 384, 960, 1984, 4092, 8191, 16383]
theorem impl_critical.tab10 : rtab .any (opsOf Try.f79 10) = impl_critical.T10 := by kernel_rfl
theorem impl_critical.bits10 : waitsOk impl_critical.T10.2 impl_critical.B10 = true := by kernel_rfl
set_option maxHeartbeats 8000000 in
set_option maxRecDepth 100000 in
theorem impl_critical.calls (k : Nat) (A0 : Option Addr) (c0 : Nat) (l0 : List Int) (A1 : Option Addr) (c1 : Nat) (l1 : List (List Int)) (r : Int) (w : World) (hr0 : Kd.C (Kd.int .i64) w A0 l0.length l0) (hc0 : l0.length ≤ c0) (hr1 : Kd.C (Kd.slice 3 (Kd.int .i64)) w A1 l1.length l1) (hc1 : l1.length ≤ c1) (h : impl_critical.f k l0 l1 = some r) :
    Calls Try.prog 79 #[.slice A0 l0.length c0, .slice A1 l1.length c1] w fun e w' => e = .returned (.int .i64 r) ∧ Below w.heap.size w w' := by
  have HR0 := Aside0.mk hr0
  have HC0 := Aside0.mk hc0
  clear hr0 hc0
  have HR1 := Aside0.mk hr1
  have HC1 := Aside0.mk hc1
  clear hr1 hc1
  have HB := Aside0.mk (Below.refl w.heap.size w)
  have H : (if 0 ≤ (l0.length : Int) then (if ((l0.length : Int) : Int).toNat ≤ 35184372088832 then (impl_critical.l0 k l1 (List.replicate ((l0.length : Int) : Int).toNat 0) 0 l0 (l0.length : Int) 0) else (none)) else (none)) = some r := h
  clear h
  by_cases c3 : 0 ≤ (l0.length : Int)
  · rw [if_pos c3] at H
    have c3b0 := eq_true c3
    have c3b1 : decide (0 ≤ (l0.length : Int)) = true := decide_eq_true c3
    clear c3
    by_cases c4 : ((l0.length : Int) : Int).toNat ≤ 35184372088832
    · rw [if_pos c4] at H
      have c4b0 := eq_true c4
      have c4b1 : decide (((l0.length : Int) : Int).toNat ≤ 35184372088832) = true := decide_eq_true c4
      clear c4
      obtain ⟨y810, hy810⟩ : ∃ y_ : List Int, y_ = (List.replicate ((l0.length : Int) : Int).toNat 0) := ⟨_, rfl⟩
      replace H : (impl_critical.l0 k l1 y810 0 l0 (l0.length : Int) 0) = some r := by first | (rw [hy810]; with_reducible exact H) | (have H2_ := (Option.bind_some _ _).symm.trans H; rw [hy810]; with_reducible exact H2_) | (have H2_ := (Option.bind_some _ _).symm.trans H; with_reducible exact H2_) | with_reducible exact H | (rw [hy810]; exact H) | exact H
      have Ny810 := Aside0.mk hy810
      clear hy810
      have H' := Aside0.mk H
      clear H
      go_enter Try.func79, Try.ntmps79
      go_wp2_with (first | ((with_reducible refine gate_dst (N := 13) rfl ?_); refine Kd.R_make (Kd.int .i64) _ 3 rfl (N := 13) rfl 39 _ _ rfl (l0.length : Int) rfl rfl Try.underlying39 (.int .i64 0) 8 info3 rfl (by decide) (by omega) 0 (ok := fun _ => True) (okp := fun _ => True) rfl (fun _ hk => hk) trivial (of_decide_eq_true (by first | (with_reducible assumption) | assumption)) (Nat.le_trans (Nat.mul_le_mul_right _ (of_decide_eq_true (by first | (with_reducible assumption) | assumption) : (l0.length : Int).toNat ≤ 35184372088832)) (by omega)) (Below.refl _ _) (Nat.le_refl _) ?_; intro v811 w5 ho6 hb hg_ hnew_; clear hg_ hnew_; (first | rw [← Ny810.out] at ho6 | (simp only [Int.reduceToNat] at ho6; rw [← Ny810.out] at ho6)); have n0_ := Aside0.mk (Kd.R_lower ho6 (below_size (by repeat (first | (with_reducible first | exact HB.out | apply below_alloc | apply pw_below_drewN | apply below_drew1) | exact HB.out)))); have n1_ := Aside0.mk (below_step (by repeat (first | (with_reducible first | exact HB.out | apply below_alloc | apply pw_below_drewN | apply below_drew1) | exact HB.out)) hb); clear HB; have HO812 := n0_; have HB := n1_; clear n0_ n1_; clear hb ho6))
      go_loopg [6, 16] k (fun kq v6 v16 w' => ∃ (x5_1 : List Int) (x6_1 : Int) (x16_1 : Int), v6 = .int .i64 x6_1 ∧ v16 = .int .i64 x16_1 ∧ Aside0 (impl_critical.l0 kq l1 x5_1 x6_1 l0 (l0.length : Int) x16_1 = some r) ∧ Aside0 (kq ≤ k) ∧ Aside0 (Kd.R (Kd.int .i64) 3 w' w.heap.size (fun _ => True) v811 x5_1) ∧ Aside0 (Below w.heap.size w w'))
      case atStart => exact ⟨(y810), (0), (0), (by first | rfl | (simp; done) | (simp [*]; done)), (by first | rfl | (simp; done) | (simp [*]; done)), H', ⟨Nat.le_refl _⟩, ⟨by (with_reducible repeat (first | apply Kd.R_alloc | apply Kd.R_drewN | apply Kd.R_drew)); exact HO812.out⟩, ⟨by repeat (first | (with_reducible first | exact HB.out | apply below_alloc | apply pw_below_drewN | apply below_drew1) | exact HB.out)⟩⟩
      case round =>
        clear H'
        try clear c1
        try clear p2
        try clear c3
        try clear c3b0
        try clear c3b1
        try clear c4
        try clear c4b0
        try clear c4b1
        obtain ⟨x5_1, x6_1, x16_1, rfl, rfl, HA, HK1, HO_5, HB⟩ := hrel
        cases gk with
        | zero => exact absurd HA.out (by simp [impl_critical.l0])
        | succ k1 =>
          have H := HA.out
          clear HA
          simp only [impl_critical.l0] at H
          by_cases c7 : x16_1 < (l0.length : Int)
          · rw [if_pos c7] at H
            have c7b0 : decide (x16_1 < (l0.length : Int)) = true := decide_eq_true c7
            clear c7
            by_cases c8 : 0 ≤ x16_1
            · rw [if_pos c8] at H
              have c8b0 : decide (0 ≤ x16_1) = true := decide_eq_true c8
              clear c8
              by_cases c9 : x16_1 < (l0.length : Int)
              · rw [if_pos c9] at H
                have c9b0 : decide (x16_1 < (l0.length : Int)) = true := decide_eq_true c9
                clear c9
                have H' := Aside0.mk H
                clear H
                have p813 : 0 ≤ (x16_1 : Int) := of_decide_eq_true (by first | (with_reducible assumption) | assumption)
                have q813 : x16_1 < (l0.length : Int) := of_decide_eq_true (by first | (with_reducible assumption) | assumption)
                obtain ⟨ad813, e813, hx813_0⟩ := Kd.at_int HR0.out x16_1 p813 q813
                cases e813
                replace hx813_0 := (HB.out.cell (World.block_lt_of_cell? w _ hx813_0)).trans hx813_0
                replace p813 := eq_true p813
                replace q813 := eq_true q813
                go_wp2
                go_loopg [23] k1 (fun kq v23 w' => ∃ (x5_2 : List Int) (x23_2 : Int), v23 = .int .i64 x23_2 ∧ Aside0 (impl_critical.l1 kq l1 x5_2 x6_1 x16_1 (rd l0 x16_1) l0 (l0.length : Int) x16_1 l1 (l1.length : Int) x23_2 = some r) ∧ Aside0 (kq ≤ k1) ∧ Aside0 (Kd.R (Kd.int .i64) 3 w' w.heap.size (fun _ => True) v811 x5_2) ∧ Aside0 (Below w.heap.size w w'))
                case atStart => exact ⟨(x5_1), (0), (by first | rfl | (simp; done) | (simp [*]; done)), H', ⟨Nat.le_refl _⟩, ⟨by (with_reducible repeat (first | apply Kd.R_alloc | apply Kd.R_drewN | apply Kd.R_drew)); exact HO_5.out⟩, ⟨by repeat (first | (with_reducible first | exact HB.out | apply below_alloc | apply pw_below_drewN | apply below_drew1) | exact HB.out)⟩⟩
                case round =>
                  clear H'
                  try clear c1
                  try clear p2
                  try clear c3
                  try clear c3b0
                  try clear c3b1
                  try clear c4
                  try clear c4b0
                  try clear c4b1
                  try clear c7
                  try clear c7b0
                  try clear c8
                  try clear c8b0
                  try clear p8
                  try clear q8
                  try clear hx8
                  try clear c9
                  try clear c9b0
                  try clear hx813_0
                  try clear p2
                  try clear p813
                  try clear q813
                  obtain ⟨x5_2, x23_2, rfl, HA, HK2, HO_5, HB⟩ := hrel
                  cases gk with
                  | zero => exact absurd HA.out (by simp [impl_critical.l1])
                  | succ k2 =>
                    have H := HA.out
                    clear HA
                    simp only [impl_critical.l1] at H
                    by_cases c10 : x23_2 < (l1.length : Int)
                    · rw [if_pos c10] at H
                      have c10b0 : decide (x23_2 < (l1.length : Int)) = true := decide_eq_true c10
                      clear c10
                      by_cases c11 : 0 ≤ x23_2
                      · rw [if_pos c11] at H
                        have c11b0 : decide (0 ≤ x23_2) = true := decide_eq_true c11
                        clear c11
                        by_cases c12 : x23_2 < (l1.length : Int)
                        · rw [if_pos c12] at H
                          have c12b0 : decide (x23_2 < (l1.length : Int)) = true := decide_eq_true c12
                          clear c12
                          by_cases c13 : 1 < ((rd_L5 l1 x23_2).length : Int)
                          · rw [if_pos c13] at H
                            have c13b0 : decide (1 < ((rd_L5 l1 x23_2).length : Int)) = true := decide_eq_true c13
                            have c13b1 : decide (1 < (rd_L5 l1 x23_2).length) = true := decide_eq_true (by omega)
                            clear c13
                            by_cases c14 : (rd (rd_L5 l1 x23_2) 1) = x16_1
                            · rw [if_pos c14] at H
                              have c14b0 : ((rd (rd_L5 l1 x23_2) 1) == x16_1) = true := beq_iff_eq.mpr c14
                              have c14b1 : ((rd (rd_L5 l1 x23_2) 1) != x16_1) = false := bne_eq_false_iff_eq.mpr c14
                              clear c14
                              by_cases c15 : 0 ≤ x16_1
                              · rw [if_pos c15] at H
                                have c15b0 : decide (0 ≤ x16_1) = true := decide_eq_true c15
                                clear c15
                                by_cases c16 : x16_1 < (x5_2.length : Int)
                                · rw [if_pos c16] at H
                                  have c16b0 : decide (x16_1 < (x5_2.length : Int)) = true := decide_eq_true c16
                                  clear c16
                                  by_cases c17 : 0 < ((rd_L5 l1 x23_2).length : Int)
                                  · rw [if_pos c17] at H
                                    have c17b0 : decide (0 < ((rd_L5 l1 x23_2).length : Int)) = true := decide_eq_true c17
                                    have c17b1 : decide (0 < (rd_L5 l1 x23_2).length) = true := decide_eq_true (by omega)
                                    clear c17
                                    by_cases c18 : 0 ≤ (rd (rd_L5 l1 x23_2) 0)
                                    · rw [if_pos c18] at H
                                      have c18b0 : decide (0 ≤ (rd (rd_L5 l1 x23_2) 0)) = true := decide_eq_true c18
                                      clear c18
                                      by_cases c19 : (rd (rd_L5 l1 x23_2) 0) < (x5_2.length : Int)
                                      · rw [if_pos c19] at H
                                        have c19b0 : decide ((rd (rd_L5 l1 x23_2) 0) < (x5_2.length : Int)) = true := decide_eq_true c19
                                        clear c19
                                        obtain ⟨ji20, hji20⟩ : ∃ j_ : Int, (mx (rd x5_2 x16_1) (rd x5_2 (rd (rd_L5 l1 x23_2) 0))) = j_ := ⟨_, rfl⟩
                                        replace H : (impl_critical.l1 k2 l1 (x5_2.set (x16_1 : Int).toNat (ji20)) x6_1 x16_1 (rd l0 x16_1) l0 (l0.length : Int) x16_1 l1 (l1.length : Int) (wrap64 (x23_2 + 1))) = some r := by first | (rw [hji20] at H; exact H) | (simp only [hji20] at H ⊢; exact H)
                                        have hji20_ : (if (rd x5_2 x16_1) < (rd x5_2 (rd (rd_L5 l1 x23_2) 0)) then (rd x5_2 (rd (rd_L5 l1 x23_2) 0)) else (rd x5_2 x16_1)) = ji20 := hji20
                                        obtain ⟨y819, hy819⟩ : ∃ y_ : List Int, y_ = (x5_2.set (x16_1 : Int).toNat (ji20)) := ⟨_, rfl⟩
                                        replace H : (impl_critical.l1 k2 l1 y819 x6_1 x16_1 (rd l0 x16_1) l0 (l0.length : Int) x16_1 l1 (l1.length : Int) (wrap64 (x23_2 + 1))) = some r := by first | (rw [hy819]; with_reducible exact H) | (have H2_ := (Option.bind_some _ _).symm.trans H; rw [hy819]; with_reducible exact H2_) | (have H2_ := (Option.bind_some _ _).symm.trans H; with_reducible exact H2_) | with_reducible exact H | (rw [hy819]; exact H) | exact H
                                        have Ny819 := Aside0.mk hy819
                                        clear hy819
                                        have H' := Aside0.mk H
                                        clear H
                                        have p814 : 0 ≤ (x23_2 : Int) := of_decide_eq_true (by first | (with_reducible assumption) | assumption)
                                        have q814 : x23_2 < (l1.length : Int) := of_decide_eq_true (by first | (with_reducible assumption) | assumption)
                                        obtain ⟨ad814, A814_0, c814_0, e814, hx814_0, hl814_0, hi814_0⟩ := at_L5 HR1.out x23_2 p814 q814
                                        cases e814
                                        replace hx814_0 := (HB.out.cell (World.block_lt_of_cell? w _ hx814_0)).trans hx814_0
                                        have HR814_0 := Aside0.mk hi814_0
                                        have HC814_0 := Aside0.mk hl814_0
                                        clear hi814_0 hl814_0
                                        replace p814 := eq_true p814
                                        replace q814 := eq_true q814
                                        have p815 : 0 ≤ (1 : Int) := (by omega)
                                        have q815 : 1 < ((rd_L5 l1 x23_2).length : Int) := of_decide_eq_true (by first | (with_reducible assumption) | assumption)
                                        obtain ⟨ad815, e815, hx815_0⟩ := Kd.at_int HR814_0.out 1 p815 q815
                                        cases e815
                                        (try simp only [show (1 : Int).toNat = 1 from rfl, Nat.reduceMul, Nat.reduceEqDiff, Go.Addr.add, ↓reduceIte] at hx815_0)
                                        have qi815 : (1 < (rd_L5 l1 x23_2).length) = True := eq_true (by omega)
                                        (try rw [show ((1 : Int)).toNat = 1 from rfl] at hx815_0)
                                        replace hx815_0 := (HB.out.cell (World.block_lt_of_cell? w _ hx815_0)).trans hx815_0
                                        replace p815 := eq_true p815
                                        replace q815 := eq_true q815
                                        try go_wp2
                                        have n0_ := Aside0.mk (Kd.R_drew HO_5.out)
                                        have n1_ := Aside0.mk (below_drew1 HB.out)
                                        clear HO_5
                                        clear HB
                                        have HO_5 := n0_
                                        have HB := n1_
                                        clear n0_ n1_
                                        obtain ⟨Ao23, co23, eo23⟩ := Kd.R_slice HO_5.out
                                        (first | subst eo23 | (injection eo23 with f1_ f2_ f3_; have f4_ := f1_.symm; have f5_ := f3_.symm; clear f1_ f2_ f3_; subst f4_; subst f5_))
                                        have p816 : 0 ≤ (x16_1 : Int) := of_decide_eq_true (by first | (with_reducible assumption) | assumption)
                                        have q816 : x16_1 < (x5_2.length : Int) := of_decide_eq_true (by first | (with_reducible assumption) | assumption)
                                        obtain ⟨ad816, e816, hx816_0⟩ := Kd.at_int (Kd.R_reads' HO_5.out).2.2 x16_1 p816 q816
                                        cases e816
                                        replace p816 := eq_true p816
                                        replace q816 := eq_true q816
                                        have p817 : 0 ≤ (0 : Int) := (by omega)
                                        have q817 : 0 < ((rd_L5 l1 x23_2).length : Int) := of_decide_eq_true (by first | (with_reducible assumption) | assumption)
                                        obtain ⟨ad817, e817, hx817_0⟩ := Kd.at_int HR814_0.out 0 p817 q817
                                        have hw817_0 := hx817_0
                                        (try rw [show ((0 : Int)).toNat = 0 from rfl] at hw817_0)
                                        (try rw [show 0 * 1 = 0 from rfl] at hw817_0)
                                        (try rw [Addr.add_zero'] at hw817_0)
                                        obtain rfl : ad815 = ad817 := (by injection e817)
                                        have qi817 : (0 < (rd_L5 l1 x23_2).length) = True := eq_true (by omega)
                                        (try rw [show ((0 : Int)).toNat = 0 from rfl] at hx817_0)
                                        (try rw [Addr.add_zero'] at hx817_0)
                                        replace hx817_0 := (HB.out.cell (World.block_lt_of_cell? w _ hx817_0)).trans hx817_0
                                        replace p817 := eq_true p817
                                        replace q817 := eq_true q817
                                        have p818 : 0 ≤ ((rd (rd_L5 l1 x23_2) 0) : Int) := of_decide_eq_true (by first | (with_reducible assumption) | assumption)
                                        have q818 : (rd (rd_L5 l1 x23_2) 0) < (x5_2.length : Int) := of_decide_eq_true (by first | (with_reducible assumption) | assumption)
                                        obtain ⟨ad818, e818, hx818_0⟩ := Kd.at_int (Kd.R_reads' HO_5.out).2.2 (rd (rd_L5 l1 x23_2) 0) p818 q818
                                        obtain rfl : ad816 = ad818 := (by injection e818)
                                        replace p818 := eq_true p818
                                        replace q818 := eq_true q818
                                        have p21 : 0 ≤ (x16_1 : Int) := of_decide_eq_true (by first | (with_reducible assumption) | assumption)
                                        have q21 : (x16_1 : Int) < ((x5_2.length : Int) : Int) := of_decide_eq_true (by first | (with_reducible assumption) | assumption)
                                        obtain ⟨go21, co21, eo21, gb21, gl21, cl21, HG21⟩ := Kd.R_form HO_5.out (by omega)
                                        (first | cases eo21 | (injection eo21 with ea_ en_ ec_; (first | subst ea_ | (injection ea_ with ea_; subst ea_)); subst ec_; clear en_))
                                        have GB21 := Aside0.mk gb21
                                        have GG21 := Aside0.mk HG21
                                        clear gb21 gl21 HG21
                                        (first | simp only [add_plain] at hx816_0 | skip)
                                        (first | simp only [add_plain] at hx818_0 | skip)
                                        obtain ⟨hx21_0, hf21_0⟩ := Kd.R_celln 0 HO_5.out (x16_1 : Int) p21 q21
                                        replace p21 := eq_true p21
                                        replace q21 := eq_true q21
                                        have HP24 := Kd.R_putn HO_5.out (x16_1 : Int) ji20
                                        rw [← Ny819.out] at HP24
                                        have HQ24 := Aside0.mk HP24
                                        clear HP24
                                        refine start_ (n := 15) (S := fun w' => w'.cell? ⟨go21, (x16_1).toNat, none⟩ = some (.int .i64 (rd x5_2 x16_1)) ∧ w'.cell? ad815 = some (.int .i64 (rd (rd_L5 l1 x23_2) 0)) ∧ w'.cell? ⟨go21, ((rd (rd_L5 l1 x23_2) 0)).toNat, none⟩ = some (.int .i64 (rd x5_2 (rd (rd_L5 l1 x23_2) 0)))) (ds := [14]) #[false, false, false, false, false, false, false, false, false, false, false, false, false, false, false] (by kernel_rfl) rfl rfl ⟨hx816_0, ((HB.out.cell (World.block_lt_of_cell? w _ hw817_0)).trans hw817_0), hx818_0⟩ (fun hHeld => ?_); refine with_tabW impl_critical.tab10 impl_critical.bits10 (fun HT_ HW_ => ?_)
                                        generalize wr.drew = w22 at HO_5 HB GG21 HQ24 hf21_0 hx21_0 hx816_0 hx817_0 hx818_0 hHeld ⊢
                                        refine pure_ (i := 0) (N := some 32) (v := ?_) (a' := ?_) #[true, false, false, false, false, false, false, false, false, false, false, false, false, false, false] rfl rfl (any_of HT_.out (by kernel_rfl)) (fun _ _ _ h => h) (Or.inl ⟨by rfl, ?_⟩) ?_ ?_
                                        rotate_left
                                        · intro w'
                                          go_simp
                                          with_reducible rfl
                                        rotate_left
                                        · simp only [Act.put, List.setIfInBounds_toArray, List.set_cons_zero, List.set_cons_succ, i64_w, i32_w]
                                          rfl
                                        refine pure_ (i := 1) (N := some 33) (v := ?_) (a' := ?_) #[true, true, false, false, false, false, false, false, false, false, false, false, false, false, false] rfl rfl (any_of HT_.out (by kernel_rfl)) (fun _ _ _ h => h) (Or.inl ⟨by rfl, ?_⟩) ?_ ?_
                                        rotate_left
                                        · intro w'
                                          go_simp
                                          with_reducible rfl
                                        rotate_left
                                        · simp only [Act.put, List.setIfInBounds_toArray, List.set_cons_zero, List.set_cons_succ, i64_w, i32_w]
                                          rfl
                                        refine pure_ (i := 2) (N := some 34) (v := ?_) (a' := ?_) #[true, true, true, false, false, false, false, false, false, false, false, false, false, false, false] rfl rfl (any_of HT_.out (by kernel_rfl)) (fun _ _ _ h => h) (Or.inl ⟨by rfl, ?_⟩) ?_ ?_
                                        rotate_left
                                        · intro w'
                                          go_simp
                                          with_reducible rfl
                                        rotate_left
                                        · simp only [Act.put, List.setIfInBounds_toArray, List.set_cons_zero, List.set_cons_succ, i64_w, i32_w]
                                          rfl
                                        refine pure_ (i := 3) (N := some 35) (v := ?_) (a' := ?_) #[true, true, true, true, false, false, false, false, false, false, false, false, false, false, false] rfl rfl (any_of HT_.out (by kernel_rfl)) (fun _ _ _ h => h) (Or.inl ⟨by rfl, ?_⟩) ?_ ?_
                                        rotate_left
                                        · intro w'
                                          go_simp
                                          with_reducible rfl
                                        rotate_left
                                        · simp only [Act.put, List.setIfInBounds_toArray, List.set_cons_zero, List.set_cons_succ, i64_w, i32_w]
                                          rfl
                                        refine pure_ (i := 4) (N := some 36) (v := ?_) (a' := ?_) #[true, true, true, true, true, false, false, false, false, false, false, false, false, false, false] rfl rfl (any_of HT_.out (by kernel_rfl)) (fun _ _ _ h => h) (Or.inl ⟨by rfl, ?_⟩) ?_ ?_
                                        rotate_left
                                        · intro w'
                                          go_simp
                                          with_reducible rfl
                                        rotate_left
                                        · simp only [Act.put, List.setIfInBounds_toArray, List.set_cons_zero, List.set_cons_succ, i64_w, i32_w]
                                          rfl
                                        refine pure_ (i := 6) (N := some 38) (v := ?_) (a' := ?_) #[true, true, true, true, true, false, true, false, false, false, false, false, false, false, false] rfl rfl (any_of HT_.out (by kernel_rfl)) (fun _ _ _ h => h) (Or.inl ⟨by rfl, ?_⟩) ?_ ?_
                                        rotate_left
                                        · intro w'
                                          go_simp
                                          with_reducible rfl
                                        rotate_left
                                        · simp only [Act.put, List.setIfInBounds_toArray, List.set_cons_zero, List.set_cons_succ, i64_w, i32_w]
                                          rfl
                                        refine pure_ (i := 7) (N := some 39) (v := ?_) (a' := ?_) #[true, true, true, true, true, false, true, true, false, false, false, false, false, false, false] rfl rfl (any_of HT_.out (by kernel_rfl)) (fun _ _ _ h => h) (Or.inl ⟨by rfl, ?_⟩) ?_ ?_
                                        rotate_left
                                        · intro w'
                                          go_simp
                                          with_reducible rfl
                                        rotate_left
                                        · simp only [Act.put, List.setIfInBounds_toArray, List.set_cons_zero, List.set_cons_succ, i64_w, i32_w]
                                          rfl
                                        refine pure_ (i := 8) (N := some 40) (v := ?_) (a' := ?_) #[true, true, true, true, true, false, true, true, true, false, false, false, false, false, false] rfl rfl (any_of HT_.out (by kernel_rfl)) (fun _ _ _ h => h) (Or.inl ⟨by rfl, ?_⟩) ?_ ?_
                                        rotate_left
                                        · intro w'
                                          go_simp
                                          with_reducible rfl
                                        rotate_left
                                        · simp only [Act.put, List.setIfInBounds_toArray, List.set_cons_zero, List.set_cons_succ, i64_w, i32_w]
                                          rfl
                                        refine take_ (i := 5) (N := some 37) (v := ?_) (a' := ?_) #[true, true, true, true, true, true, true, true, true, false, false, false, false, false, false] rfl rfl (take_ofW HT_.out HW_.out (by kernel_rfl)) (fun _ _ _ h => h) (Or.inl ⟨by rfl, ?_⟩) hHeld ?_ ?_
                                        rotate_left
                                        · rintro w' ⟨s0, s1, s2⟩
                                          go_simp
                                          with_reducible rfl
                                        rotate_left
                                        · simp only [Act.put, List.setIfInBounds_toArray, List.set_cons_zero, List.set_cons_succ, i64_w, i32_w]
                                          rfl
                                        refine take_ (i := 9) (N := some 41) (v := ?_) (a' := ?_) #[true, true, true, true, true, true, true, true, true, true, false, false, false, false, false] rfl rfl (take_ofW HT_.out HW_.out (by kernel_rfl)) (fun _ _ _ h => h) (Or.inl ⟨by rfl, ?_⟩) hHeld ?_ ?_
                                        rotate_left
                                        · rintro w' ⟨s0, s1, s2⟩
                                          go_simp
                                          with_reducible rfl
                                        rotate_left
                                        · simp only [Act.put, List.setIfInBounds_toArray, List.set_cons_zero, List.set_cons_succ, i64_w, i32_w]
                                          rfl
                                        refine pure_ (i := 10) (N := some 42) (v := ?_) (a' := ?_) #[true, true, true, true, true, true, true, true, true, true, true, false, false, false, false] rfl rfl (any_of HT_.out (by kernel_rfl)) (fun _ _ _ h => h) (Or.inl ⟨by rfl, ?_⟩) ?_ ?_
                                        rotate_left
                                        · intro w'
                                          go_simp
                                          with_reducible rfl
                                        rotate_left
                                        · simp only [Act.put, List.setIfInBounds_toArray, List.set_cons_zero, List.set_cons_succ, i64_w, i32_w]
                                          rfl
                                        refine take_ (i := 11) (N := some 43) (v := ?_) (a' := ?_) #[true, true, true, true, true, true, true, true, true, true, true, true, false, false, false] rfl rfl (take_ofW HT_.out HW_.out (by kernel_rfl)) (fun _ _ _ h => h) (Or.inl ⟨by rfl, ?_⟩) hHeld ?_ ?_
                                        rotate_left
                                        · rintro w' ⟨s0, s1, s2⟩
                                          go_simp
                                          with_reducible rfl
                                        rotate_left
                                        · simp only [Act.put, List.setIfInBounds_toArray, List.set_cons_zero, List.set_cons_succ, i64_w, i32_w]
                                          rfl
                                        refine pure_ (i := 12) (N := some 44) (v := ?_) (a' := ?_) #[true, true, true, true, true, true, true, true, true, true, true, true, true, false, false] rfl rfl (any_of HT_.out (by kernel_rfl)) (fun _ _ _ h => h) (Or.inl ⟨by rfl, ?_⟩) ?_ ?_
                                        rotate_left
                                        · intro w'
                                          go_simp
                                          with_reducible rfl
                                        rotate_left
                                        · simp only [Act.put, List.setIfInBounds_toArray, List.set_cons_zero, List.set_cons_succ, i64_w, i32_w]
                                          rfl
                                        refine pure_ (i := 13) (N := some 45) (v := ?_) (a' := ?_) #[true, true, true, true, true, true, true, true, true, true, true, true, true, true, false] rfl rfl (any_of HT_.out (by kernel_rfl)) (fun _ _ _ h => h) (Or.inl ⟨by rfl, ?_⟩) ?_ ?_
                                        rotate_left
                                        · intro w'
                                          go_simp
                                          with_reducible rfl
                                        rotate_left
                                        · simp only [Act.put, List.setIfInBounds_toArray, List.set_cons_zero, List.set_cons_succ, i64_w, i32_w]
                                          rfl
                                        refine last_ (i := 14) (N := none) #[true, true, true, true, true, true, true, true, true, true, true, true, true, true, true] rfl rfl (one_of HT_.out (by kernel_rfl)) (by decide) (fun K hK => ?_)
                                        refine skip_ (w1 := ?_) (by rfl) rfl ?_ ?_
                                        rotate_left
                                        · go_simp
                                          rfl
                                        refine hK.out _ _ ?_
                                        clear hK K
                                        refine done_ (done_of HT_.out (by kernel_rfl)) ?_
                                        try go_wp2
                                        go_roundg k2
                                        case measure => have := HK1.out; have := HK2.out; omega
                                        case rel => exact ⟨(y819), (wrap64 (x23_2 + 1)), (by first | rfl | (simp; done) | (simp [*]; done)), H', ⟨by have := HK1.out; have := HK2.out; omega⟩, ⟨by (with_reducible repeat (first | apply Kd.R_alloc | apply Kd.R_drewN | apply Kd.R_drew)); exact HQ24.out⟩, ⟨by repeat (first | (with_reducible first | exact HB.out | apply below_alloc | apply pw_below_drewN | apply below_drew1 | refine below_set ?_ GB21.out) | exact HB.out)⟩⟩
                                      · rw [if_neg c19] at H
                                        exact absurd H (by simp)
                                    · rw [if_neg c18] at H
                                      exact absurd H (by simp)
                                  · rw [if_neg c17] at H
                                    exact absurd H (by simp)
                                · rw [if_neg c16] at H
                                  exact absurd H (by simp)
                              · rw [if_neg c15] at H
                                exact absurd H (by simp)
                            · rw [if_neg c14] at H
                              have c14b0 : ((rd (rd_L5 l1 x23_2) 1) == x16_1) = false := beq_eq_false_iff_ne.mpr c14
                              have c14b1 : ((rd (rd_L5 l1 x23_2) 1) != x16_1) = true := bne_iff_ne.mpr c14
                              have H' := Aside0.mk H
                              clear H
                              have p814 : 0 ≤ (x23_2 : Int) := of_decide_eq_true (by first | (with_reducible assumption) | assumption)
                              have q814 : x23_2 < (l1.length : Int) := of_decide_eq_true (by first | (with_reducible assumption) | assumption)
                              obtain ⟨ad814, A814_0, c814_0, e814, hx814_0, hl814_0, hi814_0⟩ := at_L5 HR1.out x23_2 p814 q814
                              cases e814
                              replace hx814_0 := (HB.out.cell (World.block_lt_of_cell? w _ hx814_0)).trans hx814_0
                              have HR814_0 := Aside0.mk hi814_0
                              have HC814_0 := Aside0.mk hl814_0
                              clear hi814_0 hl814_0
                              replace p814 := eq_true p814
                              replace q814 := eq_true q814
                              have p815 : 0 ≤ (1 : Int) := (by omega)
                              have q815 : 1 < ((rd_L5 l1 x23_2).length : Int) := of_decide_eq_true (by first | (with_reducible assumption) | assumption)
                              obtain ⟨ad815, e815, hx815_0⟩ := Kd.at_int HR814_0.out 1 p815 q815
                              cases e815
                              (try simp only [show (1 : Int).toNat = 1 from rfl, Nat.reduceMul, Nat.reduceEqDiff, Go.Addr.add, ↓reduceIte] at hx815_0)
                              have qi815 : (1 < (rd_L5 l1 x23_2).length) = True := eq_true (by omega)
                              (try rw [show ((1 : Int)).toNat = 1 from rfl] at hx815_0)
                              replace hx815_0 := (HB.out.cell (World.block_lt_of_cell? w _ hx815_0)).trans hx815_0
                              replace p815 := eq_true p815
                              replace q815 := eq_true q815
                              go_wp2
                              go_roundg k2
                              case measure => have := HK1.out; have := HK2.out; omega
                              case rel => exact ⟨(x5_2), (wrap64 (x23_2 + 1)), (by first | rfl | (simp; done) | (simp [*]; done)), H', ⟨by have := HK1.out; have := HK2.out; omega⟩, ⟨by (with_reducible repeat (first | apply Kd.R_alloc | apply Kd.R_drewN | apply Kd.R_drew)); exact HO_5.out⟩, ⟨by repeat (first | (with_reducible first | exact HB.out | apply below_alloc | apply pw_below_drewN | apply below_drew1) | exact HB.out)⟩⟩
                          · rw [if_neg c13] at H
                            exact absurd H (by simp)
                        · rw [if_neg c12] at H
                          exact absurd H (by simp)
                      · rw [if_neg c11] at H
                        exact absurd H (by simp)
                    · rw [if_neg c10] at H
                      have c10b0 : decide (x23_2 < (l1.length : Int)) = false := decide_eq_false c10
                      clear c10
                      by_cases c25 : 0 ≤ x16_1
                      · rw [if_pos c25] at H
                        have c25b0 : decide (0 ≤ x16_1) = true := decide_eq_true c25
                        clear c25
                        by_cases c26 : x16_1 < (x5_2.length : Int)
                        · rw [if_pos c26] at H
                          have c26b0 : decide (x16_1 < (x5_2.length : Int)) = true := decide_eq_true c26
                          clear c26
                          obtain ⟨y821, hy821⟩ : ∃ y_ : List Int, y_ = (x5_2.set (x16_1 : Int).toNat (wrap64 ((rd x5_2 x16_1) + (rd l0 x16_1)))) := ⟨_, rfl⟩
                          replace H : (impl_critical.l0 k2 l1 y821 (mx x6_1 (rd y821 x16_1)) l0 (l0.length : Int) (wrap64 (x16_1 + 1))) = some r := by first | (rw [hy821]; with_reducible exact H) | (have H2_ := (Option.bind_some _ _).symm.trans H; rw [hy821]; with_reducible exact H2_) | (have H2_ := (Option.bind_some _ _).symm.trans H; with_reducible exact H2_) | with_reducible exact H | (rw [hy821]; exact H) | exact H
                          have Ny821 := Aside0.mk hy821
                          clear hy821
                          obtain ⟨ji28, hji28⟩ : ∃ j_ : Int, (mx x6_1 (rd y821 x16_1)) = j_ := ⟨_, rfl⟩
                          replace H : (impl_critical.l0 k2 l1 y821 ji28 l0 (l0.length : Int) (wrap64 (x16_1 + 1))) = some r := by first | (rw [hji28] at H; exact H) | (simp only [hji28] at H ⊢; exact H)
                          have hji28_ : (if x6_1 < (rd y821 x16_1) then (rd y821 x16_1) else x6_1) = ji28 := hji28
                          have H' := Aside0.mk H
                          clear H
                          obtain ⟨Ao29, co29, eo29⟩ := Kd.R_slice HO_5.out
                          subst eo29
                          have p820 : 0 ≤ (x16_1 : Int) := of_decide_eq_true (by first | (with_reducible assumption) | assumption)
                          have q820 : x16_1 < (x5_2.length : Int) := of_decide_eq_true (by first | (with_reducible assumption) | assumption)
                          obtain ⟨ad820, e820, hx820_0⟩ := Kd.at_int (Kd.R_reads' HO_5.out).2.2 x16_1 p820 q820
                          cases e820
                          replace p820 := eq_true p820
                          replace q820 := eq_true q820
                          have p27 : 0 ≤ (x16_1 : Int) := of_decide_eq_true (by first | (with_reducible assumption) | assumption)
                          have q27 : (x16_1 : Int) < ((x5_2.length : Int) : Int) := of_decide_eq_true (by first | (with_reducible assumption) | assumption)
                          obtain ⟨go27, co27, eo27, gb27, gl27, cl27, HG27⟩ := Kd.R_form HO_5.out (by omega)
                          (first | cases eo27 | (injection eo27 with ea_ en_ ec_; (first | subst ea_ | (injection ea_ with ea_; subst ea_)); subst ec_; clear en_))
                          have GB27 := Aside0.mk gb27
                          have GG27 := Aside0.mk HG27
                          clear gb27 gl27 HG27
                          (first | simp only [add_plain] at hx820_0 | skip)
                          obtain ⟨hx27_0, hf27_0⟩ := Kd.R_celln 0 HO_5.out (x16_1 : Int) p27 q27
                          replace p27 := eq_true p27
                          replace q27 := eq_true q27
                          have HP30 := Kd.R_putg HO_5.out (x16_1 : Int) (wrap64 ((rd x5_2 x16_1) + (rd l0 x16_1)))
                          go_wp2_with (first | ((with_reducible refine gate_store (t := 3) (p := 53) rfl ?_); refine store_event (t := 3) (p := 53) (v := ?vo_w31) (w1 := (wr.setCell ⟨go27, (x16_1 : Int).toNat, none⟩ (.int .i64 (wrap64 ((rd x5_2 x16_1) + (rd l0 x16_1)))))) ?hg ?ho ?hn ?hr ?_; (case ho => rfl); (case hg => rfl); (case hn => rfl); (case hr => first | (go_simp; done) | (go_simp; rfl)); intro w31 hw; have hg : wr.grownBy w31 (some go27) := (by rw [hw]; exact HP30.2); have hp_ : Kd.R (Kd.int .i64) 3 w31 w.heap.size (fun _ => True) (.slice (some ⟨go27, 0, none⟩) x5_2.length co29) y821 := (by rw [hw, Ny821.out]; exact HP30.1); clear HP30; have n0_ := Aside0.mk (hp_); have n1_ := Aside0.mk ((by rw [hw]; exact below_set (HB.out) GB27.out : Below w.heap.size w w31)); clear HO_5; clear HB; have HO_5 := n0_; have HB := n1_; clear n0_ n1_; clear hg hw hp_; have p822 : 0 ≤ (x16_1 : Int) := of_decide_eq_true (by first | (with_reducible assumption) | assumption); have q822 : x16_1 < (y821.length : Int) := (by have h_ : (x16_1 : Int) < ((x5_2.length : Int) : Int) := of_decide_eq_true (by first | (with_reducible assumption) | assumption); first | (have e_ := (Kd.R_reads' HO_5.out).1; omega) | simpa only [Ny821.out, List.length_set] using h_); have ql822 : ((x16_1 : Int) < ((x5_2.length : Int) : Int)) = True := eq_true (of_decide_eq_true (by first | (with_reducible assumption) | assumption)); obtain ⟨ad822, e822, hx822_0⟩ := Kd.at_int (Kd.R_reads' HO_5.out).2.2 x16_1 p822 q822; obtain rfl : (⟨go27, 0, none⟩ : Addr) = ad822 := (by injection e822); (first | simp only [add_plain] at hx822_0 | simp only [add_at] at hx822_0 | simp only [Addr.add, Nat.zero_add] at hx822_0 | skip); replace p822 := eq_true p822; replace q822 := eq_true q822))
                          go_roundg k2
                          case measure => have := HK1.out; have := HK2.out; omega
                          case rel => exact ⟨(y821), (ji28), (wrap64 (x16_1 + 1)), (by first | rfl | (simp; done) | (simp only [← hji28] <;> (first | rfl | simp)) | (simp [*]; done)), (by first | rfl | (simp; done) | (simp [*]; done)), H', ⟨by have := HK1.out; have := HK2.out; omega⟩, ⟨by (with_reducible repeat (first | apply Kd.R_alloc | apply Kd.R_drewN | apply Kd.R_drew)); exact HO_5.out⟩, ⟨by repeat (first | (with_reducible first | exact HB.out | apply below_alloc | apply pw_below_drewN | apply below_drew1) | exact HB.out)⟩⟩
                        · rw [if_neg c26] at H
                          exact absurd H (by simp)
                      · rw [if_neg c25] at H
                        exact absurd H (by simp)
              · rw [if_neg c9] at H
                exact absurd H (by simp)
            · rw [if_neg c8] at H
              exact absurd H (by simp)
          · rw [if_neg c7] at H
            have c7b0 : decide (x16_1 < (l0.length : Int)) = false := decide_eq_false c7
            clear c7
            obtain rfl := Option.some.inj H
            go_wp2
            go_ret
            exact ⟨by first | rfl | (simp [errW_none, errW_some] <;> rfl) | (simp [*, errW_none, errW_some] <;> rfl), by repeat (first | (with_reducible first | exact HB.out | apply below_alloc | apply pw_below_drewN | apply below_drew1) | exact HB.out)⟩
    · rw [if_neg c4] at H
      exact absurd H (by simp)
  · rw [if_neg c3] at H
    exact absurd H (by simp)

end Go.Proofs.Ytkmpcmhkfnoeiaa.P
-- Laid by a program of this work.
namespace Go.Proofs.Ytkmpcmhkfnoeiaa.P
open Go.RowKit Go.Proofs.YtkmpcmhkfnoeiaaW.PrintWords Go.Proofs.YtkmpcmhkfnoeiaaW.PrintLast Go.Proofs.YtkmpcmhkfnoeiaaW.PrintMore
attribute [local go_sem] max2_int min2_int max_two min_two max_three min_three max_four min_four   -- for this text's walks alone
set_option linter.unusedVariables false
set_option linter.unusedSimpArgs false

/-! ### impl_CriticalPath: function 49 -/
def impl_CriticalPath.f (k : Nat) (l0 : List Int) (l1 : List (List Int)) : Option (Int) := (impl_GraphValid.f k l0 l1).bind fun t823 => (if t823 = true then ((impl_critical.f k l0 l1).bind fun t824 => (some t824)) else (some (-1)))
theorem impl_CriticalPath.mono : ∀ a0 a1 k, LeO (impl_CriticalPath.f k a0 a1) (impl_CriticalPath.f (k + 1) a0 a1) := by
  intro a0 a1 k
  unfold impl_CriticalPath.f
  repeat' first
      | (with_reducible exact impl_GraphValid.mono _ _ _)
      | (with_reducible exact impl_critical.mono _ _ _)
      | (with_reducible exact LeO.refl _)
      | (with_reducible exact LeO.none _)
      | (with_reducible refine LeO.ite ?_ ?_)
      | (with_reducible refine LeO.bind ?_ (fun _ => ?_))
      | exact impl_GraphValid.mono _ _ _
      | exact impl_critical.mono _ _ _
      | exact LeO.none _
      | refine LeO.ite ?_ ?_
      | refine LeO.bind ?_ (fun _ => ?_)
set_option maxHeartbeats 8000000 in
set_option maxRecDepth 100000 in
theorem impl_CriticalPath.calls (k : Nat) (A0 : Option Addr) (c0 : Nat) (l0 : List Int) (A1 : Option Addr) (c1 : Nat) (l1 : List (List Int)) (r : Int) (w : World) (hr0 : Kd.C (Kd.int .i64) w A0 l0.length l0) (hc0 : l0.length ≤ c0) (hr1 : Kd.C (Kd.slice 3 (Kd.int .i64)) w A1 l1.length l1) (hc1 : l1.length ≤ c1) (h : impl_CriticalPath.f k l0 l1 = some r) :
    Calls Try.prog 49 #[.slice A0 l0.length c0, .slice A1 l1.length c1] w fun e w' => e = .returned (.int .i64 r) ∧ Below w.heap.size w w' := by
  have HR0 := Aside0.mk hr0
  have HC0 := Aside0.mk hc0
  clear hr0 hc0
  have HR1 := Aside0.mk hr1
  have HC1 := Aside0.mk hc1
  clear hr1 hc1
  have HB := Aside0.mk (Below.refl w.heap.size w)
  have H : ((impl_GraphValid.f k l0 l1).bind fun t823 => (if t823 = true then ((impl_critical.f k l0 l1).bind fun t824 => (some t824)) else (some (-1)))) = some r := h
  clear h
  replace H := Option.bind_eq_some_iff.mp H
  obtain ⟨t823, A30, H⟩ := H
  replace H : (if t823 = true then ((impl_critical.f k l0 l1).bind fun t824 => (some t824)) else (some (-1))) = some r := H
  have A3 := Aside0.mk A30
  clear A30
  by_cases c4 : t823 = true
  · subst c4
    have H1 : ((impl_critical.f k l0 l1).bind fun t824 => (some t824)) = some r := by rw [if_pos rfl] at H; exact H
    clear H
    have H := H1
    clear H1
    replace H := Option.bind_eq_some_iff.mp H
    obtain ⟨t824, A50, H⟩ := H
    replace H : (some t824) = some r := H
    have A5 := Aside0.mk A50
    clear A50
    obtain rfl := Option.some.inj H
    go_enter Try.func49, Try.ntmps49
    go_wp2_with (first | ((with_reducible refine gate_callee (f := 43) rfl ?_); refine goesL_ (some 7) rfl rfl Try.func43 (by kernel_rfl) rfl #[.slice A0 l0.length c0, .slice A1 l1.length c1] rfl (by (try simp only [List.map_toArray, List.map_cons, List.map_nil]); first | done | rfl | (simp only [List.length_drop, List.length_take]; rfl)) ?_; (with_reducible refine (impl_GraphValid.calls k _ _ l0 _ _ l1 true _ ?side1 ?side2 ?side3 ?side4 A3.out).mono ?_); (case side1 => repeat (first | exact HR0.out | (with_reducible refine Kd.C_alloc ?_ _) | (with_reducible refine Kd.C_drewN ?_ _) | (with_reducible refine Kd.C_drew ?_))); (case side2 => exact HC0.out); (case side3 => repeat (first | exact HR1.out | (with_reducible refine Kd.C_alloc ?_ _) | (with_reducible refine Kd.C_drewN ?_ _) | (with_reducible refine Kd.C_drew ?_))); (case side4 => exact HC1.out); rintro e w6 ⟨rfl, hb⟩; refine ⟨_, rfl, ?_⟩; have n0_ := Aside0.mk (below_step (by repeat (first | (with_reducible first | exact HB.out | apply below_alloc | apply pw_below_drewN | apply below_drew1) | exact HB.out)) hb); clear HB; have HB := n0_; clear n0_; (try clear hb); (try clear hb2); (try clear hk); (try clear hi)) | ((with_reducible refine gate_callee (f := 79) rfl ?_); refine goesL_ (some 11) rfl rfl Try.func79 (by kernel_rfl) rfl #[.slice A0 l0.length c0, .slice A1 l1.length c1] rfl (by (try simp only [List.map_toArray, List.map_cons, List.map_nil]); first | done | rfl | (simp only [List.length_drop, List.length_take]; rfl)) ?_; (with_reducible refine (impl_critical.calls k _ _ l0 _ _ l1 t824 _ ?side1 ?side2 ?side3 ?side4 A5.out).mono ?_); (case side1 => repeat (first | exact (Kd.C_below HR0.out HB.out) | (with_reducible refine Kd.C_alloc ?_ _) | (with_reducible refine Kd.C_drewN ?_ _) | (with_reducible refine Kd.C_drew ?_))); (case side2 => exact HC0.out); (case side3 => repeat (first | exact (Kd.C_below HR1.out HB.out) | (with_reducible refine Kd.C_alloc ?_ _) | (with_reducible refine Kd.C_drewN ?_ _) | (with_reducible refine Kd.C_drew ?_))); (case side4 => exact HC1.out); rintro e w7 ⟨rfl, hb⟩; refine ⟨_, rfl, ?_⟩; have n0_ := Aside0.mk (below_step (by repeat (first | (with_reducible first | exact HB.out | apply below_alloc | apply pw_below_drewN | apply below_drew1) | exact HB.out)) hb); clear HB; have HB := n0_; clear n0_; (try clear hb); (try clear hb2); (try clear hk); (try clear hi)))
    go_ret
    exact ⟨by first | rfl | (simp [errW_none, errW_some] <;> rfl) | (simp [*, errW_none, errW_some] <;> rfl), by repeat (first | (with_reducible first | exact HB.out | apply below_alloc | apply pw_below_drewN | apply below_drew1) | exact HB.out)⟩
  · replace c4 := Bool.eq_false_iff.mpr c4
    subst c4
    have H1 : (some (-1)) = some r := by rw [if_neg (show ¬ (false = true) by decide)] at H; exact H
    clear H
    have H := H1
    clear H1
    obtain rfl := Option.some.inj H
    go_enter Try.func49, Try.ntmps49
    go_wp2_with (first | ((with_reducible refine gate_callee (f := 43) rfl ?_); refine goesL_ (some 7) rfl rfl Try.func43 (by kernel_rfl) rfl #[.slice A0 l0.length c0, .slice A1 l1.length c1] rfl (by (try simp only [List.map_toArray, List.map_cons, List.map_nil]); first | done | rfl | (simp only [List.length_drop, List.length_take]; rfl)) ?_; (with_reducible refine (impl_GraphValid.calls k _ _ l0 _ _ l1 false _ ?side1 ?side2 ?side3 ?side4 A3.out).mono ?_); (case side1 => repeat (first | exact HR0.out | (with_reducible refine Kd.C_alloc ?_ _) | (with_reducible refine Kd.C_drewN ?_ _) | (with_reducible refine Kd.C_drew ?_))); (case side2 => exact HC0.out); (case side3 => repeat (first | exact HR1.out | (with_reducible refine Kd.C_alloc ?_ _) | (with_reducible refine Kd.C_drewN ?_ _) | (with_reducible refine Kd.C_drew ?_))); (case side4 => exact HC1.out); rintro e w8 ⟨rfl, hb⟩; refine ⟨_, rfl, ?_⟩; have n0_ := Aside0.mk (below_step (by repeat (first | (with_reducible first | exact HB.out | apply below_alloc | apply pw_below_drewN | apply below_drew1) | exact HB.out)) hb); clear HB; have HB := n0_; clear n0_; (try clear hb); (try clear hb2); (try clear hk); (try clear hi)))
    go_ret
    exact ⟨by first | rfl | (simp [errW_none, errW_some] <;> rfl) | (simp [*, errW_none, errW_some] <;> rfl), by repeat (first | (with_reducible first | exact HB.out | apply below_alloc | apply pw_below_drewN | apply below_drew1) | exact HB.out)⟩

end Go.Proofs.Ytkmpcmhkfnoeiaa.P
-- Laid by a program of this work.
namespace Go.Proofs.Ytkmpcmhkfnoeiaa.P
open Go.RowKit Go.Proofs.YtkmpcmhkfnoeiaaW.PrintWords Go.Proofs.YtkmpcmhkfnoeiaaW.PrintLast Go.Proofs.YtkmpcmhkfnoeiaaW.PrintMore
attribute [local go_sem] max2_int min2_int max_two min_two max_three min_three max_four min_four   -- for this text's walks alone
set_option linter.unusedVariables false
set_option linter.unusedSimpArgs false

/-! ### spec_MakespanBound: function 51 -/
def spec_MakespanBound.j0 : Nat → List Int → List (List Int) → Int → Bool → Option (Int)
  | 0, _, _, _, _ => none
  | k + 1, x0, x1, x2, x16 => if x16 = true then (some (-1)) else ((spec_CriticalPath.f k x0 x1).bind fun t889 => ((spec_Volume.f k x0 x1).bind fun t890 => (if x2 = 0 then (none) else (some (wrap64 (t889 + (wrap64 (Int.tdiv (wrap64 (t890 - t889)) x2))))))))
def spec_MakespanBound.f (k : Nat) (l0 : List Int) (l1 : List (List Int)) (a2 : Int) : Option (Int) := (spec_GraphValid.f k l0 l1).bind fun t887 => (if t887 = true then ((spec_l1In.f a2 1 5).bind fun t888 => (spec_MakespanBound.j0 k l0 l1 a2 (!t888))) else (spec_MakespanBound.j0 k l0 l1 a2 true))
theorem spec_MakespanBound.mono_l : ∀ k, (∀ y0 y1 y2 y3, LeO (spec_MakespanBound.j0 k y0 y1 y2 y3) (spec_MakespanBound.j0 (k + 1) y0 y1 y2 y3))
  | 0 => fun _ _ _ _ r h => by simp [spec_MakespanBound.j0] at h
  | k + 1 => by
    have ih0 := spec_MakespanBound.mono_l k
    · intro y0 y1 y2 y3
      unfold spec_MakespanBound.j0
      repeat' first
      | (with_reducible exact ih0 _ _ _ _)
      | (with_reducible exact spec_CriticalPath.mono _ _ _)
      | (with_reducible exact spec_GraphValid.mono _ _ _)
      | (with_reducible exact spec_Volume.mono _ _ _)
      | (with_reducible exact LeO.refl _)
      | (with_reducible exact LeO.none _)
      | (with_reducible refine LeO.ite ?_ ?_)
      | (with_reducible refine LeO.bind ?_ (fun _ => ?_))
      | exact ih0 _ _ _ _
      | exact spec_CriticalPath.mono _ _ _
      | exact spec_GraphValid.mono _ _ _
      | exact spec_Volume.mono _ _ _
      | exact LeO.none _
      | refine LeO.ite ?_ ?_
      | refine LeO.bind ?_ (fun _ => ?_)
theorem spec_MakespanBound.mono : ∀ a0 a1 a2 k, LeO (spec_MakespanBound.f k a0 a1 a2) (spec_MakespanBound.f (k + 1) a0 a1 a2) := by
  intro a0 a1 a2 k
  have ih0 := spec_MakespanBound.mono_l k
  unfold spec_MakespanBound.f
  repeat' first
      | (with_reducible exact ih0 _ _ _ _)
      | (with_reducible exact spec_CriticalPath.mono _ _ _)
      | (with_reducible exact spec_GraphValid.mono _ _ _)
      | (with_reducible exact spec_Volume.mono _ _ _)
      | (with_reducible exact LeO.refl _)
      | (with_reducible exact LeO.none _)
      | (with_reducible refine LeO.ite ?_ ?_)
      | (with_reducible refine LeO.bind ?_ (fun _ => ?_))
      | exact ih0 _ _ _ _
      | exact spec_CriticalPath.mono _ _ _
      | exact spec_GraphValid.mono _ _ _
      | exact spec_Volume.mono _ _ _
      | exact LeO.none _
      | refine LeO.ite ?_ ?_
      | refine LeO.bind ?_ (fun _ => ?_)
set_option maxHeartbeats 8000000 in
set_option maxRecDepth 100000 in
theorem spec_MakespanBound.calls (k : Nat) (A0 : Option Addr) (c0 : Nat) (l0 : List Int) (A1 : Option Addr) (c1 : Nat) (l1 : List (List Int)) (a2 : Int) (r : Int) (w : World) (hr0 : Kd.C (Kd.int .i64) w A0 l0.length l0) (hc0 : l0.length ≤ c0) (hr1 : Kd.C (Kd.slice 3 (Kd.int .i64)) w A1 l1.length l1) (hc1 : l1.length ≤ c1) (h : spec_MakespanBound.f k l0 l1 a2 = some r) :
    Calls Try.prog 51 #[.slice A0 l0.length c0, .slice A1 l1.length c1, .int .i64 a2] w fun e w' => e = .returned (.int .i64 r) ∧ Below w.heap.size w w' := by
  have HR0 := Aside0.mk hr0
  have HC0 := Aside0.mk hc0
  clear hr0 hc0
  have HR1 := Aside0.mk hr1
  have HC1 := Aside0.mk hc1
  clear hr1 hc1
  have HB := Aside0.mk (Below.refl w.heap.size w)
  have H : ((spec_GraphValid.f k l0 l1).bind fun t887 => (if t887 = true then ((spec_l1In.f a2 1 5).bind fun t888 => (spec_MakespanBound.j0 k l0 l1 a2 (!t888))) else (spec_MakespanBound.j0 k l0 l1 a2 true))) = some r := h
  clear h
  have HC4 := Aside0.mk H
  clear H
  go_enter Try.func51, Try.ntmps51
  go_upto_region 1 with (fail)
  go_cut [16] (fun v16 wc => ∃ (kq : Nat) (x16_3 : Bool), v16 = .bool x16_3 ∧ Aside0 (spec_MakespanBound.j0 kq l0 l1 a2 x16_3 = some r) ∧ Aside0 (kq ≤ k) ∧ Aside0 (Below w.heap.size w wc))
  case first =>
    have H := HC4.out
    clear HC4
    replace H := Option.bind_eq_some_iff.mp H
    obtain ⟨t887, A50, H⟩ := H
    replace H : (if t887 = true then ((spec_l1In.f a2 1 5).bind fun t888 => (spec_MakespanBound.j0 k l0 l1 a2 (!t888))) else (spec_MakespanBound.j0 k l0 l1 a2 true)) = some r := H
    have A5 := Aside0.mk A50
    clear A50
    by_cases c6 : t887 = true
    · subst c6
      have H1 : ((spec_l1In.f a2 1 5).bind fun t888 => (spec_MakespanBound.j0 k l0 l1 a2 (!t888))) = some r := by rw [if_pos rfl] at H; exact H
      clear H
      have H := H1
      clear H1
      replace H := Option.bind_eq_some_iff.mp H
      obtain ⟨t888, A70, H⟩ := H
      replace H : (spec_MakespanBound.j0 k l0 l1 a2 (!t888)) = some r := H
      have A7 := Aside0.mk A70
      clear A70
      have H' := Aside0.mk H
      clear H
      go_wp2_with (first | ((with_reducible refine gate_callee (f := 41) rfl ?_); refine goesL_ (some 10) rfl rfl Try.func41 (by kernel_rfl) rfl #[.slice A0 l0.length c0, .slice A1 l1.length c1] rfl (by (try simp only [List.map_toArray, List.map_cons, List.map_nil]); first | done | rfl | (simp only [List.length_drop, List.length_take]; rfl)) ?_; (with_reducible refine (spec_GraphValid.calls k _ _ l0 _ _ l1 true _ ?side1 ?side2 ?side3 ?side4 A5.out).mono ?_); (case side1 => repeat (first | exact (Kd.C_below HR0.out HB.out) | (with_reducible refine Kd.C_alloc ?_ _) | (with_reducible refine Kd.C_drewN ?_ _) | (with_reducible refine Kd.C_drew ?_))); (case side2 => exact HC0.out); (case side3 => repeat (first | exact (Kd.C_below HR1.out HB.out) | (with_reducible refine Kd.C_alloc ?_ _) | (with_reducible refine Kd.C_drewN ?_ _) | (with_reducible refine Kd.C_drew ?_))); (case side4 => exact HC1.out); rintro e w8 ⟨rfl, hb⟩; refine ⟨_, rfl, ?_⟩; have n0_ := Aside0.mk (below_step (by repeat (first | (with_reducible first | exact HB.out | apply below_alloc | apply pw_below_drewN | apply below_drew1) | exact HB.out)) hb); clear HB; have HB := n0_; clear n0_; (try clear hb); (try clear hb2); (try clear hk); (try clear hi)) | (go_at_call 53; (with_reducible refine (spec_l1In.calls a2 1 5 t888 _ A7.out).mono ?_); rintro e w' ⟨rfl, ⟨nd, rfl⟩⟩))
      go_meet
      case rel => exact ⟨_, (!t888), (by first | rfl | (simp; done) | (simp [*]; done)), H', ⟨by first | omega | exact Nat.le_refl _⟩, ⟨by repeat (first | (with_reducible first | exact HB.out | apply below_alloc | apply pw_below_drewN | apply below_drew1) | exact HB.out)⟩⟩
    · replace c6 := Bool.eq_false_iff.mpr c6
      subst c6
      have H1 : (spec_MakespanBound.j0 k l0 l1 a2 true) = some r := by rw [if_neg (show ¬ (false = true) by decide)] at H; exact H
      clear H
      have H := H1
      clear H1
      have H' := Aside0.mk H
      clear H
      go_wp2_with (first | ((with_reducible refine gate_callee (f := 41) rfl ?_); refine goesL_ (some 10) rfl rfl Try.func41 (by kernel_rfl) rfl #[.slice A0 l0.length c0, .slice A1 l1.length c1] rfl (by (try simp only [List.map_toArray, List.map_cons, List.map_nil]); first | done | rfl | (simp only [List.length_drop, List.length_take]; rfl)) ?_; (with_reducible refine (spec_GraphValid.calls k _ _ l0 _ _ l1 false _ ?side1 ?side2 ?side3 ?side4 A5.out).mono ?_); (case side1 => repeat (first | exact (Kd.C_below HR0.out HB.out) | (with_reducible refine Kd.C_alloc ?_ _) | (with_reducible refine Kd.C_drewN ?_ _) | (with_reducible refine Kd.C_drew ?_))); (case side2 => exact HC0.out); (case side3 => repeat (first | exact (Kd.C_below HR1.out HB.out) | (with_reducible refine Kd.C_alloc ?_ _) | (with_reducible refine Kd.C_drewN ?_ _) | (with_reducible refine Kd.C_drew ?_))); (case side4 => exact HC1.out); rintro e w9 ⟨rfl, hb⟩; refine ⟨_, rfl, ?_⟩; have n0_ := Aside0.mk (below_step (by repeat (first | (with_reducible first | exact HB.out | apply below_alloc | apply pw_below_drewN | apply below_drew1) | exact HB.out)) hb); clear HB; have HB := n0_; clear n0_; (try clear hb); (try clear hb2); (try clear hk); (try clear hi)))
      go_meet
      case rel => exact ⟨_, (true), (by first | rfl | (simp; done) | (simp [*]; done)), H', ⟨by first | omega | exact Nat.le_refl _⟩, ⟨by repeat (first | (with_reducible first | exact HB.out | apply below_alloc | apply pw_below_drewN | apply below_drew1) | exact HB.out)⟩⟩
  case rest =>
    clear HC4
    try clear c1
    try clear p2
    try clear c4
    try clear c5
    try clear c6
    obtain ⟨kq, x16_3, rfl, HA, HJ3, HB⟩ := hcut
    cases kq with
    | zero => exact absurd HA.out (by simp [spec_MakespanBound.j0])
    | succ kj3 =>
      have H := HA.out
      clear HA
      simp only [spec_MakespanBound.j0] at H
      by_cases c10 : x16_3 = true
      · subst c10
        have H1 : (some (-1)) = some r := by rw [if_pos rfl] at H; exact H
        clear H
        have H := H1
        clear H1
        obtain rfl := Option.some.inj H
        go_wp2
        go_ret
        exact ⟨by first | rfl | (simp [errW_none, errW_some] <;> rfl) | (simp [*, errW_none, errW_some] <;> rfl), by repeat (first | (with_reducible first | exact HB.out | apply below_alloc | apply pw_below_drewN | apply below_drew1) | exact HB.out)⟩
      · replace c10 := Bool.eq_false_iff.mpr c10
        subst c10
        have H1 : ((spec_CriticalPath.f kj3 l0 l1).bind fun t889 => ((spec_Volume.f kj3 l0 l1).bind fun t890 => (if a2 = 0 then (none) else (some (wrap64 (t889 + (wrap64 (Int.tdiv (wrap64 (t890 - t889)) a2)))))))) = some r := by rw [if_neg (show ¬ (false = true) by decide)] at H; exact H
        clear H
        have H := H1
        clear H1
        replace H := Option.bind_eq_some_iff.mp H
        obtain ⟨t889, A110, H⟩ := H
        replace H : ((spec_Volume.f kj3 l0 l1).bind fun t890 => (if a2 = 0 then (none) else (some (wrap64 (t889 + (wrap64 (Int.tdiv (wrap64 (t890 - t889)) a2))))))) = some r := H
        have A11 := Aside0.mk A110
        clear A110
        replace H := Option.bind_eq_some_iff.mp H
        obtain ⟨t890, A120, H⟩ := H
        replace H : (if a2 = 0 then (none) else (some (wrap64 (t889 + (wrap64 (Int.tdiv (wrap64 (t890 - t889)) a2)))))) = some r := H
        have A12 := Aside0.mk A120
        clear A120
        by_cases c13 : a2 = 0
        · rw [if_pos c13] at H
          exact absurd H (by simp)
        · rw [if_neg c13] at H
          have c13b0 : (a2 == 0) = false := beq_eq_false_iff_ne.mpr c13
          have c13b1 : (a2 != 0) = true := bne_iff_ne.mpr c13
          obtain rfl := Option.some.inj H
          go_wp2_with (first | ((with_reducible refine gate_callee (f := 48) rfl ?_); refine goesL_ (some 19) rfl rfl Try.func48 (by kernel_rfl) rfl #[.slice A0 l0.length c0, .slice A1 l1.length c1] rfl (by (try simp only [List.map_toArray, List.map_cons, List.map_nil]); first | done | rfl | (simp only [List.length_drop, List.length_take]; rfl)) ?_; (with_reducible refine (spec_CriticalPath.calls kj3 _ _ l0 _ _ l1 t889 _ ?side1 ?side2 ?side3 ?side4 A11.out).mono ?_); (case side1 => repeat (first | exact (Kd.C_below HR0.out HB.out) | (with_reducible refine Kd.C_alloc ?_ _) | (with_reducible refine Kd.C_drewN ?_ _) | (with_reducible refine Kd.C_drew ?_))); (case side2 => exact HC0.out); (case side3 => repeat (first | exact (Kd.C_below HR1.out HB.out) | (with_reducible refine Kd.C_alloc ?_ _) | (with_reducible refine Kd.C_drewN ?_ _) | (with_reducible refine Kd.C_drew ?_))); (case side4 => exact HC1.out); rintro e w14 ⟨rfl, hb⟩; refine ⟨_, rfl, ?_⟩; have n0_ := Aside0.mk (below_step (by repeat (first | (with_reducible first | exact HB.out | apply below_alloc | apply pw_below_drewN | apply below_drew1) | exact HB.out)) hb); clear HB; have HB := n0_; clear n0_; (try clear hb); (try clear hb2); (try clear hk); (try clear hi)) | ((with_reducible refine gate_callee (f := 46) rfl ?_); refine goesL_ (some 23) rfl rfl Try.func46 (by kernel_rfl) rfl #[.slice A0 l0.length c0, .slice A1 l1.length c1] rfl (by (try simp only [List.map_toArray, List.map_cons, List.map_nil]); first | done | rfl | (simp only [List.length_drop, List.length_take]; rfl)) ?_; (with_reducible refine (spec_Volume.calls kj3 _ _ l0 _ _ l1 t890 _ ?side1 ?side2 ?side3 ?side4 A12.out).mono ?_); (case side1 => repeat (first | exact (Kd.C_below HR0.out HB.out) | (with_reducible refine Kd.C_alloc ?_ _) | (with_reducible refine Kd.C_drewN ?_ _) | (with_reducible refine Kd.C_drew ?_))); (case side2 => exact HC0.out); (case side3 => repeat (first | exact (Kd.C_below HR1.out HB.out) | (with_reducible refine Kd.C_alloc ?_ _) | (with_reducible refine Kd.C_drewN ?_ _) | (with_reducible refine Kd.C_drew ?_))); (case side4 => exact HC1.out); rintro e w15 ⟨rfl, hb⟩; refine ⟨_, rfl, ?_⟩; have n0_ := Aside0.mk (below_step (by repeat (first | (with_reducible first | exact HB.out | apply below_alloc | apply pw_below_drewN | apply below_drew1) | exact HB.out)) hb); clear HB; have HB := n0_; clear n0_; (try clear hb); (try clear hb2); (try clear hk); (try clear hi)))
          go_ret
          exact ⟨by first | rfl | (simp [errW_none, errW_some] <;> rfl) | (simp [*, errW_none, errW_some] <;> rfl), by repeat (first | (with_reducible first | exact HB.out | apply below_alloc | apply pw_below_drewN | apply below_drew1) | exact HB.out)⟩

end Go.Proofs.Ytkmpcmhkfnoeiaa.P
-- Laid by a program of this work.
namespace Go.Proofs.Ytkmpcmhkfnoeiaa.P
open Go.RowKit Go.Proofs.YtkmpcmhkfnoeiaaW.PrintWords Go.Proofs.YtkmpcmhkfnoeiaaW.PrintLast Go.Proofs.YtkmpcmhkfnoeiaaW.PrintMore
attribute [local go_sem] max2_int min2_int max_two min_two max_three min_three max_four min_four   -- for this text's walks alone
set_option linter.unusedVariables false
set_option linter.unusedSimpArgs false

/-! ### impl_isCores: function 80 -/
def impl_isCores.f (a0 : Int) : Option (Bool) := (impl_in.f a0 1 5).bind fun t891 => (some t891)
set_option maxHeartbeats 8000000 in
set_option maxRecDepth 100000 in
theorem impl_isCores.calls (a0 : Int) (r : Bool) (w : World) (h : impl_isCores.f a0 = some r) :
    Calls Try.prog 80 #[.int .i64 a0] w fun e w' => e = .returned (.bool r) ∧ Drawn0 w w' := by
  have H : ((impl_in.f a0 1 5).bind fun t891 => (some t891)) = some r := h
  clear h
  replace H := Option.bind_eq_some_iff.mp H
  obtain ⟨t891, A20, H⟩ := H
  replace H : (some t891) = some r := H
  have A2 := Aside0.mk A20
  clear A20
  obtain rfl := Option.some.inj H
  go_enter Try.func80, Try.ntmps80
  go_wp2_with (first | ((with_reducible refine gate_callee (f := 56) rfl ?_); refine goesL_ (some 4) rfl rfl Try.func56 (by kernel_rfl) rfl #[.int .i64 a0, .int .i64 1, .int .i64 5] rfl (by (try simp only [List.map_toArray, List.map_cons, List.map_nil]); first | done | rfl | (simp only [List.length_drop, List.length_take]; rfl)) ?_; (with_reducible refine (impl_in.calls a0 1 5 t891 _ A2.out).mono ?_); rintro e w' ⟨rfl, ⟨nd, rfl⟩⟩; refine ⟨_, rfl, ?_⟩))
  go_ret
  exact ⟨by first | rfl | (simp; done) | (simp [*]; done), by repeat (first | exact Drawn0.refl _ | apply Drawn0.step)⟩

end Go.Proofs.Ytkmpcmhkfnoeiaa.P
-- Laid by a program of this work.
namespace Go.Proofs.Ytkmpcmhkfnoeiaa.P
open Go.RowKit Go.Proofs.YtkmpcmhkfnoeiaaW.PrintWords Go.Proofs.YtkmpcmhkfnoeiaaW.PrintLast Go.Proofs.YtkmpcmhkfnoeiaaW.PrintMore
attribute [local go_sem] max2_int min2_int max_two min_two max_three min_three max_four min_four   -- for this text's walks alone
set_option linter.unusedVariables false
set_option linter.unusedSimpArgs false

/-! ### impl_MakespanBound: function 52 -/
def impl_MakespanBound.j0 : Nat → List Int → List (List Int) → Int → Bool → Option (Int)
  | 0, _, _, _, _ => none
  | k + 1, x0, x1, x2, x16 => if x16 = true then (some (-1)) else ((impl_critical.f k x0 x1).bind fun t894 => ((impl_volume.f k x0).bind fun t895 => (if x2 = 0 then (none) else (some (wrap64 (t894 + (wrap64 (Int.tdiv (wrap64 (t895 - t894)) x2))))))))
def impl_MakespanBound.f (k : Nat) (l0 : List Int) (l1 : List (List Int)) (a2 : Int) : Option (Int) := (impl_GraphValid.f k l0 l1).bind fun t892 => (if t892 = true then ((impl_isCores.f a2).bind fun t893 => (impl_MakespanBound.j0 k l0 l1 a2 (!t893))) else (impl_MakespanBound.j0 k l0 l1 a2 true))
theorem impl_MakespanBound.mono_l : ∀ k, (∀ y0 y1 y2 y3, LeO (impl_MakespanBound.j0 k y0 y1 y2 y3) (impl_MakespanBound.j0 (k + 1) y0 y1 y2 y3))
  | 0 => fun _ _ _ _ r h => by simp [impl_MakespanBound.j0] at h
  | k + 1 => by
    have ih0 := impl_MakespanBound.mono_l k
    · intro y0 y1 y2 y3
      unfold impl_MakespanBound.j0
      repeat' first
      | (with_reducible exact ih0 _ _ _ _)
      | (with_reducible exact impl_GraphValid.mono _ _ _)
      | (with_reducible exact impl_critical.mono _ _ _)
      | (with_reducible exact impl_volume.mono _ _)
      | (with_reducible exact LeO.refl _)
      | (with_reducible exact LeO.none _)
      | (with_reducible refine LeO.ite ?_ ?_)
      | (with_reducible refine LeO.bind ?_ (fun _ => ?_))
      | exact ih0 _ _ _ _
      | exact impl_GraphValid.mono _ _ _
      | exact impl_critical.mono _ _ _
      | exact impl_volume.mono _ _
      | exact LeO.none _
      | refine LeO.ite ?_ ?_
      | refine LeO.bind ?_ (fun _ => ?_)
theorem impl_MakespanBound.mono : ∀ a0 a1 a2 k, LeO (impl_MakespanBound.f k a0 a1 a2) (impl_MakespanBound.f (k + 1) a0 a1 a2) := by
  intro a0 a1 a2 k
  have ih0 := impl_MakespanBound.mono_l k
  unfold impl_MakespanBound.f
  repeat' first
      | (with_reducible exact ih0 _ _ _ _)
      | (with_reducible exact impl_GraphValid.mono _ _ _)
      | (with_reducible exact impl_critical.mono _ _ _)
      | (with_reducible exact impl_volume.mono _ _)
      | (with_reducible exact LeO.refl _)
      | (with_reducible exact LeO.none _)
      | (with_reducible refine LeO.ite ?_ ?_)
      | (with_reducible refine LeO.bind ?_ (fun _ => ?_))
      | exact ih0 _ _ _ _
      | exact impl_GraphValid.mono _ _ _
      | exact impl_critical.mono _ _ _
      | exact impl_volume.mono _ _
      | exact LeO.none _
      | refine LeO.ite ?_ ?_
      | refine LeO.bind ?_ (fun _ => ?_)
set_option maxHeartbeats 8000000 in
set_option maxRecDepth 100000 in
theorem impl_MakespanBound.calls (k : Nat) (A0 : Option Addr) (c0 : Nat) (l0 : List Int) (A1 : Option Addr) (c1 : Nat) (l1 : List (List Int)) (a2 : Int) (r : Int) (w : World) (hr0 : Kd.C (Kd.int .i64) w A0 l0.length l0) (hc0 : l0.length ≤ c0) (hr1 : Kd.C (Kd.slice 3 (Kd.int .i64)) w A1 l1.length l1) (hc1 : l1.length ≤ c1) (h : impl_MakespanBound.f k l0 l1 a2 = some r) :
    Calls Try.prog 52 #[.slice A0 l0.length c0, .slice A1 l1.length c1, .int .i64 a2] w fun e w' => e = .returned (.int .i64 r) ∧ Below w.heap.size w w' := by
  have HR0 := Aside0.mk hr0
  have HC0 := Aside0.mk hc0
  clear hr0 hc0
  have HR1 := Aside0.mk hr1
  have HC1 := Aside0.mk hc1
  clear hr1 hc1
  have HB := Aside0.mk (Below.refl w.heap.size w)
  have H : ((impl_GraphValid.f k l0 l1).bind fun t892 => (if t892 = true then ((impl_isCores.f a2).bind fun t893 => (impl_MakespanBound.j0 k l0 l1 a2 (!t893))) else (impl_MakespanBound.j0 k l0 l1 a2 true))) = some r := h
  clear h
  have HC4 := Aside0.mk H
  clear H
  go_enter Try.func52, Try.ntmps52
  go_upto_region 1 with (fail)
  go_cut [16] (fun v16 wc => ∃ (kq : Nat) (x16_3 : Bool), v16 = .bool x16_3 ∧ Aside0 (impl_MakespanBound.j0 kq l0 l1 a2 x16_3 = some r) ∧ Aside0 (kq ≤ k) ∧ Aside0 (Below w.heap.size w wc))
  case first =>
    have H := HC4.out
    clear HC4
    replace H := Option.bind_eq_some_iff.mp H
    obtain ⟨t892, A50, H⟩ := H
    replace H : (if t892 = true then ((impl_isCores.f a2).bind fun t893 => (impl_MakespanBound.j0 k l0 l1 a2 (!t893))) else (impl_MakespanBound.j0 k l0 l1 a2 true)) = some r := H
    have A5 := Aside0.mk A50
    clear A50
    by_cases c6 : t892 = true
    · subst c6
      have H1 : ((impl_isCores.f a2).bind fun t893 => (impl_MakespanBound.j0 k l0 l1 a2 (!t893))) = some r := by rw [if_pos rfl] at H; exact H
      clear H
      have H := H1
      clear H1
      replace H := Option.bind_eq_some_iff.mp H
      obtain ⟨t893, A70, H⟩ := H
      replace H : (impl_MakespanBound.j0 k l0 l1 a2 (!t893)) = some r := H
      have A7 := Aside0.mk A70
      clear A70
      have H' := Aside0.mk H
      clear H
      go_wp2_with (first | ((with_reducible refine gate_callee (f := 43) rfl ?_); refine goesL_ (some 10) rfl rfl Try.func43 (by kernel_rfl) rfl #[.slice A0 l0.length c0, .slice A1 l1.length c1] rfl (by (try simp only [List.map_toArray, List.map_cons, List.map_nil]); first | done | rfl | (simp only [List.length_drop, List.length_take]; rfl)) ?_; (with_reducible refine (impl_GraphValid.calls k _ _ l0 _ _ l1 true _ ?side1 ?side2 ?side3 ?side4 A5.out).mono ?_); (case side1 => repeat (first | exact (Kd.C_below HR0.out HB.out) | (with_reducible refine Kd.C_alloc ?_ _) | (with_reducible refine Kd.C_drewN ?_ _) | (with_reducible refine Kd.C_drew ?_))); (case side2 => exact HC0.out); (case side3 => repeat (first | exact (Kd.C_below HR1.out HB.out) | (with_reducible refine Kd.C_alloc ?_ _) | (with_reducible refine Kd.C_drewN ?_ _) | (with_reducible refine Kd.C_drew ?_))); (case side4 => exact HC1.out); rintro e w8 ⟨rfl, hb⟩; refine ⟨_, rfl, ?_⟩; have n0_ := Aside0.mk (below_step (by repeat (first | (with_reducible first | exact HB.out | apply below_alloc | apply pw_below_drewN | apply below_drew1) | exact HB.out)) hb); clear HB; have HB := n0_; clear n0_; (try clear hb); (try clear hb2); (try clear hk); (try clear hi)) | (go_at_call 80; (with_reducible refine (impl_isCores.calls a2 t893 _ A7.out).mono ?_); rintro e w' ⟨rfl, ⟨nd, rfl⟩⟩))
      go_meet
      case rel => exact ⟨_, (!t893), (by first | rfl | (simp; done) | (simp [*]; done)), H', ⟨by first | omega | exact Nat.le_refl _⟩, ⟨by repeat (first | (with_reducible first | exact HB.out | apply below_alloc | apply pw_below_drewN | apply below_drew1) | exact HB.out)⟩⟩
    · replace c6 := Bool.eq_false_iff.mpr c6
      subst c6
      have H1 : (impl_MakespanBound.j0 k l0 l1 a2 true) = some r := by rw [if_neg (show ¬ (false = true) by decide)] at H; exact H
      clear H
      have H := H1
      clear H1
      have H' := Aside0.mk H
      clear H
      go_wp2_with (first | ((with_reducible refine gate_callee (f := 43) rfl ?_); refine goesL_ (some 10) rfl rfl Try.func43 (by kernel_rfl) rfl #[.slice A0 l0.length c0, .slice A1 l1.length c1] rfl (by (try simp only [List.map_toArray, List.map_cons, List.map_nil]); first | done | rfl | (simp only [List.length_drop, List.length_take]; rfl)) ?_; (with_reducible refine (impl_GraphValid.calls k _ _ l0 _ _ l1 false _ ?side1 ?side2 ?side3 ?side4 A5.out).mono ?_); (case side1 => repeat (first | exact (Kd.C_below HR0.out HB.out) | (with_reducible refine Kd.C_alloc ?_ _) | (with_reducible refine Kd.C_drewN ?_ _) | (with_reducible refine Kd.C_drew ?_))); (case side2 => exact HC0.out); (case side3 => repeat (first | exact (Kd.C_below HR1.out HB.out) | (with_reducible refine Kd.C_alloc ?_ _) | (with_reducible refine Kd.C_drewN ?_ _) | (with_reducible refine Kd.C_drew ?_))); (case side4 => exact HC1.out); rintro e w9 ⟨rfl, hb⟩; refine ⟨_, rfl, ?_⟩; have n0_ := Aside0.mk (below_step (by repeat (first | (with_reducible first | exact HB.out | apply below_alloc | apply pw_below_drewN | apply below_drew1) | exact HB.out)) hb); clear HB; have HB := n0_; clear n0_; (try clear hb); (try clear hb2); (try clear hk); (try clear hi)))
      go_meet
      case rel => exact ⟨_, (true), (by first | rfl | (simp; done) | (simp [*]; done)), H', ⟨by first | omega | exact Nat.le_refl _⟩, ⟨by repeat (first | (with_reducible first | exact HB.out | apply below_alloc | apply pw_below_drewN | apply below_drew1) | exact HB.out)⟩⟩
  case rest =>
    clear HC4
    try clear c1
    try clear p2
    try clear c4
    try clear c5
    try clear c6
    obtain ⟨kq, x16_3, rfl, HA, HJ3, HB⟩ := hcut
    cases kq with
    | zero => exact absurd HA.out (by simp [impl_MakespanBound.j0])
    | succ kj3 =>
      have H := HA.out
      clear HA
      simp only [impl_MakespanBound.j0] at H
      by_cases c10 : x16_3 = true
      · subst c10
        have H1 : (some (-1)) = some r := by rw [if_pos rfl] at H; exact H
        clear H
        have H := H1
        clear H1
        obtain rfl := Option.some.inj H
        go_wp2
        go_ret
        exact ⟨by first | rfl | (simp [errW_none, errW_some] <;> rfl) | (simp [*, errW_none, errW_some] <;> rfl), by repeat (first | (with_reducible first | exact HB.out | apply below_alloc | apply pw_below_drewN | apply below_drew1) | exact HB.out)⟩
      · replace c10 := Bool.eq_false_iff.mpr c10
        subst c10
        have H1 : ((impl_critical.f kj3 l0 l1).bind fun t894 => ((impl_volume.f kj3 l0).bind fun t895 => (if a2 = 0 then (none) else (some (wrap64 (t894 + (wrap64 (Int.tdiv (wrap64 (t895 - t894)) a2)))))))) = some r := by rw [if_neg (show ¬ (false = true) by decide)] at H; exact H
        clear H
        have H := H1
        clear H1
        replace H := Option.bind_eq_some_iff.mp H
        obtain ⟨t894, A110, H⟩ := H
        replace H : ((impl_volume.f kj3 l0).bind fun t895 => (if a2 = 0 then (none) else (some (wrap64 (t894 + (wrap64 (Int.tdiv (wrap64 (t895 - t894)) a2))))))) = some r := H
        have A11 := Aside0.mk A110
        clear A110
        replace H := Option.bind_eq_some_iff.mp H
        obtain ⟨t895, A120, H⟩ := H
        replace H : (if a2 = 0 then (none) else (some (wrap64 (t894 + (wrap64 (Int.tdiv (wrap64 (t895 - t894)) a2)))))) = some r := H
        have A12 := Aside0.mk A120
        clear A120
        by_cases c13 : a2 = 0
        · rw [if_pos c13] at H
          exact absurd H (by simp)
        · rw [if_neg c13] at H
          have c13b0 : (a2 == 0) = false := beq_eq_false_iff_ne.mpr c13
          have c13b1 : (a2 != 0) = true := bne_iff_ne.mpr c13
          obtain rfl := Option.some.inj H
          go_wp2_with (first | ((with_reducible refine gate_callee (f := 79) rfl ?_); refine goesL_ (some 19) rfl rfl Try.func79 (by kernel_rfl) rfl #[.slice A0 l0.length c0, .slice A1 l1.length c1] rfl (by (try simp only [List.map_toArray, List.map_cons, List.map_nil]); first | done | rfl | (simp only [List.length_drop, List.length_take]; rfl)) ?_; (with_reducible refine (impl_critical.calls kj3 _ _ l0 _ _ l1 t894 _ ?side1 ?side2 ?side3 ?side4 A11.out).mono ?_); (case side1 => repeat (first | exact (Kd.C_below HR0.out HB.out) | (with_reducible refine Kd.C_alloc ?_ _) | (with_reducible refine Kd.C_drewN ?_ _) | (with_reducible refine Kd.C_drew ?_))); (case side2 => exact HC0.out); (case side3 => repeat (first | exact (Kd.C_below HR1.out HB.out) | (with_reducible refine Kd.C_alloc ?_ _) | (with_reducible refine Kd.C_drewN ?_ _) | (with_reducible refine Kd.C_drew ?_))); (case side4 => exact HC1.out); rintro e w14 ⟨rfl, hb⟩; refine ⟨_, rfl, ?_⟩; have n0_ := Aside0.mk (below_step (by repeat (first | (with_reducible first | exact HB.out | apply below_alloc | apply pw_below_drewN | apply below_drew1) | exact HB.out)) hb); clear HB; have HB := n0_; clear n0_; (try clear hb); (try clear hb2); (try clear hk); (try clear hi)) | ((with_reducible refine gate_callee (f := 77) rfl ?_); refine goesL_ (some 22) rfl rfl Try.func77 (by kernel_rfl) rfl #[.slice A0 l0.length c0] rfl (by (try simp only [List.map_toArray, List.map_cons, List.map_nil]); first | done | rfl | (simp only [List.length_drop, List.length_take]; rfl)) ?_; (with_reducible refine (impl_volume.calls kj3 _ _ l0 t895 _ ?side1 ?side2 A12.out).mono ?_); (case side1 => repeat (first | exact (Kd.C_below HR0.out HB.out) | (with_reducible refine Kd.C_alloc ?_ _) | (with_reducible refine Kd.C_drewN ?_ _) | (with_reducible refine Kd.C_drew ?_))); (case side2 => exact HC0.out); rintro e w' ⟨rfl, ⟨nd, rfl⟩⟩; refine ⟨_, rfl, ?_⟩))
          go_ret
          exact ⟨by first | rfl | (simp [errW_none, errW_some] <;> rfl) | (simp [*, errW_none, errW_some] <;> rfl), by repeat (first | (with_reducible first | exact HB.out | apply below_alloc | apply pw_below_drewN | apply below_drew1) | exact HB.out)⟩

end Go.Proofs.Ytkmpcmhkfnoeiaa.P
/- The longest path of a task graph, as plain functions, and what is known of it. Conditions: the edges lead from lower to higher nodes. -/
namespace Go.Proofs.Ytkmpcmhkfnoeiaa.Crit
open Go.RowKit Go.Proofs.Ytkmpcmhkfnoeiaa.P Go.Proofs.Ytkmpcmhkfnoeiaa.Base Go.Proofs.Ytkmpcmhkfnoeiaa.Gen Go.Proofs.Ytkmpcmhkfnoeiaa.Graph Go.Proofs.YtkmpcmhkfnoeiaaW.PrintWords Go.Proofs.YtkmpcmhkfnoeiaaW.PrintLast
def stp (out : List Int) (b : Int) (t : Int) (e : List Int) : Int := if rd e 1 = b then max t (rd out (rd e 0)) else t
def bst (out : List Int) (b : Int) (es : List (List Int)) (t : Int) : Int := es.foldl (stp out b) t
def ends (c : List Int) (es : List (List Int)) : Nat → List Int
  | 0 => []
  | n + 1 => ends c es n ++ [bst (ends c es n) (n : Int) es 0 + rd c (n : Int)]
def EV (c : List Int) (es : List (List Int)) (i : Nat) : Int := rd (ends c es (i + 1)) (i : Int)
def mxl (l : List Int) (t : Int) : Int := l.foldl max t
def lng (c : List Int) (es : List (List Int)) : Int := mxl (ends c es c.length) 0
def vl (c : List Int) : Int := c.foldl (· + ·) 0
def SumTo (c : List Int) : Nat → Int
  | 0 => 0
  | n + 1 => SumTo c n + rd c (n : Int)
theorem ends_len (c : List Int) (es : List (List Int)) (n : Nat) : (ends c es n).length = n := by
  induction n with
  | zero => rfl
  | succ n ih => simp [ends, ih]
theorem rd_app_lt (a b : List Int) (i : Nat) (h : i < a.length) : rd (a ++ b) (i : Int) = rd a (i : Int) := by
  rw [rd_at _ i (by simp; omega), rd_at _ i h, List.getElem_append_left h]
theorem rd_app_eq (a : List Int) (x : Int) (n : Nat) (h : a.length = n) : rd (a ++ [x]) (n : Int) = x := by
  subst h
  rw [rd_at _ _ (by simp)]
  simp
theorem ends_rd (c : List Int) (es : List (List Int)) (n i : Nat) (h : i < n) : rd (ends c es n) (i : Int) = EV c es i := by
  induction n with
  | zero => omega
  | succ n ih =>
    rcases Nat.lt_or_ge i n with h' | h'
    · rw [ends, rd_app_lt _ _ _ (by rw [ends_len]; exact h'), ih h']
    · obtain rfl : i = n := by omega
      rfl
theorem EV_eq (c : List Int) (es : List (List Int)) (n : Nat) : EV c es n = bst (ends c es n) (n : Int) es 0 + rd c (n : Int) := by
  unfold EV
  rw [ends]
  exact rd_app_eq _ _ _ (ends_len c es n)
theorem bst_init (out : List Int) (b : Int) (es : List (List Int)) : ∀ t, t ≤ bst out b es t := by
  induction es with
  | nil => intro t; exact Int.le_refl _
  | cons e es ih =>
    intro t
    refine Int.le_trans ?_ (ih _)
    unfold stp; split <;> omega
theorem bst_ge (out : List Int) (b : Int) (es : List (List Int)) : ∀ t, ∀ e ∈ es, rd e 1 = b → rd out (rd e 0) ≤ bst out b es t := by
  induction es with
  | nil => intro t e he; simp at he
  | cons e es ih =>
    intro t x hx hb
    rcases List.mem_cons.1 hx with rfl | hx
    · refine Int.le_trans ?_ (bst_init out b es _)
      unfold stp; rw [if_pos hb]; omega
    · exact ih _ x hx hb
theorem bst_le (out : List Int) (b M : Int) (es : List (List Int)) : ∀ t, t ≤ M → (∀ e ∈ es, rd e 1 = b → rd out (rd e 0) ≤ M) → bst out b es t ≤ M := by
  induction es with
  | nil => intro t h _; exact h
  | cons e es ih =>
    intro t h hh
    refine ih _ ?_ (fun x hx => hh x (List.mem_cons_of_mem _ hx))
    unfold stp
    split
    · rename_i hb
      have := hh e (List.mem_cons_self ..) hb
      omega
    · exact h
/-- What the fold reads, with other lists of the same values. -/
theorem bst_congr (o1 o2 : List Int) (b : Int) (es : List (List Int)) (h : ∀ e ∈ es, rd e 1 = b → rd o1 (rd e 0) = rd o2 (rd e 0)) : ∀ t, bst o1 b es t = bst o2 b es t := by
  induction es with
  | nil => intro t; rfl
  | cons e es ih =>
    intro t
    have e1 : stp o1 b t e = stp o2 b t e := by
      unfold stp
      split
      · rename_i hb
        rw [h e (List.mem_cons_self ..) hb]
      · rfl
    show bst o1 b es (stp o1 b t e) = bst o2 b es (stp o2 b t e)
    rw [e1]
    exact ih (fun x hx => h x (List.mem_cons_of_mem _ hx)) _
theorem mxl_init (l : List Int) : ∀ t, t ≤ mxl l t := by
  induction l with
  | nil => intro t; exact Int.le_refl _
  | cons a l ih => intro t; exact Int.le_trans (by omega) (ih _)
theorem mxl_ge (l : List Int) : ∀ t, ∀ x ∈ l, x ≤ mxl l t := by
  induction l with
  | nil => intro t x hx; simp at hx
  | cons a l ih =>
    intro t x hx
    rcases List.mem_cons.1 hx with rfl | hx
    · exact Int.le_trans (by omega) (mxl_init l _)
    · exact ih _ x hx
theorem mxl_le (l : List Int) (M : Int) : ∀ t, t ≤ M → (∀ x ∈ l, x ≤ M) → mxl l t ≤ M := by
  induction l with
  | nil => intro t h _; exact h
  | cons a l ih =>
    intro t h hh
    refine ih _ ?_ (fun x hx => hh x (List.mem_cons_of_mem _ hx))
    have := hh a (List.mem_cons_self ..)
    omega
theorem mxl_take (l : List Int) (i : Nat) (h : i < l.length) (t : Int) : mxl (l.take (i + 1)) t = max (mxl (l.take i) t) l[i] := by
  unfold mxl
  rw [List.take_succ_eq_append_getElem h, List.foldl_append]
  rfl
theorem vl_take (l : List Int) (i : Nat) (h : i < l.length) : vl (l.take (i + 1)) = vl (l.take i) + l[i] := by
  unfold vl
  rw [List.take_succ_eq_append_getElem h, List.foldl_append]
  rfl
theorem vl_sum (c : List Int) (n : Nat) (h : n ≤ c.length) : vl (c.take n) = SumTo c n := by
  induction n with
  | zero => rfl
  | succ n ih => rw [vl_take _ _ (by omega), ih (by omega), SumTo, rd_at]
theorem vl_eq (c : List Int) : vl c = SumTo c c.length := by
  have := vl_sum c c.length (Nat.le_refl _)
  rwa [List.take_length] at this
/-- The edges lead from lower to higher nodes, and the costs are positive. -/
def Up (m : Int) (es : List (List Int)) : Prop := ∀ e ∈ es, 0 ≤ rd e 0 ∧ rd e 0 < rd e 1 ∧ rd e 1 < m
def Pos (c : List Int) : Prop := ∀ i : Nat, i < c.length → 1 ≤ rd c (i : Int)
theorem gv_up {c : List Int} {es : List (List Int)} (h : GV c es) : Up c.length es := fun e he => (h.2.2.2 e he).2
theorem gv_pos {c : List Int} {es : List (List Int)} (h : GV c es) : Pos c := fun i hi => by
  rw [rd_at c i hi]
  exact (h.2.2.1 _ (List.getElem_mem hi)).1
theorem gv_cost {c : List Int} {es : List (List Int)} (h : GV c es) (i : Nat) (hi : i < c.length) : 1 ≤ rd c (i : Int) ∧ rd c (i : Int) ≤ 8 := by
  rw [rd_at c i hi]
  exact h.2.2.1 _ (List.getElem_mem hi)
theorem edge_nat {m : Int} {es : List (List Int)} (h : Up m es) {e : List Int} (he : e ∈ es) : ∃ a b : Nat, rd e 0 = (a : Int) ∧ rd e 1 = (b : Int) ∧ a < b ∧ (b : Int) < m := by
  have := h e he
  exact ⟨(rd e 0).toNat, (rd e 1).toNat, by omega, by omega, by omega, by omega⟩
theorem EV_ge (c : List Int) (es : List (List Int)) (n : Nat) : rd c (n : Int) ≤ EV c es n := by
  rw [EV_eq]
  have := bst_init (ends c es n) (n : Int) es 0
  omega
theorem EV_edge {c : List Int} {es : List (List Int)} {e : List Int} (he : e ∈ es) {a b : Nat} (ha : rd e 0 = (a : Int)) (hb : rd e 1 = (b : Int)) (hab : a < b) : EV c es a + rd c (b : Int) ≤ EV c es b := by
  rw [EV_eq c es b]
  have := bst_ge (ends c es b) (b : Int) es 0 e he hb
  rw [ha, ends_rd c es b a hab] at this
  omega
theorem lng_ge (c : List Int) (es : List (List Int)) (i : Nat) (h : i < c.length) : EV c es i ≤ lng c es := by
  rw [← ends_rd c es c.length i h, rd_at _ i (by rw [ends_len]; exact h)]
  exact mxl_ge _ _ _ (List.getElem_mem _)
theorem lng_le (c : List Int) (es : List (List Int)) (M : Int) (h0 : 0 ≤ M) (h : ∀ i, i < c.length → EV c es i ≤ M) : lng c es ≤ M := by
  refine mxl_le _ _ _ h0 (fun x hx => ?_)
  obtain ⟨i, hi, rfl⟩ := List.mem_iff_getElem.1 hx
  have hl := ends_len c es c.length
  have := h i (by omega)
  rwa [← ends_rd c es c.length i (by omega), rd_at _ i hi] at this
theorem lng_nonneg (c : List Int) (es : List (List Int)) : 0 ≤ lng c es := mxl_init _ _
theorem sum_mono {c : List Int} (hp : Pos c) : ∀ n m, n ≤ m → m ≤ c.length → SumTo c n ≤ SumTo c m := by
  intro n m
  induction m with
  | zero => intro h _; obtain rfl : n = 0 := by omega
            exact Int.le_refl _
  | succ m ih =>
    intro h hm
    rcases Nat.lt_or_ge n (m + 1) with h' | h'
    · have := ih (by omega) (by omega)
      have := hp m (by omega)
      rw [SumTo]; omega
    · obtain rfl : n = m + 1 := by omega
      exact Int.le_refl _
theorem EV_le_sum {c : List Int} {es : List (List Int)} (hu : Up c.length es) (hp : Pos c) : ∀ n, n < c.length → EV c es n ≤ SumTo c (n + 1) := by
  intro n
  induction n using Nat.strongRecOn with
  | ind n ih =>
    intro hn
    rw [EV_eq, SumTo]
    have : bst (ends c es n) (n : Int) es 0 ≤ SumTo c n := by
      refine bst_le _ _ _ _ _ ?_ (fun e he hb => ?_)
      · exact sum_mono hp 0 n (by omega) (by omega)
      · obtain ⟨a, b, ha, hb', hab, _⟩ := edge_nat hu he
        obtain rfl : b = n := by omega
        rw [ha, ends_rd c es b a hab]
        exact Int.le_trans (ih a hab (by omega)) (sum_mono hp _ _ (by omega) (by omega))
    omega
theorem lng_le_vl {c : List Int} {es : List (List Int)} (hu : Up c.length es) (hp : Pos c) : lng c es ≤ vl c := by
  rw [vl_eq]
  refine lng_le _ _ _ ?_ (fun i hi => ?_)
  · exact sum_mono hp 0 _ (by omega) (by omega)
  · exact Int.le_trans (EV_le_sum hu hp i hi) (sum_mono hp _ _ (by omega) (by omega))
/-- More edges never make it shorter. -/
theorem EV_mono {c : List Int} {es fs : List (List Int)} (hu : Up c.length fs) (hs : ∀ e ∈ es, e ∈ fs) : ∀ n, EV c es n ≤ EV c fs n := by
  intro n
  induction n using Nat.strongRecOn with
  | ind n ih =>
    rw [EV_eq, EV_eq]
    have : bst (ends c es n) (n : Int) es 0 ≤ bst (ends c fs n) (n : Int) fs 0 := by
      refine bst_le _ _ _ _ _ (bst_init ..) (fun e he hb => ?_)
      obtain ⟨a, b, ha, hb', hab, _⟩ := edge_nat hu (hs e he)
      obtain rfl : b = n := by omega
      have h1 := bst_ge (ends c fs b) (b : Int) fs 0 e (hs e he) hb
      rw [ha, ends_rd c fs b a hab] at h1
      rw [ha, ends_rd c es b a hab]
      exact Int.le_trans (ih a hab) h1
    omega
theorem lng_mono {c : List Int} {es fs : List (List Int)} (hu : Up c.length fs) (hs : ∀ e ∈ es, e ∈ fs) : lng c es ≤ lng c fs :=
  lng_le _ _ _ (lng_nonneg _ _) (fun i hi => Int.le_trans (EV_mono hu hs i) (lng_ge _ _ i hi))
theorem lng_none (c : List Int) : lng c [] = mxl c 0 := by
  have h : ∀ i, EV c [] i = rd c (i : Int) := by
    intro i
    rw [EV_eq]
    simp [bst]
  apply Int.le_antisymm
  · refine lng_le _ _ _ (mxl_init _ _) (fun i hi => ?_)
    rw [h, rd_at c i hi]
    exact mxl_ge _ _ _ (List.getElem_mem _)
  · refine mxl_le _ _ _ (lng_nonneg _ _) (fun x hx => ?_)
    obtain ⟨i, hi, rfl⟩ := List.mem_iff_getElem.1 hx
    rw [← rd_at c i hi, ← h]
    exact lng_ge _ _ i hi
theorem top_le {c : List Int} (es : List (List Int)) : mxl c 0 ≤ lng c es := by
  refine mxl_le _ _ _ (lng_nonneg _ _) (fun x hx => ?_)
  obtain ⟨i, hi, rfl⟩ := List.mem_iff_getElem.1 hx
  rw [← rd_at c i hi]
  exact Int.le_trans (EV_ge c es i) (lng_ge _ _ i hi)
theorem edge_le {c : List Int} {es : List (List Int)} (hu : Up c.length es) {e : List Int} (he : e ∈ es) : rd c (rd e 0) + rd c (rd e 1) ≤ lng c es := by
  obtain ⟨a, b, ha, hb, hab, hm⟩ := edge_nat hu he
  rw [ha, hb]
  have h1 := EV_edge (c := c) he ha hb hab
  have h2 := EV_ge c es a
  have h3 := lng_ge c es b (by omega)
  omega
end Go.Proofs.Ytkmpcmhkfnoeiaa.Crit
/- The volume, the critical path and Graham's bound of the program and of the reference are the plain ones. Condition: the rows are not too long. -/
namespace Go.Proofs.Ytkmpcmhkfnoeiaa.Crit
open Go.RowKit Go.Proofs.Ytkmpcmhkfnoeiaa.P Go.Proofs.Ytkmpcmhkfnoeiaa.Base Go.Proofs.Ytkmpcmhkfnoeiaa.Gen Go.Proofs.Ytkmpcmhkfnoeiaa.Graph Go.Proofs.YtkmpcmhkfnoeiaaW.PrintWords Go.Proofs.YtkmpcmhkfnoeiaaW.PrintLast
def VL (c : List Int) (es : List (List Int)) : Int := if GV c es then vl c else -1
def CP (c : List Int) (es : List (List Int)) : Int := if GV c es then lng c es else -1
def MB (c : List Int) (es : List (List Int)) (m : Int) : Int := if GV c es ∧ 1 ≤ m ∧ m ≤ 5 then lng c es + (vl c - lng c es) / m else -1
theorem sum_bd {c : List Int} {es : List (List Int)} (h : GV c es) (n : Nat) (hn : n ≤ c.length) : 0 ≤ SumTo c n ∧ SumTo c n ≤ 8 * n := by
  induction n with
  | zero => simp [SumTo]
  | succ n ih =>
    have h1 := ih (by omega)
    have h2 := gv_cost h n (by omega)
    rw [SumTo]; omega
theorem vl_bd {c : List Int} {es : List (List Int)} (h : GV c es) : 0 ≤ vl c ∧ vl c ≤ 64 := by
  rw [vl_eq]
  have := sum_bd h c.length (Nat.le_refl _)
  have := h.1
  omega
theorem EV_bd {c : List Int} {es : List (List Int)} (h : GV c es) (i : Nat) (hi : i < c.length) : 1 ≤ EV c es i ∧ EV c es i ≤ 64 := by
  have h1 := EV_ge c es i
  have h2 := gv_cost h i hi
  have h3 := EV_le_sum (gv_up h) (gv_pos h) i hi
  have h4 := sum_bd h (i + 1) (by omega)
  have := h.1
  omega
theorem lng_bd {c : List Int} {es : List (List Int)} (h : GV c es) : 0 ≤ lng c es ∧ lng c es ≤ vl c := ⟨lng_nonneg _ _, lng_le_vl (gv_up h) (gv_pos h)⟩
theorem spec_vol_loop {c : List Int} {es : List (List Int)} (h : GV c es) : ∀ d i, i + d = c.length → Ev (fun k => spec_Volume.l0 k c (SumTo c i) (i : Int)) (vl c) := by
  intro d
  induction d with
  | zero =>
    intro i hi
    refine Ev.step (f := fun _ => some (vl c)) (fun k => ?_) (Ev.now _)
    simp only [spec_Volume.l0]
    rw [if_neg (by omega), vl_eq]
    congr 2
  | succ d ih =>
    intro i hi
    have hc := h.1
    have h1 := sum_bd h i (by omega)
    have h2 := gv_cost h i (by omega)
    refine Ev.step (fun k => ?_) (ih (i + 1) (by omega))
    simp only [spec_Volume.l0]
    rw [if_pos (by omega), if_pos (by omega), w64 (x := SumTo c i + rd c i) (by omega) (by omega), w64 (by omega) (by omega)]
    rfl
theorem spec_vol (c : List Int) (es : List (List Int)) : Ev (fun k => spec_Volume.f k c es) (VL c es) := by
  unfold spec_Volume.f
  refine Ev.bind (spec_gv c es) ?_
  by_cases h : GV c es
  · simp only [decide_eq_true h, if_true]
    unfold VL; rw [if_pos h]
    exact spec_vol_loop h c.length 0 (by omega)
  · simp only [decide_eq_false h]
    unfold VL; rw [if_neg h]
    exact Ev.now _
theorem impl_vol_f {c : List Int} {es : List (List Int)} (h : GV c es) : Ev (fun k => impl_volume.f k c) (vl c) := by
  have loop : ∀ d i, i + d = c.length → Ev (fun k => impl_volume.l0 k (SumTo c i) c (c.length : Int) (i : Int)) (vl c) := by
    intro d
    induction d with
    | zero =>
      intro i hi
      refine Ev.step (f := fun _ => some (vl c)) (fun k => ?_) (Ev.now _)
      simp only [impl_volume.l0]
      rw [if_neg (by omega), vl_eq]
      congr 2
    | succ d ih =>
      intro i hi
      have hc := h.1
      have h1 := sum_bd h i (by omega)
      have h2 := gv_cost h i (by omega)
      refine Ev.step (fun k => ?_) (ih (i + 1) (by omega))
      simp only [impl_volume.l0]
      rw [if_pos (by omega), if_pos (by omega), if_pos (by omega), w64 (x := SumTo c i + rd c i) (by omega) (by omega), w64 (by omega) (by omega)]
      rfl
  exact loop c.length 0 (by omega)
theorem impl_vol (c : List Int) (es : List (List Int)) (hc : c.length ≤ 2097152) (he : es.length ≤ 2097152) : Ev (fun k => impl_Volume.f k c es) (VL c es) := by
  unfold impl_Volume.f
  refine Ev.bind (impl_gv c es hc he) ?_
  by_cases h : GV c es
  · simp only [decide_eq_true h, if_true]
    unfold VL; rw [if_pos h]
    exact Ev.bind (impl_vol_f h) (Ev.now _)
  · simp only [decide_eq_false h]
    unfold VL; rw [if_neg h]
    exact Ev.now _
theorem bst_drop (out : List Int) (b : Int) (es : List (List Int)) (j : Nat) (h : j < es.length) (t : Int) : bst out b (es.drop j) t = bst out b (es.drop (j + 1)) (stp out b t es[j]) := by
  rw [List.drop_eq_getElem_cons h]
  rfl
theorem spec_ends {c : List Int} {es : List (List Int)} (h : GV c es) : Ev (fun k => spec_l22Ends.f k c es) (ends c es c.length) := by
  have hc := h.1
  have he := h.2.1
  have inner : ∀ (i : Nat), i < c.length → ∀ R, Ev (fun k => spec_l22Ends.l0 k c es (ends c es (i + 1)) ((i : Int) + 1)) R → ∀ d j t, j + d = es.length → bst (ends c es i) (i : Int) (es.drop j) t = bst (ends c es i) (i : Int) es 0 → Ev (fun k => spec_l22Ends.l1 k c es (ends c es i) (i : Int) t (j : Int)) R := by
    intro i hi R hR d
    have hb := EV_bd h i hi
    have hco := gv_cost h i hi
    have heq := EV_eq c es i
    induction d with
    | zero =>
      intro j t hj ht
      refine Ev.step (fun k => ?_) hR
      rw [List.drop_eq_nil_of_le (by omega)] at ht
      have ht : t = bst (ends c es i) (i : Int) es 0 := ht
      simp only [spec_l22Ends.l1]
      rw [if_neg (by omega), if_pos (by omega), if_pos (by omega), if_pos (by rw [ends_len]; omega), w64 (x := t + rd c i) (by omega) (by omega), w64 (by omega) (by omega), ht]
      rfl
    | succ d ih =>
      intro j t hj ht
      have hjl : j < es.length := by omega
      have hok := h.2.2.2 es[j] (List.getElem_mem hjl)
      unfold EdgeOk at hok
      rw [bst_drop _ _ _ _ hjl] at ht
      refine Ev.step (fun k => ?_) (ih (j + 1) _ (by omega) ht)
      simp only [spec_l22Ends.l1]
      rw [if_pos (by omega), if_pos (by omega), rd5_at es j hjl, if_pos (by omega), w64 (x := (j : Int) + 1) (by omega) (by omega)]
      unfold stp
      by_cases hb : rd es[j] 1 = (i : Int)
      · rw [if_pos hb, if_pos hb, if_pos (by omega), if_pos (by omega), if_pos (by rw [ends_len]; omega), mx_max]
        rfl
      · rw [if_neg hb, if_neg hb]
        rfl
  have outer : ∀ d i, i + d = c.length → Ev (fun k => spec_l22Ends.l0 k c es (ends c es i) (i : Int)) (ends c es c.length) := by
    intro d
    induction d with
    | zero =>
      intro i hi
      obtain rfl : i = c.length := by omega
      refine Ev.step (f := fun _ => some (ends c es c.length)) (fun k => ?_) (Ev.now _)
      simp only [spec_l22Ends.l0]
      rw [if_neg (by omega)]
    | succ d ih =>
      intro i hi
      refine Ev.step (fun k => ?_) (inner i (by omega) _ (ih (i + 1) (by omega)) es.length 0 0 (by omega) rfl)
      simp only [spec_l22Ends.l0]
      rw [if_pos (by omega)]
      rfl
  exact outer c.length 0 (by omega)
theorem spec_cp (c : List Int) (es : List (List Int)) : Ev (fun k => spec_CriticalPath.f k c es) (CP c es) := by
  unfold spec_CriticalPath.f
  refine Ev.bind (spec_gv c es) ?_
  by_cases h : GV c es
  · simp only [decide_eq_true h, if_true]
    unfold CP; rw [if_pos h]
    refine Ev.bind (spec_ends h) ?_
    have hl := ends_len c es c.length
    have hc := h.1
    have loop : ∀ d i, i + d = c.length → Ev (fun k => spec_CriticalPath.l0 k (mxl ((ends c es c.length).take i) 0) (ends c es c.length) (i : Int)) (lng c es) := by
      intro d
      induction d with
      | zero =>
        intro i hi
        refine Ev.step (f := fun _ => some (lng c es)) (fun k => ?_) (Ev.now _)
        simp only [spec_CriticalPath.l0]
        rw [if_neg (by omega), List.take_of_length_le (by omega)]
        rfl
      | succ d ih =>
        intro i hi
        refine Ev.step (fun k => ?_) (ih (i + 1) (by omega))
        simp only [spec_CriticalPath.l0]
        rw [if_pos (by omega), if_pos (by omega), w64 (by omega) (by omega), mx_max, mxl_take _ _ (by omega), rd_at _ i (by omega)]
        rfl
    exact loop c.length 0 (by omega)
  · simp only [decide_eq_false h]
    unfold CP; rw [if_neg h]
    exact Ev.now _
theorem rd_set_eq (l : List Int) (i : Nat) (x : Int) (h : i < l.length) : rd (l.set i x) (i : Int) = x := by
  rw [rd_at _ i (by simpa using h)]
  simp
theorem rd_set_ne (l : List Int) (i a : Nat) (x : Int) (h : a ≠ i) : rd (l.set i x) (a : Int) = rd l (a : Int) := by
  unfold rd
  rw [List.getD_eq_getElem?_getD, List.getD_eq_getElem?_getD, Int.toNat_natCast, List.getElem?_set_ne (by omega)]
/-- The program's row of ends: what is done, what is under way, nothing. -/
def Row (c : List Int) (es : List (List Int)) (i : Nat) (t : Int) (x : List Int) : Prop :=
  x.length = c.length ∧ (∀ a : Nat, a < i → rd x (a : Int) = EV c es a) ∧ rd x (i : Int) = t ∧ ∀ a : Nat, i < a → rd x (a : Int) = 0
theorem row_read {c : List Int} {es : List (List Int)} {i : Nat} {t : Int} {x : List Int} (h : Row c es i t x) {a : Nat} (ha : a < i) : rd x (a : Int) = rd (ends c es i) (a : Int) := by
  rw [h.2.1 a ha, ends_rd c es i a ha]
theorem row_set {c : List Int} {es : List (List Int)} {i : Nat} {t : Int} {x : List Int} (h : Row c es i t x) (hi : i < c.length) (u : Int) : Row c es i u (x.set i u) := by
  refine ⟨by simpa using h.1, fun a ha => ?_, rd_set_eq _ _ _ (by rw [h.1]; exact hi), fun a ha => ?_⟩
  · rw [rd_set_ne _ _ _ _ (by omega)]; exact h.2.1 a ha
  · rw [rd_set_ne _ _ _ _ (by omega)]; exact h.2.2.2 a ha
theorem row_next {c : List Int} {es : List (List Int)} {i : Nat} {x : List Int} (h : Row c es i (EV c es i) x) : Row c es (i + 1) 0 x := by
  refine ⟨h.1, fun a ha => ?_, h.2.2.2 (i + 1) (by omega), fun a ha => h.2.2.2 a (by omega)⟩
  by_cases e : a = i
  · subst e; exact h.2.2.1
  · exact h.2.1 a (by omega)
theorem row_zero (c : List Int) (es : List (List Int)) : Row c es 0 0 (List.replicate c.length 0) := by
  have hz : ∀ a : Nat, rd (List.replicate c.length 0) (a : Int) = 0 := by
    intro a
    unfold rd
    rw [List.getD_eq_getElem?_getD, Int.toNat_natCast, List.getElem?_replicate]
    split <;> rfl
  exact ⟨by simp, fun a ha => by omega, hz 0, fun a _ => hz a⟩
theorem impl_crit_f {c : List Int} {es : List (List Int)} (h : GV c es) : Ev (fun k => impl_critical.f k c es) (lng c es) := by
  have hc := h.1
  have he := h.2.1
  have hel := ends_len c es c.length
  have inner : ∀ (i : Nat), i < c.length → ∀ R g, (∀ x, Row c es (i + 1) 0 x → Ev (fun k => impl_critical.l0 k es x (max g (EV c es i)) c (c.length : Int) ((i : Int) + 1)) R) → ∀ d j t x, j + d = es.length → Row c es i t x → bst (ends c es i) (i : Int) (es.drop j) t = bst (ends c es i) (i : Int) es 0 → Ev (fun k => impl_critical.l1 k es x g (i : Int) (rd c (i : Int)) c (c.length : Int) (i : Int) es (es.length : Int) (j : Int)) R := by
    intro i hi R g hR d
    have hb := EV_bd h i hi
    have hco := gv_cost h i hi
    have heq := EV_eq c es i
    induction d with
    | zero =>
      intro j t x hj hx ht
      rw [List.drop_eq_nil_of_le (by omega)] at ht
      have ht : t = bst (ends c es i) (i : Int) es 0 := ht
      have hx1 := hx.1
      have hx2 := hx.2.2.1
      have hn : Row c es i (EV c es i) (x.set i (EV c es i)) := row_set hx hi _
      refine Ev.step (fun k => ?_) (hR _ (row_next hn))
      simp only [impl_critical.l1]
      rw [if_neg (by omega), if_pos (by omega), if_pos (by omega), Option.bind_some, hx2, w64 (x := t + rd c i) (by omega) (by omega), w64 (by omega) (by omega), show t + rd c (i : Int) = EV c es i by omega, Int.toNat_natCast, hn.2.2.1, mx_max]
    | succ d ih =>
      intro j t x hj hx ht
      have hjl : j < es.length := by omega
      have hok := h.2.2.2 es[j] (List.getElem_mem hjl)
      unfold EdgeOk at hok
      rw [bst_drop _ _ _ _ hjl] at ht
      have hx1 := hx.1
      by_cases hb : rd es[j] 1 = (i : Int)
      · have hx2 := hx.2.2.1
        obtain ⟨a, ha⟩ : ∃ a : Nat, rd es[j] 0 = (a : Int) := ⟨(rd es[j] 0).toNat, by omega⟩
        have e1 : stp (ends c es i) (i : Int) t es[j] = max t (rd x (a : Int)) := by
          unfold stp; rw [if_pos hb, ha, row_read hx (by omega)]
        rw [e1] at ht
        refine Ev.step (fun k => ?_) (ih (j + 1) _ _ (by omega) (row_set hx hi _) ht)
        simp only [impl_critical.l1]
        rw [if_pos (by omega), if_pos (by omega), if_pos (by omega), rd5_at es j hjl, if_pos (by omega), w64 (x := (j : Int) + 1) (by omega) (by omega), if_pos hb, if_pos (by omega), if_pos (by omega), if_pos (by omega), if_pos (by omega), if_pos (by omega), hx2, mx_max, ha, Int.toNat_natCast]
        rfl
      · have e1 : stp (ends c es i) (i : Int) t es[j] = t := by
          unfold stp; rw [if_neg hb]
        rw [e1] at ht
        refine Ev.step (fun k => ?_) (ih (j + 1) _ _ (by omega) hx ht)
        simp only [impl_critical.l1]
        rw [if_pos (by omega), if_pos (by omega), if_pos (by omega), rd5_at es j hjl, if_pos (by omega), w64 (x := (j : Int) + 1) (by omega) (by omega), if_neg hb]
        rfl
  have outer : ∀ d i x, i + d = c.length → Row c es i 0 x → Ev (fun k => impl_critical.l0 k es x (mxl ((ends c es c.length).take i) 0) c (c.length : Int) (i : Int)) (lng c es) := by
    intro d
    induction d with
    | zero =>
      intro i x hi hx
      refine Ev.step (f := fun _ => some (lng c es)) (fun k => ?_) (Ev.now _)
      simp only [impl_critical.l0]
      rw [if_neg (by omega), List.take_of_length_le (by omega)]
      rfl
    | succ d ih =>
      intro i x hi hx
      have hil : i < c.length := by omega
      refine Ev.step (fun k => ?_) (inner i hil _ (mxl ((ends c es c.length).take i) 0) (fun y hy => ?_) es.length 0 0 x (by omega) hx rfl)
      · simp only [impl_critical.l0]
        rw [if_pos (by omega), if_pos (by omega), if_pos (by omega)]
        rfl
      · have := ih (i + 1) y (by omega) hy
        rw [mxl_take _ _ (by omega), ← rd_at _ i (by omega), ends_rd c es c.length i hil] at this
        exact this
  have := outer c.length 0 _ (by omega) (row_zero c es)
  refine Ev.congr (fun k => ?_) this
  unfold impl_critical.f
  rw [if_pos (by omega), Int.toNat_natCast, if_pos (by omega)]
  rfl
theorem impl_cp (c : List Int) (es : List (List Int)) (hc : c.length ≤ 2097152) (he : es.length ≤ 2097152) : Ev (fun k => impl_CriticalPath.f k c es) (CP c es) := by
  unfold impl_CriticalPath.f
  refine Ev.bind (impl_gv c es hc he) ?_
  by_cases h : GV c es
  · simp only [decide_eq_true h, if_true]
    unfold CP; rw [if_pos h]
    exact Ev.bind (impl_crit_f h) (Ev.now _)
  · simp only [decide_eq_false h]
    unfold CP; rw [if_neg h]
    exact Ev.now _
theorem mb_val {c : List Int} {es : List (List Int)} (h : GV c es) (m : Int) (hm : 1 ≤ m) : wrap64 (lng c es + wrap64 (Int.tdiv (wrap64 (vl c - lng c es)) m)) = lng c es + (vl c - lng c es) / m := by
  have h1 := lng_bd h
  have h2 := vl_bd h
  rw [w64 (x := vl c - lng c es) (by omega) (by omega), tdiv_pos (by omega)]
  have h3 := Int.ediv_nonneg (show 0 ≤ vl c - lng c es by omega) (show 0 ≤ m by omega)
  have h4 := Int.ediv_le_self m (show 0 ≤ vl c - lng c es by omega)
  rw [w64 (x := (vl c - lng c es) / m) (by omega) (by omega), w64 (by omega) (by omega)]
theorem spec_mb (c : List Int) (es : List (List Int)) (m : Int) : Ev (fun k => spec_MakespanBound.f k c es m) (MB c es m) := by
  unfold spec_MakespanBound.f
  refine Ev.bind (spec_gv c es) ?_
  have bad : ¬ (GV c es ∧ 1 ≤ m ∧ m ≤ 5) → Ev (fun k => spec_MakespanBound.j0 k c es m true) (MB c es m) := by
    intro h
    unfold MB; rw [if_neg h]
    exact Ev.step (f := fun _ => some (-1)) (fun k => by simp [spec_MakespanBound.j0]) (Ev.now _)
  by_cases h : GV c es
  · simp only [decide_eq_true h, if_true, l1In_f, Option.bind_some]
    by_cases hm : 1 ≤ m ∧ m ≤ 5
    · rw [decide_eq_true hm]
      refine Ev.step (f := fun k => (spec_CriticalPath.f k c es).bind fun t889 => (spec_Volume.f k c es).bind fun t890 => if m = 0 then none else some (wrap64 (t889 + wrap64 (Int.tdiv (wrap64 (t890 - t889)) m)))) (fun k => by simp [spec_MakespanBound.j0]) ?_
      refine Ev.bind (spec_cp c es) (Ev.bind (spec_vol c es) ?_)
      have e1 : CP c es = lng c es := if_pos h
      have e2 : VL c es = vl c := if_pos h
      have e3 : MB c es m = lng c es + (vl c - lng c es) / m := if_pos ⟨h, hm⟩
      rw [e1, e2, e3, ← mb_val h m hm.1, if_neg (by omega)]
      exact Ev.now _
    · rw [decide_eq_false hm]
      exact bad (fun h' => hm h'.2)
  · simp only [decide_eq_false h]
    exact bad (fun h' => h h'.1)
theorem impl_mb (c : List Int) (es : List (List Int)) (m : Int) (hc : c.length ≤ 2097152) (he : es.length ≤ 2097152) : Ev (fun k => impl_MakespanBound.f k c es m) (MB c es m) := by
  unfold impl_MakespanBound.f
  refine Ev.bind (impl_gv c es hc he) ?_
  have bad : ¬ (GV c es ∧ 1 ≤ m ∧ m ≤ 5) → Ev (fun k => impl_MakespanBound.j0 k c es m true) (MB c es m) := by
    intro h
    unfold MB; rw [if_neg h]
    exact Ev.step (f := fun _ => some (-1)) (fun k => by simp [impl_MakespanBound.j0]) (Ev.now _)
  by_cases h : GV c es
  · simp only [decide_eq_true h, if_true, impl_isCores.f, in_f, Option.bind_some]
    by_cases hm : 1 ≤ m ∧ m ≤ 5
    · rw [decide_eq_true hm]
      refine Ev.step (f := fun k => (impl_critical.f k c es).bind fun t889 => (impl_volume.f k c).bind fun t890 => if m = 0 then none else some (wrap64 (t889 + wrap64 (Int.tdiv (wrap64 (t890 - t889)) m)))) (fun k => by simp [impl_MakespanBound.j0]) ?_
      refine Ev.bind (impl_crit_f h) (Ev.bind (impl_vol_f h) ?_)
      have e3 : MB c es m = lng c es + (vl c - lng c es) / m := if_pos ⟨h, hm⟩
      rw [e3, ← mb_val h m hm.1, if_neg (by omega)]
      exact Ev.now _
    · rw [decide_eq_false hm]
      exact bad (fun h' => hm h'.2)
  · simp only [decide_eq_false h]
    exact bad (fun h' => h h'.1)
end Go.Proofs.Ytkmpcmhkfnoeiaa.Crit
/- Volume answers as the reference does. No condition. -/
namespace Go.Proofs.Ytkmpcmhkfnoeiaa.Pure
open Go.RowKit Go.Proofs.Ytkmpcmhkfnoeiaa.P Go.Proofs.Ytkmpcmhkfnoeiaa.Base Go.Proofs.Ytkmpcmhkfnoeiaa.Gen Go.Proofs.YtkmpcmhkfnoeiaaW.PrintWords Go.Proofs.YtkmpcmhkfnoeiaaW.PrintLast
open Go.Proofs.Ytkmpcmhkfnoeiaa.CopyInt Go.Proofs.Ytkmpcmhkfnoeiaa.CopySS Go.Proofs.Ytkmpcmhkfnoeiaa.Graph Go.Proofs.Ytkmpcmhkfnoeiaa.Crit 

theorem FnExactVolume : laws_FnExactVolume.Pure := by
  intro c es _ _ _ he
  apply Tot.rounds
  unfold laws_FnExactVolume.f
  refine Tot.ite (fun _ => Tot.ret _ rfl) (fun hl => ?_)
  have hl2 : c.length ≤ 1048576 := by omega
  refine Tot.bind (szIntSS_tot es he.1 (fun e h => (he.2 e h).1)) ?_
  intro r hr
  refine Tot.ite (fun _ => Tot.ret _ rfl) (fun h0 => ?_)
  have hs : Small es := hr.resolve_left h0
  have hs1 := hs.1
  clear hl hr he
  refine Tot.bind (toIntS_tot _ hl2) ?_
  rintro _ rfl
  refine Tot.bind (toIntSS_tot _ hs) ?_
  rintro _ rfl
  refine Tot.bind (Tot.val (spec_vol _ _)) ?_
  rintro _ rfl
  refine Tot.bind (toIntS_tot _ hl2) ?_
  rintro _ rfl
  refine Tot.bind (toIntSS_tot _ hs) ?_
  rintro _ rfl
  refine Tot.bind (Tot.val (impl_vol _ _ (by omega) (by omega))) ?_
  rintro _ rfl
  refine Tot.yes rfl ?_
  refine Tot.bind (toIntS_tot _ hl2) ?_
  rintro _ rfl
  refine Tot.bind (eqIntS_tot _ hl2) ?_
  rintro _ rfl
  refine Tot.yes rfl (Tot.bind (toIntSS_tot _ hs) ?_)
  rintro _ rfl
  refine Tot.bind (eqIntSS_tot _ hs) ?_
  rintro _ rfl
  exact Tot.yes rfl (Tot.ret _ rfl)
end Go.Proofs.Ytkmpcmhkfnoeiaa.Pure
/- Arguments of a law laid open: whatever reads as data of a type reads as a value of its kind.
   No condition. -/
namespace Go.Proofs.Ytkmpcmhkfnoeiaa.Opn
open Go.ChangeShapes Go.WideShapes Go.Deep Go.RowKit Go.Proofs.YtkmpcmhkfnoeiaaW.PrintWords
section
variable {H : Type} {enc : TypeId × Value → H} {P : Program} {W : World} {base : Nat} {spare : Nat → Bool} {held : Bool}

/-- Whatever reads as data of type t reads as a value of the kind d that is good. -/
def Opens {α : Type} (enc : TypeId × Value → H) (P : Program) (W : World) (base : Nat) (spare : Nat → Bool) (held : Bool) (t : TypeId) (d : Kd α) (G : α → Prop) : Prop :=
  ∀ (fuel : Nat) (cs : List Value) (x : DataW H × List MemPlace), DataW.trod enc P W base spare held fuel t cs = some x → ∃ a, d.K W a cs ∧ G a

theorem opens_int {t : TypeId} {k : IntKind} (hu : P.underlying t = some (.int k)) : Opens enc P W base spare held t (Kd.int k) (fun x => (Lit.int k x).wf = true) := by
  intro fuel cs x h
  obtain ⟨n, hc, _, hw⟩ := DataW.trod_int hu h
  exact ⟨n, hc, hw⟩
theorem opens_bool {t : TypeId} (hu : P.underlying t = some .bool) : Opens enc P W base spare held t Kd.bool (fun _ => True) := by
  intro fuel cs x h
  obtain ⟨n, hc, _⟩ := DataW.trod_bool hu h
  exact ⟨n, hc, trivial⟩

theorem list_of {α : Type} (m : Nat) (R : Nat → α → Prop) (h : ∀ i, i < m → ∃ a, R i a) : ∃ xs : List α, xs.length = m ∧ ∀ i a, xs[i]? = some a → R i a := by
  induction m with
  | zero => exact ⟨[], rfl, fun i a ha => by simp at ha⟩
  | succ m ih =>
    obtain ⟨xs, hl, hx⟩ := ih (fun i hi => h i (by omega))
    obtain ⟨a, ha⟩ := h m (by omega)
    refine ⟨xs ++ [a], by simp [hl], fun i b hb => ?_⟩
    rcases Nat.lt_or_ge i m with hi | hi
    · rw [List.getElem?_append_left (by omega)] at hb
      exact hx i b hb
    · have hi' : i = m := by
        have := (List.getElem?_eq_some_iff.1 hb).1
        simp at this
        omega
      subst hi'
      have : a = b := by simpa [hl] using hb
      subst this
      exact ha

/-- A slice of what opens. -/
theorem slice_row {α : Type} {t e : TypeId} {d : Kd α} {G : α → Prop} (hu : P.underlying t = some (.slice e)) (hC : P.cellsOf e = d.sz) (he : Opens enc P W base spare held e d G)
    {fuel : Nat} {A : Option Addr} {n cap : Nat} {x : DataW H × List MemPlace} (h : DataW.trod enc P W base spare held fuel t [.slice A n cap] = some x) :
    ∃ xs : List α, xs.length = n ∧ n ≤ cap ∧ n ≤ maxLen ∧ d.C W A xs.length xs ∧ ∀ y ∈ xs, G y := by
  rcases open_slice hu h with ⟨h0, _⟩ | ⟨a, len, c, m, k, D, Pl, hcs, _, hl, hm, hmm, _, hel⟩
  · simp only [List.cons.injEq, Value.slice.injEq, and_true] at h0
    obtain ⟨rfl, rfl, rfl⟩ := h0
    exact ⟨[], rfl, Nat.le_refl _, by simp [maxLen], Kd.C_nil d W, fun y hy => by simp at hy⟩
  · simp only [List.cons.injEq, Value.slice.injEq, and_true] at hcs
    obtain ⟨rfl, rfl, rfl⟩ := hcs
    have hle : n ≤ m := by rw [hmm]; split <;> omega
    obtain ⟨xs, hxl, hx⟩ := list_of (α := α) n (fun i y => G y ∧ ∃ cs', d.K W y cs' ∧ cs'.length = d.sz ∧ ∀ j, j < d.sz → W.cell? ((a.add (i * d.sz)).add j) = cs'[j]?) (by
      intro i hi
      obtain ⟨cs', hc, ht⟩ := hel i (by omega)
      obtain ⟨y, hK, hG⟩ := he _ _ _ ht
      rw [hC] at hc
      obtain ⟨_, hcl, hcc⟩ := World.cells?_some hc
      exact ⟨y, hG, cs', hK, hcl, hcc⟩)
    refine ⟨xs, hxl, hl, by omega, ⟨rfl, by simp only [maxLen] at hm; omega, fun hp => ⟨a, rfl, fun j p hj => ?_⟩⟩, fun y hy => ?_⟩
    · obtain ⟨_, cs', hK, hcl, hcc⟩ := hx j p hj
      refine ⟨cs', hcl, hK, fun i u hi => ?_⟩
      have hlt : i < d.sz := by
        have := (List.getElem?_eq_some_iff.1 hi).1
        omega
      rw [← Go.Deep.add_add, hcc i hlt, hi]
    · obtain ⟨i, hi, rfl⟩ := List.getElem_of_mem hy
      exact (hx i _ (List.getElem?_eq_getElem hi)).1
theorem opens_slice {α : Type} {t e : TypeId} {d : Kd α} {G : α → Prop} (hu : P.underlying t = some (.slice e)) (hC : P.cellsOf e = d.sz) (he : Opens enc P W base spare held e d G) :
    Opens enc P W base spare held t (Kd.slice e d) (fun xs => xs.length ≤ maxLen ∧ ∀ y ∈ xs, G y) := by
  intro fuel cs x h
  have hform : ∃ A n c, cs = [.slice A n c] := by
    rcases open_slice hu h with ⟨h0, _⟩ | ⟨a, len, c, m, k, D, Pl, hcs, _⟩
    · exact ⟨_, _, _, h0⟩
    · exact ⟨_, _, _, hcs⟩
  obtain ⟨A, n, c, rfl⟩ := hform
  obtain ⟨xs, rfl, hc, hm, hC', hG⟩ := slice_row hu hC he h
  exact ⟨xs, ⟨A, c, rfl, hc, hC'⟩, hm, hG⟩

/-- A struct of whole numbers. -/
theorem trod_ints {t : TypeId} {fs : Array Field} (hs : P.underlying t = some (.struct fs)) (hC : P.cellsOf t = fs.size) (hf : ∀ (j : Nat) (f : Field), fs[j]? = some f → f.offset = j ∧ P.cellsOf f.type = 1 ∧ P.underlying f.type = some (.int .i64))
    {fuel : Nat} {cs : List Value} {x : DataW H × List MemPlace} (h : DataW.trod enc P W base spare held fuel t cs = some x) :
    ∃ xs : List Int, xs.length = fs.size ∧ cs = xs.map (Value.int .i64) ∧ ∀ y ∈ xs, (Lit.int .i64 y).wf = true := by
  obtain ⟨ys, n, _, _, hl, hyl, hy⟩ := DataW.trod_struct hs h
  obtain ⟨xs, hxl, hx⟩ := list_of (α := Int) fs.size (fun j y => cs[j]? = some (.int .i64 y) ∧ (Lit.int .i64 y).wf = true) (by
    intro j hj
    have hfj : fs[j]? = some fs[j] := Array.getElem?_eq_getElem hj
    obtain ⟨ho, hk, hi⟩ := hf j _ hfj
    have h1 := hy j _ hfj
    rw [ho, hk] at h1
    have hjl : j < cs.length := by omega
    have e1 : (cs.drop j).take 1 = [cs[j]'hjl] := by
      rw [List.drop_eq_getElem_cons hjl]
      rfl
    rw [e1, List.getElem?_eq_getElem (by omega)] at h1
    obtain ⟨y, hc, _, hw⟩ := DataW.trod_int hi h1
    refine ⟨y, ?_, hw⟩
    rw [List.getElem?_eq_getElem hjl]
    simpa using hc)
  refine ⟨xs, hxl, ?_, fun y hy' => ?_⟩
  · apply List.ext_getElem?
    intro j
    rcases Nat.lt_or_ge j fs.size with hj | hj
    · rw [List.getElem?_map]
      have e := List.getElem?_eq_getElem (l := xs) (i := j) (by omega)
      rw [e, (hx j _ e).1]
      rfl
    · rw [List.getElem?_eq_none (by omega), List.getElem?_eq_none (by simp; omega)]
  · obtain ⟨i, hi, rfl⟩ := List.getElem_of_mem hy'
    exact (hx i _ (List.getElem?_eq_getElem hi)).2
theorem one2 {xs : List Int} (h : xs.length = 2) : ∃ a b, xs = [a, b] := by
  match xs, h with
  | [a, b], _ => exact ⟨a, b, rfl⟩
theorem one3 {xs : List Int} (h : xs.length = 3) : ∃ a b c, xs = [a, b, c] := by
  match xs, h with
  | [a, b, c], _ => exact ⟨a, b, c, rfl⟩
theorem one4 {xs : List Int} (h : xs.length = 4) : ∃ a b c d, xs = [a, b, c, d] := by
  match xs, h with
  | [a, b, c, d], _ => exact ⟨a, b, c, d, rfl⟩
theorem agg_cells (cs : Array Value) : (Value.agg cs).cells.toList = cs.toList := rfl
/-- The weight of a slice bounds its length. -/
theorem sized_row {t e : TypeId} {A : Option Addr} {n cap : Nat} {d : DataW H} {ps : List MemPlace} {ts : List TypeId} {ds : List (DataW H)} {j : Nat}
    (hsz : (DataW.weightsEach P ts ds).all (· ≤ reachBytes) = true) (ht : ts[j]? = some t) (hd : ds[j]? = some d) (hu : P.underlying t = some (.slice e)) {B : Nat} (hB : P.bytesOf e = B)
    (h : DataW.Trod enc P W base spare held t (.slice A n cap) d ps) : n * B ≤ 140737488351232 := by
  obtain ⟨fuel, hf⟩ := h
  have hf' : DataW.trod enc P W base spare held fuel t [.slice A n cap] = some (d, ps) := hf
  rcases open_slice hu hf' with ⟨h0, _⟩ | ⟨a, len, c, m, k, D, Pl, hcs, _, hl, hm, hmm, hx, hel⟩
  · simp only [List.cons.injEq, Value.slice.injEq, and_true] at h0
    obtain ⟨rfl, rfl, rfl⟩ := h0
    simp
  · simp only [List.cons.injEq, Value.slice.injEq, and_true] at hcs
    obtain ⟨rfl, rfl, rfl⟩ := hcs
    obtain ⟨hx, _⟩ := Prod.mk.inj hx
    subst hx
    have z := sized_slice hsz ht hd hu
    rw [hB] at z
    simp only [List.length_map, List.length_range] at z
    exact Nat.le_trans (Nat.mul_le_mul_right _ (by omega)) z
end
end Go.Proofs.Ytkmpcmhkfnoeiaa.Opn
/- The head of the translation: a cut, with nothing lifted. No condition. -/
namespace Go.Proofs.Ytkmpcmhkfnoeiaa.Head
open Go
def chars (l : List Nat) : List Char := l.map Char.ofNat
def w1 : List Nat := [104, 97, 114, 110, 101, 115, 115]
def w2 : List Nat := [98, 51, 101, 57, 53, 99, 48, 99, 53, 99, 48, 102, 56, 101, 53, 99, 99, 102, 102, 51, 56, 51, 55, 99, 98, 54, 57, 51, 102, 99, 102, 99, 56, 55, 101, 57, 99, 51, 54, 55, 51, 54, 57, 97, 98, 97, 48, 56, 49, 99, 55, 50, 51, 97, 97, 50, 55, 48, 99, 53, 49, 99, 55, 54]
def w3 : List Nat := [99, 117, 116]
def w4 : List Nat := [97, 116, 32, 108, 111, 111, 112, 46, 101, 120, 97, 109, 112, 108, 101, 47, 100, 101, 97, 100, 108, 105, 110, 101, 115, 99, 104, 101, 100, 117, 108, 101, 114, 47, 108, 97, 119, 115, 46, 70, 110, 69, 120, 97, 99, 116, 83, 117, 98, 116, 97, 115, 107, 87, 105, 110, 100, 111, 119, 32, 108, 111, 111, 112, 46, 101, 120, 97, 109, 112, 108, 101, 47, 100, 101, 97, 100, 108, 105, 110, 101, 115, 99, 104, 101, 100, 117, 108, 101, 114, 47, 108, 97, 119, 115, 46, 70, 110, 83, 117, 98, 116, 97, 115, 107, 87, 105, 110, 100, 111, 119, 32, 108, 111, 111, 112, 46, 101, 120, 97, 109, 112, 108, 101, 47, 100, 101, 97, 100, 108, 105, 110, 101, 115, 99, 104, 101, 100, 117, 108, 101, 114, 47, 108, 97, 119, 115, 46, 70, 110, 69, 120, 97, 99, 116, 67, 111, 110, 102, 111, 114, 109, 115, 32, 108, 111, 111, 112, 46, 101, 120, 97, 109, 112, 108, 101, 47, 100, 101, 97, 100, 108, 105, 110, 101, 115, 99, 104, 101, 100, 117, 108, 101, 114, 47, 108, 97, 119, 115, 46, 70, 110, 67, 111, 110, 102, 111, 114, 109, 115, 32, 108, 111, 111, 112, 46, 101, 120, 97, 109, 112, 108, 101, 47, 100, 101, 97, 100, 108, 105, 110, 101, 115, 99, 104, 101, 100, 117, 108, 101, 114, 47, 108, 97, 119, 115, 46, 70, 110, 69, 120, 97, 99, 116, 66, 97, 99, 107, 108, 111, 103, 115, 32, 108, 111, 111, 112, 46, 101, 120, 97, 109, 112, 108, 101, 47, 100, 101, 97, 100, 108, 105, 110, 101, 115, 99, 104, 101, 100, 117, 108, 101, 114, 47, 108, 97, 119, 115, 46, 70, 110, 66, 97, 99, 107, 108, 111, 103, 115, 32, 108, 111, 111, 112, 46, 101, 120, 97, 109, 112, 108, 101, 47, 100, 101, 97, 100, 108, 105, 110, 101, 115, 99, 104, 101, 100, 117, 108, 101, 114, 47, 108, 97, 119, 115, 46, 70, 110, 66, 97, 99, 107, 108, 111, 103, 83, 97, 102, 101, 32, 108, 111, 111, 112, 46, 101, 120, 97, 109, 112, 108, 101, 47, 100, 101, 97, 100, 108, 105, 110, 101, 115, 99, 104, 101, 100, 117, 108, 101, 114, 47, 108, 97, 119, 115, 46, 70, 110, 68, 101, 108, 97, 121, 83, 97, 102, 101, 32, 108, 111, 111, 112, 46, 101, 120, 97, 109, 112, 108, 101, 47, 100, 101, 97, 100, 108, 105, 110, 101, 115, 99, 104, 101, 100, 117, 108, 101, 114, 47, 108, 97, 119, 115, 46, 70, 110, 69, 120, 97, 99, 116, 71, 114, 97, 112, 104, 86, 97, 108, 105, 100, 32, 108, 111, 111, 112, 46, 101, 120, 97, 109, 112, 108, 101, 47, 100, 101, 97, 100, 108, 105, 110, 101, 115, 99, 104, 101, 100, 117, 108, 101, 114, 47, 108, 97, 119, 115, 46, 70, 110, 71, 114, 97, 112, 104, 86, 97, 108, 105, 100, 32, 108, 111, 111, 112, 46, 101, 120, 97, 109, 112, 108, 101, 47, 100, 101, 97, 100, 108, 105, 110, 101, 115, 99, 104, 101, 100, 117, 108, 101, 114, 47, 108, 97, 119, 115, 46, 70, 110, 69, 120, 97, 99, 116, 86, 111, 108, 117, 109, 101, 32, 108, 111, 111, 112, 46, 101, 120, 97, 109, 112, 108, 101, 47, 100, 101, 97, 100, 108, 105, 110, 101, 115, 99, 104, 101, 100, 117, 108, 101, 114, 47, 108, 97, 119, 115, 46, 70, 110, 69, 120, 97, 99, 116, 67, 114, 105, 116, 105, 99, 97, 108, 80, 97, 116, 104, 32, 108, 111, 111, 112, 46, 101, 120, 97, 109, 112, 108, 101, 47, 100, 101, 97, 100, 108, 105, 110, 101, 115, 99, 104, 101, 100, 117, 108, 101, 114, 47, 108, 97, 119, 115, 46, 70, 110, 67, 114, 105, 116, 105, 99, 97, 108, 80, 97, 116, 104, 32, 108, 111, 111, 112, 46, 101, 120, 97, 109, 112, 108, 101, 47, 100, 101, 97, 100, 108, 105, 110, 101, 115, 99, 104, 101, 100, 117, 108, 101, 114, 47, 108, 97, 119, 115, 46, 70, 110, 69, 120, 97, 99, 116, 77, 97, 107, 101, 115, 112, 97, 110, 66, 111, 117, 110, 100]
theorem io_eq : Try.prog.initOrder = String.ofList (chars (w1 ++ 32 :: (w2 ++ 32 :: (w3 ++ 32 :: w4)))) := by kernel_rfl
theorem io_list : Try.prog.initOrder.toList = chars (w1 ++ 32 :: (w2 ++ 32 :: (w3 ++ 32 :: w4))) := by rw [io_eq, String.toList_ofList]
theorem ws_one (c : Char) (r w : List Char) (ws : List (List Char)) (hc : c ≠ Char.ofNat 32) (h : wordsSigns r = w :: ws) : wordsSigns (c :: r) = (c :: w) :: ws := by
  have e : wordsSigns (c :: r) = match wordsSigns r with
    | w :: ws => (c :: w) :: ws
    | [] => [[c]] := by
    rw [wordsSigns]
    · rfl
    · exact hc
  rw [e, h]
theorem ws_word (w : List Char) (h : ∀ c ∈ w, c ≠ Char.ofNat 32) (r : List Char) : wordsSigns (w ++ Char.ofNat 32 :: r) = w :: wordsSigns r := by
  induction w with
  | nil => rfl
  | cons c w ih => exact ws_one _ _ _ _ (h c (by simp)) (ih (fun x hx => h x (by simp [hx])))
theorem ws_nat (w r : List Nat) (h : w.all (fun n => !(Char.ofNat n == Char.ofNat 32)) = true) : wordsSigns (chars (w ++ 32 :: r)) = chars w :: wordsSigns (chars r) := by
  have e : chars (w ++ 32 :: r) = chars w ++ Char.ofNat 32 :: chars r := by simp [chars]
  rw [e]
  refine ws_word _ (fun c hc => ?_) _
  obtain ⟨n, hn, rfl⟩ := List.mem_map.1 hc
  have := List.all_eq_true.1 h n hn
  simpa using this
theorem io_words : behindMainWord (wordsSigns Try.prog.initOrder.toList) = chars w3 :: wordsSigns (chars w4) := by
  rw [io_list, ws_nat _ _ (by kernel_rfl), ws_nat _ _ (by kernel_rfl), ws_nat _ _ (by kernel_rfl)]
  generalize wordsSigns (chars w4) = R
  kernel_rfl
theorem make_gen (P : Program) (c : List Char) (R : List (List Char)) (h : behindMainWord (wordsSigns P.initOrder.toList) = c :: R) (h1 : (c == "gc".toList || c == "spec".toList) = false) (h2 : (c == "cut".toList) = true) : P.make = some .cut := by
  unfold Program.make
  rw [h]
  simp only [h1, h2, Bool.true_or, if_true, Bool.false_eq_true, if_false]
theorem make : Try.prog.make = some .cut := make_gen _ _ _ io_words (by kernel_rfl) (by kernel_rfl)
theorem enter_gen (P : Program) (c : List Char) (R : List (List Char)) (h : behindMainWord (wordsSigns P.initOrder.toList) = c :: R) (h1 : ∀ R, stripLifts liftWords (c :: R) = ([], c :: R)) (h2 : (some c == some "cut".toList) = true)
    (h3 : P.laysLater = false) (h4 : P.bearsReflect = false) (h5 : P.doorFits [] = true) : P.mayEnter = true := by
  unfold Program.mayEnter
  rw [h]
  simp only [h1, h2, h3, h4, h5, List.head?_cons, Bool.not_false, Bool.or_true, Bool.and_true, List.contains_nil]
theorem enter : Try.prog.mayEnter = true := enter_gen _ _ _ io_words (fun R => by kernel_rfl) (by kernel_rfl) (by kernel_rfl) (by kernel_rfl) (by kernel_rfl)
theorem lifts : Try.prog.liftsFinal = false := by
  unfold Program.liftsFinal Program.headLifts
  simp only [io_words]
  generalize wordsSigns (chars w4) = R
  kernel_rfl
end Go.Proofs.Ytkmpcmhkfnoeiaa.Head
/- The law FnExactVolume, proved: for every input the call returns true and each argument reads as it did. No condition. -/
namespace Go.Proofs.Ytkmpcmhkfnoeiaa.fnExactVolume
open Go.ChangeShapes Go.WideShapes Go.ChangeAt Go.RowKit Go.Proofs.YtkmpcmhkfnoeiaaW.PrintWords Go.Proofs.Ytkmpcmhkfnoeiaa.P
open Go.ChangeMaps (open_string shut_string)
theorem own : ownKnob Try.prog.godebug = none := by kernel_rfl
theorem laidOut : laidOutB Try.prog = true := by kernel_rfl
set_option maxRecDepth 100000 in
theorem lifted (os : Os) (started : os.Started) (H : Type) (enc : TypeId × Value → H) :
    ReturnsInHanded {} Try.checked os 13 .any (Rows.fnExactVolumeSpec.pre6 enc Try.prog Try.f13 Rows.fnExactVolumeRow.domain false) (Rows.fnExactVolumeSpec.post enc Try.prog Try.f13 false true false false) := by
  refine returnsInHanded_of_change_sized (C := Try.checked) own started (by kernel_rfl) Try.func13
    (ChangeSpec.witness6 (enc := enc) (C := Try.checked) false ⟨#[], #[.slice none 0 0, .slice none 0 0], []⟩ 8 (by kernel_rfl) (by kernel_rfl) (by kernel_rfl) (by kernel_rfl)) ?_
  intro W base args ds gs before hval0 hW hcnd hsz0 _
  have hsz : (DataW.weightsEach Try.prog (Try.f13.params.toList ++ Rows.fnExactVolumeSpec.plain.varTypes Try.prog) (ds ++ gs)).all (· ≤ reachBytes) = true := hsz0
  have hval : ∀ (j : Nat) t v, Try.f13.params[j]? = some t → args[j]? = some v → Value.okWide Try.prog W .any base t v := hval0
  have hW' := hW
  obtain ⟨p, q, hA0, hV, rfl, hfz, hnd⟩ := hW
  have hA : DataW.TrodAll enc Try.prog W 0 (fun _ => true) true Try.f13.params.toList args.toList ds p := hA0
  rw [Try.params13] at hA hval hsz
  obtain ⟨v0, vs0, d0, ds0, p0, q0, hargs, rfl, rfl, h0, r0⟩ := trodAll_cons hA
  obtain ⟨v1, vs1, d1, ds1, p1, q1, rfl, rfl, rfl, h1, r1⟩ := trodAll_cons r0
  obtain ⟨rfl, rfl, rfl⟩ := trodAll_nil r1
  obtain rfl : args = #[v0, v1] := by cases args; simp_all
  obtain ⟨rfl, rfl⟩ := trodVars_none hV
  have k0 := h0
  have lt0 : ∀ x ∈ p0, x.block < W.heap.size := by obtain ⟨m, hm⟩ := k0; exact DataW.trod_lt m _ _ _ hm
  obtain ⟨A0, n0, c0, rfl⟩ := okWide_slice Try.underlying39 (hval 0 39 v0 rfl rfl)
  have y0 : n0 * 8 ≤ 140737488351232 := Opn.sized_row hsz (j := 0) (t := 39) rfl rfl Try.underlying39 (by kernel_rfl) h0
  obtain ⟨l0, rfl, hc0, hm0, hr0, hg0⟩ : ∃ xs : List (Int), xs.length = n0 ∧ n0 ≤ c0 ∧ n0 ≤ maxLen ∧ Kd.C (Kd.int .i64) W A0 xs.length xs ∧ ∀ y0 ∈ xs, (Lit.int .i64 y0).wf = true := by
    obtain ⟨fuel, hf⟩ := h0
    exact Opn.slice_row Try.underlying39 (by kernel_rfl) (Opn.opens_int Try.underlying3) hf
  have k1 := h1
  have lt1 : ∀ x ∈ p1, x.block < W.heap.size := by obtain ⟨m, hm⟩ := k1; exact DataW.trod_lt m _ _ _ hm
  obtain ⟨A1, n1, c1, rfl⟩ := okWide_slice Try.underlying60 (hval 1 60 v1 rfl rfl)
  have y1 : n1 * 24 ≤ 140737488351232 := Opn.sized_row hsz (j := 1) (t := 60) rfl rfl Try.underlying60 (by kernel_rfl) h1
  obtain ⟨l1, rfl, hc1, hm1, hr1, hg1⟩ : ∃ xs : List (List Int), xs.length = n1 ∧ n1 ≤ c1 ∧ n1 ≤ maxLen ∧ Kd.C (Kd.slice 3 (Kd.int .i64)) W A1 xs.length xs ∧ ∀ y0 ∈ xs, y0.length ≤ maxLen ∧ ∀ y1 ∈ y0, (Lit.int .i64 y1).wf = true := by
    obtain ⟨fuel, hf⟩ := h1
    exact Opn.slice_row Try.underlying60 (by kernel_rfl) (Opn.opens_slice Try.underlying39 (by kernel_rfl) (Opn.opens_int Try.underlying3)) hf
  obtain ⟨k, hk⟩ := Pure.FnExactVolume l0 l1 y0 ⟨hm0, hg0⟩ y1 ⟨hm1, hg1⟩
  clear hA0 hval0 hsz0 hsz
  refine (laws_FnExactVolume.calls k A0 c0 l0 A1 c1 l1 true W hr0 hc0 hr1 hc1 hk).mono fun e W' ⟨he, hd⟩ => ?_
  have bel := hd
  subst he
  exact ⟨_, rfl, _, _, _, [], _, [], hW', trodAll_mk1 (shut_bool Try.underlying4 _), (trodAll_cons_mk (Below.trod laidOut (by kernel_rfl) (of_decide_eq_true (by kernel_rfl)) k0 bel lt0) (trodAll_cons_mk (Below.trod laidOut (by kernel_rfl) (of_decide_eq_true (by kernel_rfl)) k1 bel lt1) trodAll_mk0)), rfl, bel.frame _, fun h => by cases h⟩
theorem closed : joinedFacts Try.prog 13 Try.f13 Rows.fnExactVolumeSpec Rows.fnExactVolumeRow = true := by
  simp only [joinedFacts, Head.enter, Head.lifts, Head.make]
  kernel_rfl
theorem named : Try.prog.funcNamed Rows.fnExactVolumeRow.func = some 13 := by kernel_rfl
theorem wrapped : Try.f13.isWrapper Try.prog Rows.fnExactVolumeRow.wrapper Rows.fnExactVolumeRow.mainSum := by unfold Func.isWrapper; first | (rw [if_pos (by decide +kernel)]; kernel_rfl) | (rw [if_neg (by decide +kernel)]; exact ⟨rfl, rfl⟩)
theorem over : Rows.fnExactVolumeRow.holds Try.pinned (OpenSpec.ofChange Rows.fnExactVolumeSpec) :=
  OpenClaim.holds_of_wide 13 Try.f13 rfl rfl rfl rfl rfl rfl rfl ⟨rfl, rfl, rfl, rfl, rfl⟩ rfl rfl rfl rfl rfl named Try.func13 closed
    (of_decide_eq_true (by kernel_rfl)) wrapped
    (fun os started H enc _ => lifted os started H enc)
theorem proved : Rows.FnExactVolumeSaid := over
#print axioms proved
end Go.Proofs.Ytkmpcmhkfnoeiaa.fnExactVolume
namespace Go.Proofs.Ytkmpcmhkfnoeiaa
/-- The row, under a short name, for the claim. -/
theorem fnExactVolume_holds : Rows.FnExactVolumeSaid := fnExactVolume.proved
end Go.Proofs.Ytkmpcmhkfnoeiaa
