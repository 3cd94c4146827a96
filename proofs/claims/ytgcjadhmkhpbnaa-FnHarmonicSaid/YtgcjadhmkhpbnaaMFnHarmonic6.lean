/- The law FnHarmonic for every input, part 6 of its proof: what the program's functions answer, and the plain law. No condition. -/
import Derived.Test.YtgcjadhmkhpbnaaMFnHarmonic1
import Derived.Test.YtgcjadhmkhpbnaaMFnHarmonic2
import Derived.Test.YtgcjadhmkhpbnaaMFnHarmonic5
import Derived.Sort.Lot0
import Derived.SizedLaws
import Derived.ChangeSlices
import Derived.ChangeArms
import Derived.WideShapes
import Derived.Deep.Slices
import Derived.OpenShut
import Derived.Test.YtgcjadhmkhpbnaaRows
import Derived.JoinedOf
import Derived.KernelRfl
import Derived.WalkKit
import Derived.ProofKit
import Derived.ShutString
import Derived.ChangeOld
import Derived.Below
-- Laid by a program of this work.
namespace Go.Proofs.Ytgcjadhmkhpbnaa.P
open Go.RowKit Go.Proofs.YtgcjadhmkhpbnaaW.PrintWords Go.Proofs.YtgcjadhmkhpbnaaW.PrintLast Go.Proofs.YtgcjadhmkhpbnaaW.PrintMore
attribute [local go_sem] max2_int min2_int max_two min_two max_three min_three max_four min_four   -- for this text's walks alone
set_option linter.unusedVariables false
set_option linter.unusedSimpArgs false

/-! ### impl_demand: function 74 -/
def impl_demand.l0 : Nat → Int → Int → List (S56) → Int → Int → Option (Int)
  | 0, _, _, _, _, _ => none
  | k + 1, x1, x5, x8, x9, x10 => if x10 < x9 then (if 0 ≤ x10 then (if x10 < (x8.length : Int) then (if x1 ≥ ((rd_T56 x8 x10).f1) then (if ((rd_T56 x8 x10).f2) = 0 then (none) else (impl_demand.l0 k x1 (wrap64 (x5 + (wrap64 ((wrap64 ((wrap64 (Int.tdiv (wrap64 (x1 - ((rd_T56 x8 x10).f1))) ((rd_T56 x8 x10).f2))) + 1)) * ((rd_T56 x8 x10).f0))))) x8 x9 (wrap64 (x10 + 1)))) else (impl_demand.l0 k x1 x5 x8 x9 (wrap64 (x10 + 1)))) else (none)) else (none)) else (some x5)
def impl_demand.f (k : Nat) (l0 : List (S56)) (a1 : Int) : Option (Int) := impl_demand.l0 k a1 0 l0 (l0.length : Int) 0
theorem impl_demand.mono_l : ∀ k, (∀ y0 y1 y2 y3 y4, LeO (impl_demand.l0 k y0 y1 y2 y3 y4) (impl_demand.l0 (k + 1) y0 y1 y2 y3 y4))
  | 0 => fun _ _ _ _ _ r h => by simp [impl_demand.l0] at h
  | k + 1 => by
    have ih0 := impl_demand.mono_l k
    · intro y0 y1 y2 y3 y4
      unfold impl_demand.l0
      repeat' first
      | (with_reducible exact ih0 _ _ _ _ _)
      | (with_reducible exact LeO.refl _)
      | (with_reducible exact LeO.none _)
      | (with_reducible refine LeO.ite ?_ ?_)
      | (with_reducible refine LeO.bind ?_ (fun _ => ?_))
      | exact ih0 _ _ _ _ _
      | exact LeO.none _
      | refine LeO.ite ?_ ?_
      | refine LeO.bind ?_ (fun _ => ?_)
theorem impl_demand.mono : ∀ a0 a1 k, LeO (impl_demand.f k a0 a1) (impl_demand.f (k + 1) a0 a1) := by
  intro a0 a1 k
  have ih0 := impl_demand.mono_l k
  unfold impl_demand.f
  repeat' first
      | (with_reducible exact ih0 _ _ _ _ _)
      | (with_reducible exact LeO.refl _)
      | (with_reducible exact LeO.none _)
      | (with_reducible refine LeO.ite ?_ ?_)
      | (with_reducible refine LeO.bind ?_ (fun _ => ?_))
      | exact ih0 _ _ _ _ _
      | exact LeO.none _
      | refine LeO.ite ?_ ?_
      | refine LeO.bind ?_ (fun _ => ?_)
set_option maxHeartbeats 8000000 in
set_option maxRecDepth 100000 in
theorem impl_demand.calls (k : Nat) (A0 : Option Addr) (c0 : Nat) (l0 : List (S56)) (a1 : Int) (r : Int) (w : World) (hr0 : Kd.C k56 w A0 l0.length l0) (hc0 : l0.length ≤ c0) (h : impl_demand.f k l0 a1 = some r) :
    Calls Try.prog 74 #[.slice A0 l0.length c0, .int .i64 a1] w fun e w' => e = .returned (.int .i64 r) ∧ Below w.heap.size w w' := by
  have hu56 := Try.underlying56
  have HR0 := Aside0.mk hr0
  have HC0 := Aside0.mk hc0
  clear hr0 hc0
  have HB := Aside0.mk (Below.refl w.heap.size w)
  have H : (impl_demand.l0 k a1 0 l0 (l0.length : Int) 0) = some r := h
  clear h
  have H' := Aside0.mk H
  clear H
  go_enter Try.func74, Try.ntmps74
  go_wp2
  repeat (go_quiet (fail); try go_wp2)
  go_loopg [5, 10] k (fun kq v5 v10 w' => ∃ (x5_1 : Int) (x10_1 : Int), v5 = .int .i64 x5_1 ∧ v10 = .int .i64 x10_1 ∧ Aside0 (impl_demand.l0 kq a1 x5_1 l0 (l0.length : Int) x10_1 = some r) ∧ Aside0 (kq ≤ k) ∧ Aside0 (Below w.heap.size w w'))
  case atStart => exact ⟨(0), (0), (by first | rfl | (simp; done) | (simp [*]; done)), (by first | rfl | (simp; done) | (simp [*]; done)), H', ⟨Nat.le_refl _⟩, ⟨by repeat (first | (with_reducible first | exact HB.out | apply below_alloc | apply pw_below_drewN | apply below_drew1) | exact HB.out)⟩⟩
  case round =>
    clear H'
    try clear p2
    obtain ⟨x5_1, x10_1, rfl, rfl, HA, HK1, HB⟩ := hrel
    cases gk with
    | zero => exact absurd HA.out (by simp [impl_demand.l0])
    | succ k1 =>
      have H := HA.out
      clear HA
      simp only [impl_demand.l0] at H
      by_cases c3 : x10_1 < (l0.length : Int)
      · rw [if_pos c3] at H
        have c3b0 : decide (x10_1 < (l0.length : Int)) = true := decide_eq_true c3
        clear c3
        by_cases c4 : 0 ≤ x10_1
        · rw [if_pos c4] at H
          have c4b0 : decide (0 ≤ x10_1) = true := decide_eq_true c4
          clear c4
          by_cases c5 : x10_1 < (l0.length : Int)
          · rw [if_pos c5] at H
            have c5b0 : decide (x10_1 < (l0.length : Int)) = true := decide_eq_true c5
            clear c5
            by_cases c6 : a1 ≥ ((rd_T56 l0 x10_1).f1)
            · rw [if_pos c6] at H
              have c6b0 : decide (((rd_T56 l0 x10_1).f1) ≤ a1) = true := decide_eq_true c6
              clear c6
              by_cases c7 : ((rd_T56 l0 x10_1).f2) = 0
              · rw [if_pos c7] at H
                exact absurd H (by simp)
              · rw [if_neg c7] at H
                have c7b0 : (((rd_T56 l0 x10_1).f2) == 0) = false := beq_eq_false_iff_ne.mpr c7
                have c7b1 : (((rd_T56 l0 x10_1).f2) != 0) = true := bne_iff_ne.mpr c7
                have H' := Aside0.mk H
                clear H
                have p418 : 0 ≤ (x10_1 : Int) := of_decide_eq_true (by first | (with_reducible assumption) | assumption)
                have q418 : x10_1 < (l0.length : Int) := of_decide_eq_true (by first | (with_reducible assumption) | assumption)
                obtain ⟨ad418, e418, hx418_0, hx418_1, hx418_2⟩ := at_T56 HR0.out x10_1 p418 q418
                cases e418
                replace hx418_0 := (HB.out.cell (World.block_lt_of_cell? w _ hx418_0)).trans hx418_0
                replace hx418_1 := (HB.out.cell (World.block_lt_of_cell? w _ hx418_1)).trans hx418_1
                replace hx418_2 := (HB.out.cell (World.block_lt_of_cell? w _ hx418_2)).trans hx418_2
                replace p418 := eq_true p418
                replace q418 := eq_true q418
                go_wp2_with (first | ((with_reducible refine gate_dst (N := 7) rfl ?_); refine box_event ?hg (N := 7) ?hd (cs := #[.int .i64 0, .int .i64 0, .int .i64 0]) (t := 56) ?hr ?_; (case hd => rfl); (case hg => rfl); (case hr => first | (go_simp; done) | (go_simp; rfl)); intro gb419 hg w8 hbox hb; have n0_ := Aside0.mk (below_step (by repeat (first | (with_reducible first | exact HB.out | apply below_alloc | apply pw_below_drewN | apply below_drew1) | exact HB.out)) hb); have n1_ := Aside0.mk (hbox); have n2_ := Aside0.mk ((by rw [hg]; exact (below_size (by repeat (first | (with_reducible first | exact HB.out | apply below_alloc | apply pw_below_drewN | apply below_drew1) | exact HB.out))) : w.heap.size ≤ gb419)); have n3_ := Aside0.mk ((by rw [hg]; exact (below_size (by repeat (first | (with_reducible first | exact HB.out | apply below_alloc | apply pw_below_drewN | apply below_drew1) | exact HB.out))) : w.heap.size ≤ gb419)); clear HB; have HB := n0_; have BK419 := n1_; have GW419 := n2_; have GE419 := n3_; clear n0_ n1_ n2_ n3_; clear hb hbox hg; have hcz9_0 : w8.cell? ⟨gb419, 0, none⟩ = some (.int .i64 0) := (blk_cell BK419.out 0).trans rfl; have hcz9_1 : w8.cell? ⟨gb419, 1, none⟩ = some (.int .i64 0) := (blk_cell BK419.out 1).trans rfl; have hcz9_2 : w8.cell? ⟨gb419, 2, none⟩ = some (.int .i64 0) := (blk_cell BK419.out 2).trans rfl; have hfz9_0 := blk_frozen BK419.out 0; have hfz9_1 := blk_frozen BK419.out 1; have hfz9_2 := blk_frozen BK419.out 2))
                repeat (go_quiet (first | ((with_reducible refine gate_dst (N := 7) rfl ?_); refine box_event ?hg (N := 7) ?hd (cs := #[.int .i64 0, .int .i64 0, .int .i64 0]) (t := 56) ?hr ?_; (case hd => rfl); (case hg => rfl); (case hr => first | (go_simp; done) | (go_simp; rfl)); intro gb419 hg w8 hbox hb; have n0_ := Aside0.mk (below_step (by repeat (first | (with_reducible first | exact HB.out | apply below_alloc | apply pw_below_drewN | apply below_drew1) | exact HB.out)) hb); have n1_ := Aside0.mk (hbox); have n2_ := Aside0.mk ((by rw [hg]; exact (below_size (by repeat (first | (with_reducible first | exact HB.out | apply below_alloc | apply pw_below_drewN | apply below_drew1) | exact HB.out))) : w.heap.size ≤ gb419)); have n3_ := Aside0.mk ((by rw [hg]; exact (below_size (by repeat (first | (with_reducible first | exact HB.out | apply below_alloc | apply pw_below_drewN | apply below_drew1) | exact HB.out))) : w.heap.size ≤ gb419)); clear HB; have HB := n0_; have BK419 := n1_; have GW419 := n2_; have GE419 := n3_; clear n0_ n1_ n2_ n3_; clear hb hbox hg; have hcz9_0 : w8.cell? ⟨gb419, 0, none⟩ = some (.int .i64 0) := (blk_cell BK419.out 0).trans rfl; have hcz9_1 : w8.cell? ⟨gb419, 1, none⟩ = some (.int .i64 0) := (blk_cell BK419.out 1).trans rfl; have hcz9_2 : w8.cell? ⟨gb419, 2, none⟩ = some (.int .i64 0) := (blk_cell BK419.out 2).trans rfl; have hfz9_0 := blk_frozen BK419.out 0; have hfz9_1 := blk_frozen BK419.out 1; have hfz9_2 := blk_frozen BK419.out 2)); try go_wp2_with (first | ((with_reducible refine gate_dst (N := 7) rfl ?_); refine box_event ?hg (N := 7) ?hd (cs := #[.int .i64 0, .int .i64 0, .int .i64 0]) (t := 56) ?hr ?_; (case hd => rfl); (case hg => rfl); (case hr => first | (go_simp; done) | (go_simp; rfl)); intro gb419 hg w8 hbox hb; have n0_ := Aside0.mk (below_step (by repeat (first | (with_reducible first | exact HB.out | apply below_alloc | apply pw_below_drewN | apply below_drew1) | exact HB.out)) hb); have n1_ := Aside0.mk (hbox); have n2_ := Aside0.mk ((by rw [hg]; exact (below_size (by repeat (first | (with_reducible first | exact HB.out | apply below_alloc | apply pw_below_drewN | apply below_drew1) | exact HB.out))) : w.heap.size ≤ gb419)); have n3_ := Aside0.mk ((by rw [hg]; exact (below_size (by repeat (first | (with_reducible first | exact HB.out | apply below_alloc | apply pw_below_drewN | apply below_drew1) | exact HB.out))) : w.heap.size ≤ gb419)); clear HB; have HB := n0_; have BK419 := n1_; have GW419 := n2_; have GE419 := n3_; clear n0_ n1_ n2_ n3_; clear hb hbox hg; have hcz9_0 : w8.cell? ⟨gb419, 0, none⟩ = some (.int .i64 0) := (blk_cell BK419.out 0).trans rfl; have hcz9_1 : w8.cell? ⟨gb419, 1, none⟩ = some (.int .i64 0) := (blk_cell BK419.out 1).trans rfl; have hcz9_2 : w8.cell? ⟨gb419, 2, none⟩ = some (.int .i64 0) := (blk_cell BK419.out 2).trans rfl; have hfz9_0 := blk_frozen BK419.out 0; have hfz9_1 := blk_frozen BK419.out 1; have hfz9_2 := blk_frozen BK419.out 2)))
                go_roundg k1
                case measure => have := HK1.out; omega
                case rel => exact ⟨(wrap64 (x5_1 + (wrap64 ((wrap64 ((wrap64 (Int.tdiv (wrap64 (a1 - ((rd_T56 l0 x10_1).f1))) ((rd_T56 l0 x10_1).f2))) + 1)) * ((rd_T56 l0 x10_1).f0))))), (wrap64 (x10_1 + 1)), (by first | rfl | (simp; done) | (simp [*]; done)), (by first | rfl | (simp; done) | (simp [*]; done)), H', ⟨by have := HK1.out; omega⟩, ⟨by repeat (first | (with_reducible first | exact HB.out | apply below_alloc | apply pw_below_drewN | apply below_drew1 | refine below_set ?_ GE419.out) | exact HB.out)⟩⟩
            · rw [if_neg c6] at H
              have c6b0 : decide (((rd_T56 l0 x10_1).f1) ≤ a1) = false := decide_eq_false c6
              clear c6
              have H' := Aside0.mk H
              clear H
              have p418 : 0 ≤ (x10_1 : Int) := of_decide_eq_true (by first | (with_reducible assumption) | assumption)
              have q418 : x10_1 < (l0.length : Int) := of_decide_eq_true (by first | (with_reducible assumption) | assumption)
              obtain ⟨ad418, e418, hx418_0, hx418_1, hx418_2⟩ := at_T56 HR0.out x10_1 p418 q418
              cases e418
              replace hx418_0 := (HB.out.cell (World.block_lt_of_cell? w _ hx418_0)).trans hx418_0
              replace hx418_1 := (HB.out.cell (World.block_lt_of_cell? w _ hx418_1)).trans hx418_1
              replace hx418_2 := (HB.out.cell (World.block_lt_of_cell? w _ hx418_2)).trans hx418_2
              replace p418 := eq_true p418
              replace q418 := eq_true q418
              go_wp2_with (first | ((with_reducible refine gate_dst (N := 7) rfl ?_); refine box_event ?hg (N := 7) ?hd (cs := #[.int .i64 0, .int .i64 0, .int .i64 0]) (t := 56) ?hr ?_; (case hd => rfl); (case hg => rfl); (case hr => first | (go_simp; done) | (go_simp; rfl)); intro gb419 hg w10 hbox hb; have n0_ := Aside0.mk (below_step (by repeat (first | (with_reducible first | exact HB.out | apply below_alloc | apply pw_below_drewN | apply below_drew1) | exact HB.out)) hb); have n1_ := Aside0.mk (hbox); have n2_ := Aside0.mk ((by rw [hg]; exact (below_size (by repeat (first | (with_reducible first | exact HB.out | apply below_alloc | apply pw_below_drewN | apply below_drew1) | exact HB.out))) : w.heap.size ≤ gb419)); have n3_ := Aside0.mk ((by rw [hg]; exact (below_size (by repeat (first | (with_reducible first | exact HB.out | apply below_alloc | apply pw_below_drewN | apply below_drew1) | exact HB.out))) : w.heap.size ≤ gb419)); clear HB; have HB := n0_; have BK419 := n1_; have GW419 := n2_; have GE419 := n3_; clear n0_ n1_ n2_ n3_; clear hb hbox hg; have hcz11_0 : w10.cell? ⟨gb419, 0, none⟩ = some (.int .i64 0) := (blk_cell BK419.out 0).trans rfl; have hcz11_1 : w10.cell? ⟨gb419, 1, none⟩ = some (.int .i64 0) := (blk_cell BK419.out 1).trans rfl; have hcz11_2 : w10.cell? ⟨gb419, 2, none⟩ = some (.int .i64 0) := (blk_cell BK419.out 2).trans rfl; have hfz11_0 := blk_frozen BK419.out 0; have hfz11_1 := blk_frozen BK419.out 1; have hfz11_2 := blk_frozen BK419.out 2))
              repeat (go_quiet (first | ((with_reducible refine gate_dst (N := 7) rfl ?_); refine box_event ?hg (N := 7) ?hd (cs := #[.int .i64 0, .int .i64 0, .int .i64 0]) (t := 56) ?hr ?_; (case hd => rfl); (case hg => rfl); (case hr => first | (go_simp; done) | (go_simp; rfl)); intro gb419 hg w10 hbox hb; have n0_ := Aside0.mk (below_step (by repeat (first | (with_reducible first | exact HB.out | apply below_alloc | apply pw_below_drewN | apply below_drew1) | exact HB.out)) hb); have n1_ := Aside0.mk (hbox); have n2_ := Aside0.mk ((by rw [hg]; exact (below_size (by repeat (first | (with_reducible first | exact HB.out | apply below_alloc | apply pw_below_drewN | apply below_drew1) | exact HB.out))) : w.heap.size ≤ gb419)); have n3_ := Aside0.mk ((by rw [hg]; exact (below_size (by repeat (first | (with_reducible first | exact HB.out | apply below_alloc | apply pw_below_drewN | apply below_drew1) | exact HB.out))) : w.heap.size ≤ gb419)); clear HB; have HB := n0_; have BK419 := n1_; have GW419 := n2_; have GE419 := n3_; clear n0_ n1_ n2_ n3_; clear hb hbox hg; have hcz11_0 : w10.cell? ⟨gb419, 0, none⟩ = some (.int .i64 0) := (blk_cell BK419.out 0).trans rfl; have hcz11_1 : w10.cell? ⟨gb419, 1, none⟩ = some (.int .i64 0) := (blk_cell BK419.out 1).trans rfl; have hcz11_2 : w10.cell? ⟨gb419, 2, none⟩ = some (.int .i64 0) := (blk_cell BK419.out 2).trans rfl; have hfz11_0 := blk_frozen BK419.out 0; have hfz11_1 := blk_frozen BK419.out 1; have hfz11_2 := blk_frozen BK419.out 2)); try go_wp2_with (first | ((with_reducible refine gate_dst (N := 7) rfl ?_); refine box_event ?hg (N := 7) ?hd (cs := #[.int .i64 0, .int .i64 0, .int .i64 0]) (t := 56) ?hr ?_; (case hd => rfl); (case hg => rfl); (case hr => first | (go_simp; done) | (go_simp; rfl)); intro gb419 hg w10 hbox hb; have n0_ := Aside0.mk (below_step (by repeat (first | (with_reducible first | exact HB.out | apply below_alloc | apply pw_below_drewN | apply below_drew1) | exact HB.out)) hb); have n1_ := Aside0.mk (hbox); have n2_ := Aside0.mk ((by rw [hg]; exact (below_size (by repeat (first | (with_reducible first | exact HB.out | apply below_alloc | apply pw_below_drewN | apply below_drew1) | exact HB.out))) : w.heap.size ≤ gb419)); have n3_ := Aside0.mk ((by rw [hg]; exact (below_size (by repeat (first | (with_reducible first | exact HB.out | apply below_alloc | apply pw_below_drewN | apply below_drew1) | exact HB.out))) : w.heap.size ≤ gb419)); clear HB; have HB := n0_; have BK419 := n1_; have GW419 := n2_; have GE419 := n3_; clear n0_ n1_ n2_ n3_; clear hb hbox hg; have hcz11_0 : w10.cell? ⟨gb419, 0, none⟩ = some (.int .i64 0) := (blk_cell BK419.out 0).trans rfl; have hcz11_1 : w10.cell? ⟨gb419, 1, none⟩ = some (.int .i64 0) := (blk_cell BK419.out 1).trans rfl; have hcz11_2 : w10.cell? ⟨gb419, 2, none⟩ = some (.int .i64 0) := (blk_cell BK419.out 2).trans rfl; have hfz11_0 := blk_frozen BK419.out 0; have hfz11_1 := blk_frozen BK419.out 1; have hfz11_2 := blk_frozen BK419.out 2)))
              go_roundg k1
              case measure => have := HK1.out; omega
              case rel => exact ⟨(x5_1), (wrap64 (x10_1 + 1)), (by first | rfl | (simp; done) | (simp [*]; done)), (by first | rfl | (simp; done) | (simp [*]; done)), H', ⟨by have := HK1.out; omega⟩, ⟨by repeat (first | (with_reducible first | exact HB.out | apply below_alloc | apply pw_below_drewN | apply below_drew1 | refine below_set ?_ GE419.out) | exact HB.out)⟩⟩
          · rw [if_neg c5] at H
            exact absurd H (by simp)
        · rw [if_neg c4] at H
          exact absurd H (by simp)
      · rw [if_neg c3] at H
        have c3b0 : decide (x10_1 < (l0.length : Int)) = false := decide_eq_false c3
        clear c3
        obtain rfl := Option.some.inj H
        go_wp2
        repeat (go_quiet (fail); try go_wp2)
        go_ret
        exact ⟨by first | rfl | (simp [errW_none, errW_some] <;> rfl) | (simp [*, errW_none, errW_some] <;> rfl), by repeat (first | (with_reducible first | exact HB.out | apply below_alloc | apply pw_below_drewN | apply below_drew1) | exact HB.out)⟩

end Go.Proofs.Ytgcjadhmkhpbnaa.P
/- The program's and the reference's functions on task sets are the plain ones. Conditions: a valid set. -/
namespace Go.Proofs.Ytgcjadhmkhpbnaa.Tm
open Go.RowKit Go.Proofs.Ytgcjadhmkhpbnaa.P Go.Proofs.Ytgcjadhmkhpbnaa.Base Go.Proofs.Ytgcjadhmkhpbnaa.Gen Go.Proofs.Ytgcjadhmkhpbnaa.Alive Go.Proofs.Ytgcjadhmkhpbnaa.Set Go.Proofs.YtgcjadhmkhpbnaaW.PrintWords Go.Proofs.YtgcjadhmkhpbnaaW.PrintLast
theorem rdT_at (l : List Task) (i : Nat) (h : i < l.length) : rd_T56 l (i : Int) = l[i] := by
  unfold rd_T56
  rw [List.getD_eq_getElem?_getD, Int.toNat_natCast, List.getElem?_eq_getElem h]
  rfl
theorem stv_f (c d p : Int) : spec_TaskValid.f c d p = some (decide (TV c d p)) := by
  unfold spec_TaskValid.f
  rw [l1In_f, l1In_f, l1In_f, and_bind, and_bind]
  by_cases h1 : 1 ≤ c ∧ c ≤ 8
  · by_cases h2 : c ≤ d ∧ d ≤ p
    · rw [if_pos h1, if_pos h2]; simp only [Option.bind_some]; congr 1; rw [decide_eq_decide]; unfold TV; omega
    · rw [if_pos h1, if_neg h2]; congr 1; symm; rw [decide_eq_false_iff_not]; unfold TV; omega
  · rw [if_neg h1]; congr 1; symm; rw [decide_eq_false_iff_not]; unfold TV; omega
theorem sset_ev (l : List Task) (hl : l.length ≤ 2097152) : Ev (fun k => spec_SetValid.f k l) (decide (SetOk l)) := by
  have loop : ∀ d i, i + d = l.length → (∀ j (h : j < l.length), j < i → TVt l[j]) → Ev (fun k => spec_SetValid.l0 k l (i : Int)) (decide (SetOk l)) := by
    intro d
    induction d with
    | zero =>
      intro i hi hm
      have ha : ∀ t ∈ l, TVt t := by
        intro t ht
        obtain ⟨j, hj, rfl⟩ := List.mem_iff_getElem.1 ht
        exact hm j hj (by omega)
      refine Ev.step (f := fun _ => some (decide (SetOk l))) (fun k => ?_) (Ev.now _)
      simp only [spec_SetValid.l0]
      rw [if_neg (by omega)]
      congr 1
      rw [decide_eq_decide]
      unfold SetOk
      exact ⟨fun h => ⟨by omega, ha⟩, fun h => by omega⟩
    | succ d ih =>
      intro i hi hm
      have hil : i < l.length := by omega
      by_cases hv : TVt l[i]
      · refine Ev.step (fun k => ?_) (ih (i + 1) (by omega) (fun j hj hji => ?_))
        · have hv' : TV l[i].f0 l[i].f1 l[i].f2 := hv
          simp only [spec_SetValid.l0]
          rw [if_pos (by omega), if_pos (by omega), rdT_at l i hil, stv_f, decide_eq_true hv', w64 (by omega) (by omega)]
          rfl
        · by_cases e : j = i
          · subst e; exact hv
          · exact hm j hj (by omega)
      · rw [decide_eq_false (fun h => hv (h.2 _ (List.getElem_mem hil)))]
        have hv' : ¬ TV l[i].f0 l[i].f1 l[i].f2 := hv
        refine Ev.step (f := fun _ => some false) (fun k => ?_) (Ev.now _)
        simp only [spec_SetValid.l0]
        rw [if_pos (by omega), if_pos (by omega), rdT_at l i hil, stv_f, decide_eq_false hv']
        rfl
  exact loop l.length 0 (by omega) (fun j _ h => by omega)
theorem nmod (a b : Nat) : Int.tmod (a : Int) (b : Int) = ((a % b : Nat) : Int) := by
  rw [tmod_pos (by omega)]; omega
theorem ndiv (a b : Nat) : Int.tdiv (a : Int) (b : Int) = ((a / b : Nat) : Int) := by
  rw [tdiv_pos (by omega)]; omega
theorem gcd_step (a b : Nat) : Nat.gcd b (a % b) = Nat.gcd a b := by
  rw [Nat.gcd_comm b (a % b), ← Nat.gcd_rec, Nat.gcd_comm]
theorem gcd_ev : ∀ (b a : Nat), Ev (fun k => impl_gcd.f k (a : Int) (b : Int)) ((Nat.gcd a b : Nat) : Int) := by
  intro b
  induction b using Nat.strongRecOn with
  | ind b ih =>
    intro a
    rcases Nat.eq_zero_or_pos b with rfl | hb
    · refine Ev.step (f := fun _ => some (a : Int)) (fun k => ?_) ?_
      · unfold impl_gcd.f
        simp only [impl_gcd.l0]
        rw [if_pos (by omega)]
      · rw [Nat.gcd_zero_right]; exact Ev.now _
    · have h := ih (a % b) (Nat.mod_lt _ hb) b
      rw [gcd_step] at h
      refine Ev.step (fun k => ?_) h
      unfold impl_gcd.f
      simp only [impl_gcd.l0]
      rw [if_neg (by omega), nmod]
theorem lcm_val {h p : Nat} (h1 : 1 ≤ h) (h2 : h ≤ 27720) (h3 : Nat.lcm h p ≤ 27720) : ((Nat.gcd h p : Nat) : Int) ≠ 0 ∧ wrap64 (wrap64 (Int.tdiv (h : Int) ((Nat.gcd h p : Nat) : Int)) * (p : Int)) = ((Nat.lcm h p : Nat) : Int) := by
  have hg : 0 < Nat.gcd h p := Nat.gcd_pos_of_pos_left _ h1
  refine ⟨by omega, ?_⟩
  have hd := Nat.div_le_self h (Nat.gcd h p)
  have hl := lcm_div h p h1
  rw [ndiv]
  generalize h / Nat.gcd h p = q at hd hl ⊢
  rw [w64 (x := ((q : Nat) : Int)) (by omega) (by omega), ← Int.natCast_mul, hl, w64 (by omega) (by omega)]
theorem lcm_ev {h p : Nat} (h1 : 1 ≤ h) (h2 : h ≤ 27720) (h3 : Nat.lcm h p ≤ 27720) : Ev (fun k => impl_lcm.f k (h : Int) (p : Int)) ((Nat.lcm h p : Nat) : Int) := by
  have hv := lcm_val h1 h2 h3
  unfold impl_lcm.f
  refine Ev.bind (gcd_ev p h) ?_
  rw [if_neg hv.1, hv.2]
  exact Ev.now _
theorem pnat {l : List Task} (hl : AllV l) (i : Nat) (h : i < l.length) : l[i].f2 = ((l[i].f2.toNat : Nat) : Int) := by
  have := hl _ (List.getElem_mem h)
  unfold TVt TV at this
  omega
theorem hyper_ev {l : List Task} (hs : SetOk l) : Ev (fun k => impl_hyper.f k l) ((hy l : Nat) : Int) := by
  have hl := hs.all
  have hlen := hs.1
  have loop : ∀ d i, i + d = l.length → Ev (fun k => impl_hyper.l0 k ((hy (l.take i) : Nat) : Int) l (l.length : Int) (i : Int)) ((hy l : Nat) : Int) := by
    intro d
    induction d with
    | zero =>
      intro i hi
      refine Ev.step (f := fun _ => some ((hy l : Nat) : Int)) (fun k => ?_) (Ev.now _)
      simp only [impl_hyper.l0]
      rw [if_neg (by omega), List.take_of_length_le (by omega)]
    | succ d ih =>
      intro i hi
      have hil : i < l.length := by omega
      have hb := hy_bd (hl.take i)
      have hb2 := hy_bd (hl.take (i + 1))
      rw [hy_take _ _ hil] at hb2
      refine Ev.step (f := fun k => (impl_lcm.f k ((hy (l.take i) : Nat) : Int) ((l[i].f2.toNat : Nat) : Int)).bind fun t => impl_hyper.l0 k t l (l.length : Int) ((i : Int) + 1)) (fun k => ?_) ?_
      · simp only [impl_hyper.l0]
        rw [if_pos (by omega), if_pos (by omega), if_pos (by omega), rdT_at l i hil, ← pnat hl i hil, w64 (by omega) (by omega)]
      · refine Ev.bind (lcm_ev hb.1 hb.2 hb2.2) ?_
        rw [← hy_take _ _ hil]
        exact ih (i + 1) (by omega)
  exact loop l.length 0 (by omega)
theorem wk1_bd {l : List Task} (hs : SetOk l) : ∀ t ∈ l, 0 ≤ (hy l : Int) / t.f2 ∧ (hy l : Int) / t.f2 ≤ 27720 ∧ 0 ≤ (hy l : Int) / t.f2 * t.f0 ∧ (hy l : Int) / t.f2 * t.f0 ≤ 221760 := by
  intro t ht
  have hb := hy_bd hs.all
  have := hs.2 t ht
  unfold TVt TV at this
  have h1 := Int.ediv_nonneg (show 0 ≤ (hy l : Int) by omega) (show 0 ≤ t.f2 by omega)
  have h2 := Int.ediv_le_self t.f2 (show 0 ≤ (hy l : Int) by omega)
  have h3 := mul_bd (a := (hy l : Int) / t.f2) (b := t.f0) (A := 27720) (B := 8) h1 (by omega) (by omega) (by omega)
  omega
theorem load_ev {l : List Task} (hs : SetOk l) : Ev (fun k => impl_load.f k l) (ld l) := by
  have hl := hs.all
  have hlen := hs.1
  have hb := hy_bd hl
  have h1 := wk1_bd hs
  have loop : ∀ d i, i + d = l.length → Ev (fun k => impl_load.l0 k (hy l : Int) (sm (fun t => (hy l : Int) / t.f2 * t.f0) (l.take i)) l (l.length : Int) (i : Int)) (ld l) := by
    intro d
    induction d with
    | zero =>
      intro i hi
      refine Ev.step (f := fun _ => some (ld l)) (fun k => ?_) (Ev.now _)
      simp only [impl_load.l0]
      rw [if_neg (by omega), List.take_of_length_le (by omega)]
      rfl
    | succ d ih =>
      intro i hi
      have hil : i < l.length := by omega
      have hi1 := h1 _ (List.getElem_mem hil)
      have hv := hl _ (List.getElem_mem hil)
      unfold TVt TV at hv
      have ht := take_bd (fun t => (hy l : Int) / t.f2 * t.f0) l 221760 (fun a ha => by have := h1 a ha; exact ⟨this.2.2.1, this.2.2.2⟩) i (by omega)
      have IH := ih (i + 1) (by omega)
      rw [sm_take _ _ _ hil] at IH
      refine Ev.step (fun k => ?_) IH
      simp only [impl_load.l0]
      rw [if_pos (by omega), if_pos (by omega), if_pos (by omega), rdT_at l i hil, if_neg (by omega), tdiv_pos (by omega), w64 (x := (hy l : Int) / l[i].f2) (by omega) (by omega), w64 (x := (hy l : Int) / l[i].f2 * l[i].f0) (by omega) (by omega), w64 (x := (i : Int) + 1) (by omega) (by omega), w64 (by omega) (by omega)]
      rfl
  unfold impl_load.f
  exact Ev.bind (hyper_ev hs) (loop l.length 0 (by omega))
end Go.Proofs.Ytgcjadhmkhpbnaa.Tm
/- Response times under fixed priorities, as a plain proposition; the hyperbolic bound and harmonic sets. Conditions: a valid set. -/
namespace Go.Proofs.Ytgcjadhmkhpbnaa.Rt
open Go.RowKit Go.Proofs.Ytgcjadhmkhpbnaa.P Go.Proofs.Ytgcjadhmkhpbnaa.Base Go.Proofs.Ytgcjadhmkhpbnaa.Gen Go.Proofs.Ytgcjadhmkhpbnaa.Alive Go.Proofs.Ytgcjadhmkhpbnaa.Set Go.Proofs.Ytgcjadhmkhpbnaa.Tm Go.Proofs.YtgcjadhmkhpbnaaW.PrintWords Go.Proofs.YtgcjadhmkhpbnaaW.PrintLast
def cdiv (a b : Int) : Int := (a + b - 1) / b
/-- The work of a task and of those above it. -/
def rw1 (r : Int) (x : Task) : Int := cdiv r x.f2 * x.f0
def W (hs : List Task) (c r : Int) : Int := c + sm (rw1 r) hs
theorem cdiv_sp {a b : Int} (hb : 1 ≤ b) : a ≤ cdiv a b * b ∧ cdiv a b * b < a + b := by
  unfold cdiv
  have h1 := Int.mul_ediv_add_emod (a + b - 1) b
  have h2 := Int.emod_nonneg (a + b - 1) (show b ≠ 0 by omega)
  have h3 := Int.emod_lt_of_pos (a + b - 1) (show 0 < b by omega)
  rw [Int.mul_comm] at h1
  omega
theorem cdiv_mono {a a' b : Int} (hb : 1 ≤ b) (h : a ≤ a') : cdiv a b ≤ cdiv a' b := by
  unfold cdiv
  exact Int.ediv_le_ediv (by omega) (by omega)
theorem cdiv_bd {a b : Int} (ha : 0 ≤ a) (hb : 1 ≤ b) : 0 ≤ cdiv a b ∧ cdiv a b ≤ a := by
  have h := cdiv_sp (a := a) hb
  refine ⟨Int.ediv_nonneg (by omega) (by omega), ?_⟩
  apply Classical.byContradiction
  intro hc
  have h1 := Int.mul_le_mul_of_nonneg_right (show a + 1 ≤ cdiv a b by omega) (show 0 ≤ b by omega)
  have h2 := Int.mul_le_mul_of_nonneg_left (show 1 ≤ b by omega) ha
  rw [Int.add_mul] at h1
  omega
theorem cdiv_mul {q b : Int} (hb : 1 ≤ b) : cdiv (q * b) b = q := by
  unfold cdiv
  rw [show q * b + b - 1 = b - 1 + q * b by omega, Int.add_mul_ediv_right _ _ (by omega), Int.ediv_eq_zero_of_lt (by omega) (by omega)]
  omega
theorem W_mono {hs : List Task} (hv : AllV hs) (c : Int) {r r' : Int} (h : r ≤ r') : W hs c r ≤ W hs c r' := by
  unfold W
  have := sm_le (rw1 r) (rw1 r') hs (fun x hx => by
    have := hv x hx
    unfold TVt TV at this
    exact Int.mul_le_mul_of_nonneg_right (cdiv_mono (by omega) h) (by omega))
  omega
theorem rw1_bd {x : Task} (hx : TVt x) {r : Int} (h0 : 0 ≤ r) : 0 ≤ rw1 r x ∧ rw1 r x ≤ 8 * r := by
  unfold TVt TV at hx
  have h := cdiv_bd h0 (show 1 ≤ x.f2 by omega)
  have := mul_bd (a := cdiv r x.f2) (b := x.f0) (A := r) (B := 8) h.1 h.2 (by omega) (by omega)
  unfold rw1; omega
theorem W_ge {hs : List Task} (hv : AllV hs) (c : Int) {r : Int} (h : 0 ≤ r) : c ≤ W hs c r := by
  have := sm_nonneg (rw1 r) hs (fun x hx => (rw1_bd (hv x hx) h).1)
  unfold W; omega
/-- What a response time is. -/
def IsR (hs : List Task) (c d R : Int) : Prop := (R = -1 ∧ ∀ r : Int, 1 ≤ r → r ≤ d → r < W hs c r) ∨ (1 ≤ R ∧ R ≤ d ∧ W hs c R = R ∧ ∀ r : Int, 1 ≤ r → r < R → r < W hs c r)
theorem isR_uniq {hs : List Task} {c d R S : Int} (h1 : IsR hs c d R) (h2 : IsR hs c d S) : R = S := by
  rcases h1 with ⟨rfl, h1⟩ | ⟨a1, a2, a3, a4⟩
  · rcases h2 with ⟨rfl, _⟩ | ⟨b1, b2, b3, _⟩
    · rfl
    · have := h1 S b1 b2; omega
  · rcases h2 with ⟨rfl, h2⟩ | ⟨b1, b2, b3, b4⟩
    · have := h2 R a1 a2; omega
    · rcases Int.lt_trichotomy R S with h | h | h
      · have := b4 R a1 h; omega
      · exact h
      · have := a4 S b1 h; omega
theorem isR_fits {hs : List Task} {c d R : Int} (h : IsR hs c d R) : 0 ≤ R ↔ ∃ r : Int, 1 ≤ r ∧ r ≤ d ∧ W hs c r ≤ r := by
  rcases h with ⟨rfl, h⟩ | ⟨a1, a2, a3, a4⟩
  · refine ⟨fun h => by omega, ?_⟩
    rintro ⟨r, h1, h2, h3⟩
    have := h r h1 h2
    omega
  · exact ⟨fun _ => ⟨R, a1, a2, by omega⟩, fun _ => by omega⟩
/-- What the search keeps. -/
def Inv (hs : List Task) (c r : Int) : Prop := 1 ≤ r ∧ r ≤ W hs c r ∧ ∀ q : Int, 1 ≤ q → q < r → q < W hs c q
theorem inv_start {hs : List Task} (hv : AllV hs) {c : Int} (hc : 1 ≤ c) : Inv hs c c := by
  refine ⟨hc, W_ge hv c (by omega), fun q h1 h2 => ?_⟩
  have := W_ge hv c (r := q) (by omega)
  omega
theorem inv_step {hs : List Task} (hv : AllV hs) {c r : Int} (h : Inv hs c r) (hne : W hs c r ≠ r) : r < W hs c r ∧ Inv hs c (W hs c r) := by
  obtain ⟨h1, h2, h3⟩ := h
  have hlt : r < W hs c r := by omega
  refine ⟨hlt, by omega, W_mono hv c (by omega), fun q q1 q2 => ?_⟩
  by_cases hq : q < r
  · exact h3 q q1 hq
  · have := W_mono hv c (show r ≤ q by omega)
    omega
theorem inv_found {hs : List Task} {c d r : Int} (h : Inv hs c r) (hd : r ≤ d) (he : W hs c r = r) : IsR hs c d r := Or.inr ⟨h.1, hd, he, h.2.2⟩
theorem inv_late {hs : List Task} {c d r : Int} (h : Inv hs c r) (hd : d < r) : IsR hs c d (-1) := Or.inl ⟨rfl, fun q q1 q2 => h.2.2 q q1 (by omega)⟩
/-- A product over a row. -/
def pr {α : Type} (f : α → Int) : List α → Int
  | [] => 1
  | a :: l => f a * pr f l
/-- Harmonic tasks above one whose load is at most 1: it meets its deadline. -/
theorem harm_fit {hs : List Task} (hv : AllV hs) {x : Task} (hx : TVt x) {H : Int} (hH : 1 ≤ H) (hd : ∀ g ∈ x :: hs, g.f2 ∣ H) (hT : ∀ g ∈ hs, g.f2 ∣ x.f2) (hl : wk (x :: hs) H ≤ H) : W hs x.f0 x.f2 ≤ x.f2 := by
  unfold TVt TV at hx
  obtain ⟨q, hq⟩ := hd x (List.mem_cons_self ..)
  have hq1 : 1 ≤ q := by
    apply Classical.byContradiction
    intro h
    have := Int.mul_le_mul_of_nonneg_left (show q ≤ 0 by omega) (show 0 ≤ x.f2 by omega)
    omega
  have e1 : q * W hs x.f0 x.f2 = wk (x :: hs) H := by
    unfold W wk
    rw [sm, Int.mul_add, ← sm_mul]
    congr 1
    · rw [hq, Int.mul_ediv_cancel_left _ (by omega)]
    · refine sm_congr _ _ _ (fun g hg => ?_)
      have hgv := hv g hg
      unfold TVt TV at hgv
      obtain ⟨m, hm⟩ := hT g hg
      unfold rw1
      rw [hq, hm, Int.mul_comm g.f2 m, cdiv_mul (by omega), show m * g.f2 * q = g.f2 * (q * m) by rw [Int.mul_comm m, Int.mul_assoc, Int.mul_comm m], Int.mul_ediv_cancel_left _ (by omega), Int.mul_assoc]
  have e2 : q * W hs x.f0 x.f2 ≤ q * x.f2 := by rw [e1, Int.mul_comm q]; omega
  exact Int.le_of_mul_le_mul_left e2 (by omega)
/-- A set whose last task meets its deadline has a load of at most 1. -/
theorem fit_load {hs : List Task} (hv : AllV hs) {x : Task} (hx : TVt x) {H : Int} (hH : 1 ≤ H) (hd : ∀ g ∈ x :: hs, g.f2 ∣ H) {r : Int} (h1 : 1 ≤ r) (h2 : r ≤ x.f2) (hW : W hs x.f0 r ≤ r) : wk (x :: hs) H ≤ H := by
  unfold TVt TV at hx
  have key : r * wk (x :: hs) H ≤ H * W hs x.f0 r := by
    unfold W wk
    rw [sm, Int.mul_add, Int.mul_add, ← sm_mul, ← sm_mul]
    have k1 : r * (H / x.f2 * x.f0) ≤ H * x.f0 := by
      obtain ⟨q, hq⟩ := hd x (List.mem_cons_self ..)
      rw [hq, Int.mul_ediv_cancel_left _ (by omega), ← Int.mul_assoc]
      refine Int.mul_le_mul_of_nonneg_right ?_ (by omega)
      have hq0 : 0 ≤ q := by
        apply Classical.byContradiction
        intro h
        have := Int.mul_lt_mul_of_pos_left (show q < 0 by omega) (show 0 < x.f2 by omega)
        omega
      exact Int.mul_le_mul_of_nonneg_right h2 hq0
    have k2 : sm (fun a => r * (H / a.f2 * a.f0)) hs ≤ sm (fun a => H * rw1 r a) hs := by
      refine sm_le _ _ _ (fun g hg => ?_)
      have hgv := hv g hg
      unfold TVt TV at hgv
      obtain ⟨q, hq⟩ := hd g (List.mem_cons_of_mem _ hg)
      have hq0 : 0 ≤ q := by
        apply Classical.byContradiction
        intro h
        have := Int.mul_lt_mul_of_pos_left (show q < 0 by omega) (show 0 < g.f2 by omega)
        omega
      have hc := cdiv_sp (a := r) (b := g.f2) (by omega)
      unfold rw1
      rw [hq, Int.mul_ediv_cancel_left _ (by omega), ← Int.mul_assoc, ← Int.mul_assoc]
      refine Int.mul_le_mul_of_nonneg_right ?_ (by omega)
      have := Int.mul_le_mul_of_nonneg_right hc.1 hq0
      rw [show g.f2 * q * cdiv r g.f2 = cdiv r g.f2 * g.f2 * q by rw [Int.mul_comm (g.f2 * q), ← Int.mul_assoc]]
      exact this
    omega
  have k3 : r * wk (x :: hs) H ≤ r * H := by
    have := Int.mul_le_mul_of_nonneg_left hW (show 0 ≤ H by omega)
    rw [Int.mul_comm r H]; omega
  exact Int.le_of_mul_le_mul_left k3 (by omega)
end Go.Proofs.Ytgcjadhmkhpbnaa.Rt
/- Harmonic and the hyperbolic bound, of the program and of the reference, as one plain proposition each. No condition. -/
namespace Go.Proofs.Ytgcjadhmkhpbnaa.Harm
open Go.RowKit Go.Proofs.Ytgcjadhmkhpbnaa.P Go.Proofs.Ytgcjadhmkhpbnaa.Base Go.Proofs.Ytgcjadhmkhpbnaa.Gen Go.Proofs.Ytgcjadhmkhpbnaa.Alive Go.Proofs.Ytgcjadhmkhpbnaa.Set Go.Proofs.Ytgcjadhmkhpbnaa.Tm Go.Proofs.Ytgcjadhmkhpbnaa.Rt Go.Proofs.YtgcjadhmkhpbnaaW.PrintWords Go.Proofs.YtgcjadhmkhpbnaaW.PrintLast
def Hm2 (a b : Task) : Prop := a.f2 % b.f2 = 0 ∨ b.f2 % a.f2 = 0
instance (a b : Task) : Decidable (Hm2 a b) := by unfold Hm2; infer_instance
def Hm (l : List Task) : Prop := SetOk l ∧ ∀ a ∈ l, ∀ b ∈ l, Hm2 a b
instance (l : List Task) : Decidable (Hm l) := by unfold Hm; infer_instance
theorem all_of {α : Type} {P : α → Prop} {l : List α} (h : ∀ i (h : i < l.length), P l[i]) : ∀ x ∈ l, P x := by
  intro x hx
  obtain ⟨i, hi, rfl⟩ := List.mem_iff_getElem.1 hx
  exact h i hi
theorem hm2_symm {a b : Task} (h : Hm2 a b) : Hm2 b a := h.symm
theorem hm2_self {a : Task} : Hm2 a a := Or.inl (Int.emod_self)
theorem impl_hm (l : List Task) : Ev (fun k => impl_Harmonic.f k l) (decide (Hm l)) := by
  unfold impl_Harmonic.f
  rw [set_f]
  by_cases hs : SetOk l
  · simp only [decide_eq_true hs, Option.bind_some, if_true]
    have hlen := hs.1
    have inner : ∀ (i : Nat) (hi : i < l.length), ∀ R, R = decide (Hm l) → ((∀ j (h : j < l.length), Hm2 l[i] l[j]) → Ev (fun k => impl_Harmonic.l0 k l l (l.length : Int) ((i : Int) + 1)) R) → ∀ d j, j + d = l.length → (∀ q (h : q < l.length), q < j → Hm2 l[i] l[q]) → Ev (fun k => impl_Harmonic.l1 k l l (l.length : Int) (i : Int) l (l.length : Int) (j : Int) l[i].f0 l[i].f1 l[i].f2) R := by
      intro i hi R hR hnext d
      have hvi := hs.2 _ (List.getElem_mem hi)
      unfold TVt TV at hvi
      induction d with
      | zero =>
        intro j hj hm
        refine Ev.step (fun k => ?_) (hnext (fun q hq => hm q hq (by omega)))
        simp only [impl_Harmonic.l1]
        rw [if_neg (by omega), w64 (by omega) (by omega)]
      | succ d ih =>
        intro j hj hm
        have hjl : j < l.length := by omega
        have hvj := hs.2 _ (List.getElem_mem hjl)
        unfold TVt TV at hvj
        have hgo : Hm2 l[i] l[j] → Ev (fun k => impl_Harmonic.l1 k l l (l.length : Int) (i : Int) l (l.length : Int) ((j : Int) + 1) l[i].f0 l[i].f1 l[i].f2) R := fun h => by
          refine ih (j + 1) (by omega) (fun q hq hqj => ?_)
          by_cases e : q = j
          · subst e; exact h
          · exact hm q hq (by omega)
        have e1 := tmod_pos (a := l[i].f2) (b := l[j].f2) (by omega)
        have e2 := tmod_pos (a := l[j].f2) (b := l[i].f2) (by omega)
        by_cases h1 : l[i].f2 % l[j].f2 = 0
        · refine Ev.step (fun k => ?_) (hgo (Or.inl h1))
          simp only [impl_Harmonic.l1]
          rw [if_pos (by omega), if_pos (by omega), if_pos (by omega), rdT_at l j hjl, if_neg (by omega), e1, if_pos h1, w64 (by omega) (by omega)]
        · by_cases h2 : l[j].f2 % l[i].f2 = 0
          · refine Ev.step (fun k => ?_) (hgo (Or.inr h2))
            simp only [impl_Harmonic.l1]
            rw [if_pos (by omega), if_pos (by omega), if_pos (by omega), rdT_at l j hjl, if_neg (by omega), e1, if_neg h1, if_neg (by omega), e2, if_pos h2, w64 (by omega) (by omega)]
          · have : R = false := by
              rw [hR, decide_eq_false_iff_not]
              intro h
              rcases h.2 _ (List.getElem_mem hi) _ (List.getElem_mem hjl) with h | h
              · exact h1 h
              · exact h2 h
            rw [this]
            refine Ev.step (f := fun _ => some false) (fun k => ?_) (Ev.now _)
            simp only [impl_Harmonic.l1]
            rw [if_pos (by omega), if_pos (by omega), if_pos (by omega), rdT_at l j hjl, if_neg (by omega), e1, if_neg h1, if_neg (by omega), e2, if_neg h2]
    have outer : ∀ d i, i + d = l.length → (∀ p (hp : p < l.length), p < i → ∀ q (h : q < l.length), Hm2 l[p] l[q]) → Ev (fun k => impl_Harmonic.l0 k l l (l.length : Int) (i : Int)) (decide (Hm l)) := by
      intro d
      induction d with
      | zero =>
        intro i hi hm
        have : Hm l := ⟨hs, all_of (fun p hp => all_of (fun q hq => hm p hp (by omega) q hq))⟩
        rw [decide_eq_true this]
        refine Ev.step (f := fun _ => some true) (fun k => ?_) (Ev.now _)
        simp only [impl_Harmonic.l0]
        rw [if_neg (by omega)]
      | succ d ih =>
        intro i hi hm
        have hil : i < l.length := by omega
        refine Ev.step (fun k => ?_) (inner i hil _ rfl (fun hall => ih (i + 1) (by omega) (fun p hp hpi => ?_)) l.length 0 (by omega) (fun q _ h => by omega))
        · simp only [impl_Harmonic.l0]
          rw [if_pos (by omega), if_pos (by omega), if_pos (by omega), rdT_at l i hil]
          rfl
        · by_cases e : p = i
          · subst e; exact hall
          · exact hm p hp (by omega)
    exact outer l.length 0 (by omega) (fun p _ h => by omega)
  · have : ¬ Hm l := fun h => hs h.1
    simp only [decide_eq_false hs, Option.bind_some, decide_eq_false this]
    exact Ev.now _
theorem spec_hm (l : List Task) (hl : l.length ≤ 2097152) : Ev (fun k => spec_Harmonic.f k l) (decide (Hm l)) := by
  unfold spec_Harmonic.f
  refine Ev.bind (sset_ev l hl) ?_
  by_cases hs : SetOk l
  · simp only [decide_eq_true hs, if_true]
    have hlen := hs.1
    have inner : ∀ (i : Nat) (hi : i < l.length), ∀ R, R = decide (Hm l) → ((∀ j (h : j < l.length), j < i → Hm2 l[i] l[j]) → Ev (fun k => spec_Harmonic.l0 k l ((i : Int) + 1)) R) → ∀ d j, j + d = i → (∀ q (h : q < l.length), q < j → Hm2 l[i] l[q]) → Ev (fun k => spec_Harmonic.l1 k l (i : Int) (j : Int)) R := by
      intro i hi R hR hnext d
      have hvi := hs.2 _ (List.getElem_mem hi)
      unfold TVt TV at hvi
      induction d with
      | zero =>
        intro j hj hm
        refine Ev.step (fun k => ?_) (hnext (fun q hq hqi => hm q hq (by omega)))
        simp only [spec_Harmonic.l1]
        rw [if_neg (by omega), w64 (by omega) (by omega)]
      | succ d ih =>
        intro j hj hm
        have hjl : j < l.length := by omega
        have hvj := hs.2 _ (List.getElem_mem hjl)
        unfold TVt TV at hvj
        have hgo : Hm2 l[i] l[j] → Ev (fun k => spec_Harmonic.l1 k l (i : Int) ((j : Int) + 1)) R := fun h => by
          refine ih (j + 1) (by omega) (fun q hq hqj => ?_)
          by_cases e : q = j
          · subst e; exact h
          · exact hm q hq (by omega)
        have e1 := tmod_pos (a := l[i].f2) (b := l[j].f2) (by omega)
        have e2 := tmod_pos (a := l[j].f2) (b := l[i].f2) (by omega)
        by_cases h1 : l[i].f2 % l[j].f2 = 0
        · refine Ev.step (fun k => ?_) (hgo (Or.inl h1))
          simp only [spec_Harmonic.l1]
          rw [if_pos (by omega), if_pos (by omega), if_pos (by omega), if_pos (by omega), if_pos (by omega), rdT_at l j hjl, rdT_at l i hi, if_neg (by omega), e1, if_pos h1, w64 (by omega) (by omega)]
        · by_cases h2 : l[j].f2 % l[i].f2 = 0
          · refine Ev.step (fun k => ?_) (hgo (Or.inr h2))
            simp only [spec_Harmonic.l1]
            rw [if_pos (by omega), if_pos (by omega), if_pos (by omega), if_pos (by omega), if_pos (by omega), rdT_at l j hjl, rdT_at l i hi, if_neg (by omega), e1, if_neg h1, if_neg (by omega), e2, if_pos h2, w64 (by omega) (by omega)]
          · have : R = false := by
              rw [hR, decide_eq_false_iff_not]
              intro h
              rcases h.2 _ (List.getElem_mem hi) _ (List.getElem_mem hjl) with h | h
              · exact h1 h
              · exact h2 h
            rw [this]
            refine Ev.step (f := fun _ => some false) (fun k => ?_) (Ev.now _)
            simp only [spec_Harmonic.l1]
            rw [if_pos (by omega), if_pos (by omega), if_pos (by omega), if_pos (by omega), if_pos (by omega), rdT_at l j hjl, rdT_at l i hi, if_neg (by omega), e1, if_neg h1, if_neg (by omega), e2, if_neg h2]
    have outer : ∀ d i, i + d = l.length → (∀ p (hp : p < l.length), p < i → ∀ q (h : q < l.length), q < p → Hm2 l[p] l[q]) → Ev (fun k => spec_Harmonic.l0 k l (i : Int)) (decide (Hm l)) := by
      intro d
      induction d with
      | zero =>
        intro i hi hm
        have : Hm l := ⟨hs, all_of (fun p hp => all_of (fun q hq => by
          rcases Nat.lt_trichotomy p q with h | h | h
          · exact hm2_symm (hm q hq (by omega) p hp h)
          · subst h; exact hm2_self
          · exact hm p hp (by omega) q hq h))⟩
        rw [decide_eq_true this]
        refine Ev.step (f := fun _ => some true) (fun k => ?_) (Ev.now _)
        simp only [spec_Harmonic.l0]
        rw [if_neg (by omega)]
      | succ d ih =>
        intro i hi hm
        have hil : i < l.length := by omega
        refine Ev.step (fun k => ?_) (inner i hil _ rfl (fun hall => ih (i + 1) (by omega) (fun p hp hpi => ?_)) i 0 (by omega) (fun q _ h => by omega))
        · simp only [spec_Harmonic.l0]
          rw [if_pos (by omega)]
          rfl
        · by_cases e : p = i
          · subst e; exact hall
          · exact hm p hp (by omega)
    exact outer l.length 0 (by omega) (fun p _ h => by omega)
  · have : ¬ Hm l := fun h => hs h.1
    simp only [decide_eq_false hs, decide_eq_false this]
    exact Ev.now _
/-- The hyperbolic bound. -/
def pA (l : List Task) : Int := pr (fun x => x.f0 + x.f2) l
def pB (l : List Task) : Int := pr (fun x => x.f2) l
def HB (l : List Task) : Prop := Impl l ∧ pA l ≤ 2 * pB l
instance (l : List Task) : Decidable (HB l) := by unfold HB; infer_instance
end Go.Proofs.Ytgcjadhmkhpbnaa.Harm
-- Laid by a program of this work.
namespace Go.Proofs.Ytgcjadhmkhpbnaa.P
open Go.RowKit Go.Proofs.YtgcjadhmkhpbnaaW.PrintWords Go.Proofs.YtgcjadhmkhpbnaaW.PrintLast Go.Proofs.YtgcjadhmkhpbnaaW.PrintMore
attribute [local go_sem] max2_int min2_int max_two min_two max_three min_three max_four min_four   -- for this text's walks alone
set_option linter.unusedVariables false
set_option linter.unusedSimpArgs false

/-! ### spec_l4Index: function 56 -/
def spec_l4Index.l0 : Nat → List Int → Int → Int → Option (Int)
  | 0, _, _, _ => none
  | k + 1, x0, x1, x5 => if x5 < (x0.length : Int) then (if 0 ≤ x5 then (if (rd x0 x5) = x1 then (some x5) else (spec_l4Index.l0 k x0 x1 (wrap64 (x5 + 1)))) else (none)) else (some (-1))
def spec_l4Index.f (k : Nat) (l0 : List Int) (a1 : Int) : Option (Int) := spec_l4Index.l0 k l0 a1 0
theorem spec_l4Index.mono_l : ∀ k, (∀ y0 y1 y2, LeO (spec_l4Index.l0 k y0 y1 y2) (spec_l4Index.l0 (k + 1) y0 y1 y2))
  | 0 => fun _ _ _ r h => by simp [spec_l4Index.l0] at h
  | k + 1 => by
    have ih0 := spec_l4Index.mono_l k
    · intro y0 y1 y2
      unfold spec_l4Index.l0
      repeat' first
      | (with_reducible exact ih0 _ _ _)
      | (with_reducible exact LeO.refl _)
      | (with_reducible exact LeO.none _)
      | (with_reducible refine LeO.ite ?_ ?_)
      | (with_reducible refine LeO.bind ?_ (fun _ => ?_))
      | exact ih0 _ _ _
      | exact LeO.none _
      | refine LeO.ite ?_ ?_
      | refine LeO.bind ?_ (fun _ => ?_)
theorem spec_l4Index.mono : ∀ a0 a1 k, LeO (spec_l4Index.f k a0 a1) (spec_l4Index.f (k + 1) a0 a1) := by
  intro a0 a1 k
  have ih0 := spec_l4Index.mono_l k
  unfold spec_l4Index.f
  repeat' first
      | (with_reducible exact ih0 _ _ _)
      | (with_reducible exact LeO.refl _)
      | (with_reducible exact LeO.none _)
      | (with_reducible refine LeO.ite ?_ ?_)
      | (with_reducible refine LeO.bind ?_ (fun _ => ?_))
      | exact ih0 _ _ _
      | exact LeO.none _
      | refine LeO.ite ?_ ?_
      | refine LeO.bind ?_ (fun _ => ?_)
set_option maxHeartbeats 8000000 in
set_option maxRecDepth 100000 in
theorem spec_l4Index.calls (k : Nat) (A0 : Option Addr) (c0 : Nat) (l0 : List Int) (a1 : Int) (r : Int) (w : World) (hr0 : Kd.C (Kd.int .i64) w A0 l0.length l0) (hc0 : l0.length ≤ c0) (h : spec_l4Index.f k l0 a1 = some r) :
    Calls Try.prog 56 #[.slice A0 l0.length c0, .int .i64 a1] w fun e w' => e = .returned (.int .i64 r) ∧ Drawn0 w w' := by
  have HR0 := Aside0.mk hr0
  have HC0 := Aside0.mk hc0
  clear hr0 hc0
  have H : (spec_l4Index.l0 k l0 a1 0) = some r := h
  clear h
  have H' := Aside0.mk H
  clear H
  go_enter Try.func56, Try.ntmps56
  go_wp2
  go_loopg [5] k (fun kq v5 w' => ∃ (x5_1 : Int), v5 = .int .i64 x5_1 ∧ Aside0 (spec_l4Index.l0 kq l0 a1 x5_1 = some r) ∧ Aside0 (kq ≤ k) ∧ Drawn0 w w')
  case atStart => exact ⟨(0), (by first | rfl | (simp; done) | (simp [*]; done)), H', ⟨Nat.le_refl _⟩, by repeat (first | exact Drawn0.refl _ | apply Drawn0.step)⟩
  case round =>
    clear H'
    try clear p2
    obtain ⟨x5_1, rfl, HA, HK1, ⟨m1, rfl⟩⟩ := hrel
    cases gk with
    | zero => exact absurd HA.out (by simp [spec_l4Index.l0])
    | succ k1 =>
      have H := HA.out
      clear HA
      simp only [spec_l4Index.l0] at H
      by_cases c3 : x5_1 < (l0.length : Int)
      · rw [if_pos c3] at H
        have c3b0 : decide (x5_1 < (l0.length : Int)) = true := decide_eq_true c3
        clear c3
        by_cases c4 : 0 ≤ x5_1
        · rw [if_pos c4] at H
          have c4b0 : decide (0 ≤ x5_1) = true := decide_eq_true c4
          clear c4
          by_cases c5 : (rd l0 x5_1) = a1
          · rw [if_pos c5] at H
            have c5b0 : ((rd l0 x5_1) == a1) = true := beq_iff_eq.mpr c5
            have c5b1 : ((rd l0 x5_1) != a1) = false := bne_eq_false_iff_eq.mpr c5
            clear c5
            obtain rfl := Option.some.inj H
            have p177 : 0 ≤ (x5_1 : Int) := of_decide_eq_true (by first | (with_reducible assumption) | assumption)
            have q177 : x5_1 < (l0.length : Int) := of_decide_eq_true (by first | (with_reducible assumption) | assumption)
            obtain ⟨ad177, e177, hx177_0⟩ := Kd.at_int HR0.out x5_1 p177 q177
            cases e177
            replace p177 := eq_true p177
            replace q177 := eq_true q177
            go_wp2
            go_ret
            exact ⟨by first | rfl | (simp; done) | (simp [*]; done), by repeat (first | exact Drawn0.refl _ | apply Drawn0.step)⟩
          · rw [if_neg c5] at H
            have c5b0 : ((rd l0 x5_1) == a1) = false := beq_eq_false_iff_ne.mpr c5
            have c5b1 : ((rd l0 x5_1) != a1) = true := bne_iff_ne.mpr c5
            have H' := Aside0.mk H
            clear H
            have p177 : 0 ≤ (x5_1 : Int) := of_decide_eq_true (by first | (with_reducible assumption) | assumption)
            have q177 : x5_1 < (l0.length : Int) := of_decide_eq_true (by first | (with_reducible assumption) | assumption)
            obtain ⟨ad177, e177, hx177_0⟩ := Kd.at_int HR0.out x5_1 p177 q177
            cases e177
            replace p177 := eq_true p177
            replace q177 := eq_true q177
            go_wp2
            go_roundg k1
            case measure => have := HK1.out; omega
            case rel => exact ⟨(wrap64 (x5_1 + 1)), (by first | rfl | (simp; done) | (simp [*]; done)), H', ⟨by have := HK1.out; omega⟩, by repeat (first | exact Drawn0.refl _ | apply Drawn0.step)⟩
        · rw [if_neg c4] at H
          exact absurd H (by simp)
      · rw [if_neg c3] at H
        have c3b0 : decide (x5_1 < (l0.length : Int)) = false := decide_eq_false c3
        clear c3
        obtain rfl := Option.some.inj H
        go_wp2
        go_ret
        exact ⟨by first | rfl | (simp; done) | (simp [*]; done), by repeat (first | exact Drawn0.refl _ | apply Drawn0.step)⟩

end Go.Proofs.Ytgcjadhmkhpbnaa.P
-- Laid by a program of this work.
namespace Go.Proofs.Ytgcjadhmkhpbnaa.P
open Go.RowKit Go.Proofs.YtgcjadhmkhpbnaaW.PrintWords Go.Proofs.YtgcjadhmkhpbnaaW.PrintLast Go.Proofs.YtgcjadhmkhpbnaaW.PrintMore
attribute [local go_sem] max2_int min2_int max_two min_two max_three min_three max_four min_four   -- for this text's walks alone
set_option linter.unusedVariables false
set_option linter.unusedSimpArgs false

/-! ### spec_OrderValid: function 27 -/
mutual
def spec_OrderValid.j0 : Nat → List (S56) → List Int → Bool → Option (Bool)
  | 0, _, _, _ => none
  | k + 1, x0, x1, x15 => if x15 = true then (some false) else (spec_OrderValid.l0 k x0 x1 0)
def spec_OrderValid.l0 : Nat → List (S56) → List Int → Int → Option (Bool)
  | 0, _, _, _ => none
  | k + 1, x0, x1, x5 => if x5 < (x1.length : Int) then (if 0 ≤ x5 then ((spec_l1In.f (rd x1 x5) 0 (wrap64 ((x0.length : Int) - 1))).bind fun t180 => (if t180 = true then (if x5 ≤ (x1.length : Int) then ((spec_l4Index.f k (x1.take (x5 : Int).toNat) (rd x1 x5)).bind fun t183 => (if t183 ≥ 0 then (some false) else (spec_OrderValid.l0 k x0 x1 (wrap64 (x5 + 1))))) else (none)) else (some false))) else (none)) else (some true)
end
def spec_OrderValid.f (k : Nat) (l0 : List (S56)) (l1 : List Int) : Option (Bool) := (spec_SetValid.f k l0).bind fun t178 => (if t178 = true then (spec_OrderValid.j0 k l0 l1 ((l1.length : Int) != (l0.length : Int))) else (spec_OrderValid.j0 k l0 l1 true))
theorem spec_OrderValid.mono_l : ∀ k, (∀ y0 y1 y2, LeO (spec_OrderValid.j0 k y0 y1 y2) (spec_OrderValid.j0 (k + 1) y0 y1 y2)) ∧ (∀ y0 y1 y2, LeO (spec_OrderValid.l0 k y0 y1 y2) (spec_OrderValid.l0 (k + 1) y0 y1 y2))
  | 0 => ⟨fun _ _ _ r h => by simp [spec_OrderValid.j0] at h, fun _ _ _ r h => by simp [spec_OrderValid.l0] at h⟩
  | k + 1 => by
    obtain ⟨ih0, ih1⟩ := spec_OrderValid.mono_l k
    refine ⟨?_, ?_⟩
    · intro y0 y1 y2
      unfold spec_OrderValid.j0
      repeat' first
      | (with_reducible exact ih0 _ _ _)
      | (with_reducible exact ih1 _ _ _)
      | (with_reducible exact spec_SetValid.mono _ _)
      | (with_reducible exact spec_l4Index.mono _ _ _)
      | (with_reducible exact LeO.refl _)
      | (with_reducible exact LeO.none _)
      | (with_reducible refine LeO.ite ?_ ?_)
      | (with_reducible refine LeO.bind ?_ (fun _ => ?_))
      | exact ih0 _ _ _
      | exact ih1 _ _ _
      | exact spec_SetValid.mono _ _
      | exact spec_l4Index.mono _ _ _
      | exact LeO.none _
      | refine LeO.ite ?_ ?_
      | refine LeO.bind ?_ (fun _ => ?_)
    · intro y0 y1 y2
      unfold spec_OrderValid.l0
      repeat' first
      | (with_reducible exact ih0 _ _ _)
      | (with_reducible exact ih1 _ _ _)
      | (with_reducible exact spec_SetValid.mono _ _)
      | (with_reducible exact spec_l4Index.mono _ _ _)
      | (with_reducible exact LeO.refl _)
      | (with_reducible exact LeO.none _)
      | (with_reducible refine LeO.ite ?_ ?_)
      | (with_reducible refine LeO.bind ?_ (fun _ => ?_))
      | exact ih0 _ _ _
      | exact ih1 _ _ _
      | exact spec_SetValid.mono _ _
      | exact spec_l4Index.mono _ _ _
      | exact LeO.none _
      | refine LeO.ite ?_ ?_
      | refine LeO.bind ?_ (fun _ => ?_)
theorem spec_OrderValid.mono : ∀ a0 a1 k, LeO (spec_OrderValid.f k a0 a1) (spec_OrderValid.f (k + 1) a0 a1) := by
  intro a0 a1 k
  obtain ⟨ih0, ih1⟩ := spec_OrderValid.mono_l k
  unfold spec_OrderValid.f
  repeat' first
      | (with_reducible exact ih0 _ _ _)
      | (with_reducible exact ih1 _ _ _)
      | (with_reducible exact spec_SetValid.mono _ _)
      | (with_reducible exact spec_l4Index.mono _ _ _)
      | (with_reducible exact LeO.refl _)
      | (with_reducible exact LeO.none _)
      | (with_reducible refine LeO.ite ?_ ?_)
      | (with_reducible refine LeO.bind ?_ (fun _ => ?_))
      | exact ih0 _ _ _
      | exact ih1 _ _ _
      | exact spec_SetValid.mono _ _
      | exact spec_l4Index.mono _ _ _
      | exact LeO.none _
      | refine LeO.ite ?_ ?_
      | refine LeO.bind ?_ (fun _ => ?_)
set_option maxHeartbeats 8000000 in
set_option maxRecDepth 100000 in
theorem spec_OrderValid.calls (k : Nat) (A0 : Option Addr) (c0 : Nat) (l0 : List (S56)) (A1 : Option Addr) (c1 : Nat) (l1 : List Int) (r : Bool) (w : World) (hr0 : Kd.C k56 w A0 l0.length l0) (hc0 : l0.length ≤ c0) (hr1 : Kd.C (Kd.int .i64) w A1 l1.length l1) (hc1 : l1.length ≤ c1) (h : spec_OrderValid.f k l0 l1 = some r) :
    Calls Try.prog 27 #[.slice A0 l0.length c0, .slice A1 l1.length c1] w fun e w' => e = .returned (.bool r) ∧ Below w.heap.size w w' := by
  have HR0 := Aside0.mk hr0
  have HC0 := Aside0.mk hc0
  clear hr0 hc0
  have HR1 := Aside0.mk hr1
  have HC1 := Aside0.mk hc1
  clear hr1 hc1
  have HB := Aside0.mk (Below.refl w.heap.size w)
  have H : ((spec_SetValid.f k l0).bind fun t178 => (if t178 = true then (spec_OrderValid.j0 k l0 l1 ((l1.length : Int) != (l0.length : Int))) else (spec_OrderValid.j0 k l0 l1 true))) = some r := h
  clear h
  have HC3 := Aside0.mk H
  clear H
  go_enter Try.func27, Try.ntmps27
  go_upto_region 1 with (fail)
  repeat (go_quiet (fail); go_upto_region 1 with (fail))
  go_cut [15] (fun v15 wc => ∃ (kq : Nat) (x15_2 : Bool), v15 = .bool x15_2 ∧ Aside0 (spec_OrderValid.j0 kq l0 l1 x15_2 = some r) ∧ Aside0 (kq ≤ k) ∧ Aside0 (Below w.heap.size w wc))
  case first =>
    have H := HC3.out
    clear HC3
    replace H := Option.bind_eq_some_iff.mp H
    obtain ⟨t178, A40, H⟩ := H
    replace H : (if t178 = true then (spec_OrderValid.j0 k l0 l1 ((l1.length : Int) != (l0.length : Int))) else (spec_OrderValid.j0 k l0 l1 true)) = some r := H
    have A4 := Aside0.mk A40
    clear A40
    by_cases c5 : t178 = true
    · subst c5
      have H1 : (spec_OrderValid.j0 k l0 l1 ((l1.length : Int) != (l0.length : Int))) = some r := by rw [if_pos rfl] at H; exact H
      clear H
      have H := H1
      clear H1
      have H' := Aside0.mk H
      clear H
      go_wp2_with (first | (go_at_call 39; (with_reducible refine (spec_SetValid.calls k _ _ l0 true _ ?side1 ?side2 A4.out).mono ?_); (case side1 => repeat (first | exact (Kd.C_below HR0.out HB.out) | (with_reducible refine Kd.C_alloc ?_ _) | (with_reducible refine Kd.C_drewN ?_ _) | (with_reducible refine Kd.C_drew ?_))); (case side2 => exact HC0.out); rintro e w6 ⟨rfl, hb⟩; have n0_ := Aside0.mk (below_step (by repeat (first | (with_reducible first | exact HB.out | apply below_alloc | apply pw_below_drewN | apply below_drew1) | exact HB.out)) hb); clear HB; have HB := n0_; clear n0_; (try clear hb); (try clear hb2); (try clear hk); (try clear hi)))
      repeat (go_quiet (first | (go_at_call 39; (with_reducible refine (spec_SetValid.calls k _ _ l0 true _ ?side1 ?side2 A4.out).mono ?_); (case side1 => repeat (first | exact (Kd.C_below HR0.out HB.out) | (with_reducible refine Kd.C_alloc ?_ _) | (with_reducible refine Kd.C_drewN ?_ _) | (with_reducible refine Kd.C_drew ?_))); (case side2 => exact HC0.out); rintro e w6 ⟨rfl, hb⟩; have n0_ := Aside0.mk (below_step (by repeat (first | (with_reducible first | exact HB.out | apply below_alloc | apply pw_below_drewN | apply below_drew1) | exact HB.out)) hb); clear HB; have HB := n0_; clear n0_; (try clear hb); (try clear hb2); (try clear hk); (try clear hi))); try go_wp2_with (first | (go_at_call 39; (with_reducible refine (spec_SetValid.calls k _ _ l0 true _ ?side1 ?side2 A4.out).mono ?_); (case side1 => repeat (first | exact (Kd.C_below HR0.out HB.out) | (with_reducible refine Kd.C_alloc ?_ _) | (with_reducible refine Kd.C_drewN ?_ _) | (with_reducible refine Kd.C_drew ?_))); (case side2 => exact HC0.out); rintro e w6 ⟨rfl, hb⟩; have n0_ := Aside0.mk (below_step (by repeat (first | (with_reducible first | exact HB.out | apply below_alloc | apply pw_below_drewN | apply below_drew1) | exact HB.out)) hb); clear HB; have HB := n0_; clear n0_; (try clear hb); (try clear hb2); (try clear hk); (try clear hi))))
      go_meet
      case rel => exact ⟨_, (((l1.length : Int) != (l0.length : Int))), (by first | rfl | (simp; done) | (simp [*]; done)), H', ⟨by first | omega | exact Nat.le_refl _⟩, ⟨by repeat (first | (with_reducible first | exact HB.out | apply below_alloc | apply pw_below_drewN | apply below_drew1) | exact HB.out)⟩⟩
    · replace c5 := Bool.eq_false_iff.mpr c5
      subst c5
      have H1 : (spec_OrderValid.j0 k l0 l1 true) = some r := by rw [if_neg (show ¬ (false = true) by decide)] at H; exact H
      clear H
      have H := H1
      clear H1
      have H' := Aside0.mk H
      clear H
      go_wp2_with (first | (go_at_call 39; (with_reducible refine (spec_SetValid.calls k _ _ l0 false _ ?side1 ?side2 A4.out).mono ?_); (case side1 => repeat (first | exact (Kd.C_below HR0.out HB.out) | (with_reducible refine Kd.C_alloc ?_ _) | (with_reducible refine Kd.C_drewN ?_ _) | (with_reducible refine Kd.C_drew ?_))); (case side2 => exact HC0.out); rintro e w7 ⟨rfl, hb⟩; have n0_ := Aside0.mk (below_step (by repeat (first | (with_reducible first | exact HB.out | apply below_alloc | apply pw_below_drewN | apply below_drew1) | exact HB.out)) hb); clear HB; have HB := n0_; clear n0_; (try clear hb); (try clear hb2); (try clear hk); (try clear hi)))
      repeat (go_quiet (first | (go_at_call 39; (with_reducible refine (spec_SetValid.calls k _ _ l0 false _ ?side1 ?side2 A4.out).mono ?_); (case side1 => repeat (first | exact (Kd.C_below HR0.out HB.out) | (with_reducible refine Kd.C_alloc ?_ _) | (with_reducible refine Kd.C_drewN ?_ _) | (with_reducible refine Kd.C_drew ?_))); (case side2 => exact HC0.out); rintro e w7 ⟨rfl, hb⟩; have n0_ := Aside0.mk (below_step (by repeat (first | (with_reducible first | exact HB.out | apply below_alloc | apply pw_below_drewN | apply below_drew1) | exact HB.out)) hb); clear HB; have HB := n0_; clear n0_; (try clear hb); (try clear hb2); (try clear hk); (try clear hi))); try go_wp2_with (first | (go_at_call 39; (with_reducible refine (spec_SetValid.calls k _ _ l0 false _ ?side1 ?side2 A4.out).mono ?_); (case side1 => repeat (first | exact (Kd.C_below HR0.out HB.out) | (with_reducible refine Kd.C_alloc ?_ _) | (with_reducible refine Kd.C_drewN ?_ _) | (with_reducible refine Kd.C_drew ?_))); (case side2 => exact HC0.out); rintro e w7 ⟨rfl, hb⟩; have n0_ := Aside0.mk (below_step (by repeat (first | (with_reducible first | exact HB.out | apply below_alloc | apply pw_below_drewN | apply below_drew1) | exact HB.out)) hb); clear HB; have HB := n0_; clear n0_; (try clear hb); (try clear hb2); (try clear hk); (try clear hi))))
      go_meet
      case rel => exact ⟨_, (true), (by first | rfl | (simp; done) | (simp [*]; done)), H', ⟨by first | omega | exact Nat.le_refl _⟩, ⟨by repeat (first | (with_reducible first | exact HB.out | apply below_alloc | apply pw_below_drewN | apply below_drew1) | exact HB.out)⟩⟩
  case rest =>
    clear HC3
    try clear c1
    try clear c2
    try clear p2
    try clear c5
    obtain ⟨kq, x15_2, rfl, HA, HJ2, HB⟩ := hcut
    cases kq with
    | zero => exact absurd HA.out (by simp [spec_OrderValid.j0])
    | succ kj2 =>
      have H := HA.out
      clear HA
      simp only [spec_OrderValid.j0] at H
      by_cases c8 : x15_2 = true
      · subst c8
        have H1 : (some false) = some r := by rw [if_pos rfl] at H; exact H
        clear H
        have H := H1
        clear H1
        obtain rfl := Option.some.inj H
        go_wp2
        repeat (go_quiet (fail); try go_wp2)
        go_ret
        exact ⟨by first | rfl | (simp [errW_none, errW_some] <;> rfl) | (simp [*, errW_none, errW_some] <;> rfl), by repeat (first | (with_reducible first | exact HB.out | apply below_alloc | apply pw_below_drewN | apply below_drew1) | exact HB.out)⟩
      · replace c8 := Bool.eq_false_iff.mpr c8
        subst c8
        have H1 : (spec_OrderValid.l0 kj2 l0 l1 0) = some r := by rw [if_neg (show ¬ (false = true) by decide)] at H; exact H
        clear H
        have H := H1
        clear H1
        have H' := Aside0.mk H
        clear H
        go_wp2
        repeat (go_quiet (fail); try go_wp2)
        go_loopg [5] kj2 (fun kq v5 w' => ∃ (x5_2 : Int), v5 = .int .i64 x5_2 ∧ Aside0 (spec_OrderValid.l0 kq l0 l1 x5_2 = some r) ∧ Aside0 (kq ≤ kj2) ∧ Aside0 (Below w.heap.size w w'))
        case atStart => exact ⟨(0), (by first | rfl | (simp; done) | (simp [*]; done)), H', ⟨Nat.le_refl _⟩, ⟨by repeat (first | (with_reducible first | exact HB.out | apply below_alloc | apply pw_below_drewN | apply below_drew1) | exact HB.out)⟩⟩
        case round =>
          clear H'
          try clear c1
          try clear c2
          try clear p2
          try clear c5
          try clear c8
          try clear p2
          obtain ⟨x5_2, rfl, HA, HK2, HB⟩ := hrel
          cases gk with
          | zero => exact absurd HA.out (by simp [spec_OrderValid.l0])
          | succ k2 =>
            have H := HA.out
            clear HA
            simp only [spec_OrderValid.l0] at H
            by_cases c9 : x5_2 < (l1.length : Int)
            · rw [if_pos c9] at H
              have c9b0 : decide (x5_2 < (l1.length : Int)) = true := decide_eq_true c9
              clear c9
              by_cases c10 : 0 ≤ x5_2
              · rw [if_pos c10] at H
                have c10b0 : decide (0 ≤ x5_2) = true := decide_eq_true c10
                clear c10
                replace H := Option.bind_eq_some_iff.mp H
                obtain ⟨t180, A110, H⟩ := H
                replace H : (if t180 = true then (if x5_2 ≤ (l1.length : Int) then ((spec_l4Index.f k2 (l1.take (x5_2 : Int).toNat) (rd l1 x5_2)).bind fun t183 => (if t183 ≥ 0 then (some false) else (spec_OrderValid.l0 k2 l0 l1 (wrap64 (x5_2 + 1))))) else (none)) else (some false)) = some r := H
                have A11 := Aside0.mk A110
                clear A110
                by_cases c12 : t180 = true
                · subst c12
                  have H1 : (if x5_2 ≤ (l1.length : Int) then ((spec_l4Index.f k2 (l1.take (x5_2 : Int).toNat) (rd l1 x5_2)).bind fun t183 => (if t183 ≥ 0 then (some false) else (spec_OrderValid.l0 k2 l0 l1 (wrap64 (x5_2 + 1))))) else (none)) = some r := by rw [if_pos rfl] at H; exact H
                  clear H
                  have H := H1
                  clear H1
                  have c13b0 := eq_true (of_decide_eq_true (by first | (with_reducible assumption) | assumption) : 0 ≤ x5_2)
                  by_cases c14 : x5_2 ≤ (l1.length : Int)
                  · rw [if_pos c14] at H
                    have c14b0 := eq_true c14
                    have c14b1 : decide (x5_2 ≤ (l1.length : Int)) = true := decide_eq_true c14
                    clear c14
                    replace H := Option.bind_eq_some_iff.mp H
                    obtain ⟨t183, A150, H⟩ := H
                    replace H : (if t183 ≥ 0 then (some false) else (spec_OrderValid.l0 k2 l0 l1 (wrap64 (x5_2 + 1)))) = some r := H
                    have A15 := Aside0.mk A150
                    clear A150
                    by_cases c16 : t183 ≥ 0
                    · rw [if_pos c16] at H
                      have c16b0 : decide (0 ≤ t183) = true := decide_eq_true c16
                      clear c16
                      obtain rfl := Option.some.inj H
                      have p179 : 0 ≤ (x5_2 : Int) := of_decide_eq_true (by first | (with_reducible assumption) | assumption)
                      have q179 : x5_2 < (l1.length : Int) := of_decide_eq_true (by first | (with_reducible assumption) | assumption)
                      obtain ⟨ad179, e179, hx179_0⟩ := Kd.at_int HR1.out x5_2 p179 q179
                      cases e179
                      replace hx179_0 := (HB.out.cell (World.block_lt_of_cell? w _ hx179_0)).trans hx179_0
                      replace p179 := eq_true p179
                      replace q179 := eq_true q179
                      -- HOISTED
                      obtain ⟨i017, hi017, _, hsz17, _⟩ := info_parts info3
                      obtain ⟨hcut17, hA17, hC17⟩ := print_take_of (P := Try.prog) (Value.int .i64) 0 29 3 .i64 Try.underlying29 hi017 hsz17 (some ad179) c1 l1 x5_2 (of_decide_eq_true (by first | (with_reducible assumption) | assumption)) (of_decide_eq_true (by first | (with_reducible assumption) | assumption)) HC1.out
                      have HR181 := Aside0.mk (Kd.C_of_reads (h1 := fun _ => rfl) (hA17 _ (Kd.reads_of_C HR1.out)))
                      have HC181 := Aside0.mk hC17
                      clear hA17 hC17 hi017 hsz17
                      have p182 : 0 ≤ (x5_2 : Int) := of_decide_eq_true (by first | (with_reducible assumption) | assumption)
                      have q182 : x5_2 < (l1.length : Int) := of_decide_eq_true (by first | (with_reducible assumption) | assumption)
                      obtain ⟨ad182, e182, hx182_0⟩ := Kd.at_int HR1.out x5_2 p182 q182
                      obtain rfl : ad179 = ad182 := (by injection e182)
                      replace hx182_0 := (HB.out.cell (World.block_lt_of_cell? w _ hx182_0)).trans hx182_0
                      replace p182 := eq_true p182
                      replace q182 := eq_true q182
                      have eL17 : (List.take (x5_2 : Int).toNat l1).length = (x5_2 : Int).toNat := by have h1 : (x5_2 : Int) ≤ (l1.length : Int) := (of_decide_eq_true (by first | (with_reducible assumption) | assumption)); rw [List.length_take]; omega
                      go_wp2_with (first | (go_at_call 55; (with_reducible refine (spec_l1In.calls (rd l1 x5_2) 0 (wrap64 ((l0.length : Int) - 1)) true _ A11.out).mono ?_); rintro e w' ⟨rfl, ⟨nd, rfl⟩⟩; (try first | exact ⟨rfl, _, World.drewN_drewN _ _ _⟩ | exact ⟨rfl, _, Eq.trans (World.drewN_drewN _ _ _) (congrArg (World.drewN _) (Nat.add_assoc _ _ _))⟩)) | (go_at_call 56; (try rw [← eL17]); (with_reducible refine (spec_l4Index.calls k2 _ _ (l1.take (x5_2 : Int).toNat) (rd l1 x5_2) t183 _ ?side1 ?side2 A15.out).mono ?_); (case side1 => repeat (first | exact (Kd.C_below HR181.out (by repeat (first | (with_reducible first | exact HB.out | apply below_alloc | apply pw_below_drewN | apply below_drew1) | exact HB.out))) | (with_reducible refine Kd.C_alloc ?_ _) | (with_reducible refine Kd.C_drewN ?_ _) | (with_reducible refine Kd.C_drew ?_))); (case side2 => exact HC181.out); rintro e w' ⟨rfl, ⟨nd, rfl⟩⟩; (try first | exact ⟨rfl, _, World.drewN_drewN _ _ _⟩ | exact ⟨rfl, _, Eq.trans (World.drewN_drewN _ _ _) (congrArg (World.drewN _) (Nat.add_assoc _ _ _))⟩)))
                      repeat (go_quiet (first | (go_at_call 55; (with_reducible refine (spec_l1In.calls (rd l1 x5_2) 0 (wrap64 ((l0.length : Int) - 1)) true _ A11.out).mono ?_); rintro e w' ⟨rfl, ⟨nd, rfl⟩⟩; (try first | exact ⟨rfl, _, World.drewN_drewN _ _ _⟩ | exact ⟨rfl, _, Eq.trans (World.drewN_drewN _ _ _) (congrArg (World.drewN _) (Nat.add_assoc _ _ _))⟩)) | (go_at_call 56; (try rw [← eL17]); (with_reducible refine (spec_l4Index.calls k2 _ _ (l1.take (x5_2 : Int).toNat) (rd l1 x5_2) t183 _ ?side1 ?side2 A15.out).mono ?_); (case side1 => repeat (first | exact (Kd.C_below HR181.out (by repeat (first | (with_reducible first | exact HB.out | apply below_alloc | apply pw_below_drewN | apply below_drew1) | exact HB.out))) | (with_reducible refine Kd.C_alloc ?_ _) | (with_reducible refine Kd.C_drewN ?_ _) | (with_reducible refine Kd.C_drew ?_))); (case side2 => exact HC181.out); rintro e w' ⟨rfl, ⟨nd, rfl⟩⟩; (try first | exact ⟨rfl, _, World.drewN_drewN _ _ _⟩ | exact ⟨rfl, _, Eq.trans (World.drewN_drewN _ _ _) (congrArg (World.drewN _) (Nat.add_assoc _ _ _))⟩))); try go_wp2_with (first | (go_at_call 55; (with_reducible refine (spec_l1In.calls (rd l1 x5_2) 0 (wrap64 ((l0.length : Int) - 1)) true _ A11.out).mono ?_); rintro e w' ⟨rfl, ⟨nd, rfl⟩⟩; (try first | exact ⟨rfl, _, World.drewN_drewN _ _ _⟩ | exact ⟨rfl, _, Eq.trans (World.drewN_drewN _ _ _) (congrArg (World.drewN _) (Nat.add_assoc _ _ _))⟩)) | (go_at_call 56; (try rw [← eL17]); (with_reducible refine (spec_l4Index.calls k2 _ _ (l1.take (x5_2 : Int).toNat) (rd l1 x5_2) t183 _ ?side1 ?side2 A15.out).mono ?_); (case side1 => repeat (first | exact (Kd.C_below HR181.out (by repeat (first | (with_reducible first | exact HB.out | apply below_alloc | apply pw_below_drewN | apply below_drew1) | exact HB.out))) | (with_reducible refine Kd.C_alloc ?_ _) | (with_reducible refine Kd.C_drewN ?_ _) | (with_reducible refine Kd.C_drew ?_))); (case side2 => exact HC181.out); rintro e w' ⟨rfl, ⟨nd, rfl⟩⟩; (try first | exact ⟨rfl, _, World.drewN_drewN _ _ _⟩ | exact ⟨rfl, _, Eq.trans (World.drewN_drewN _ _ _) (congrArg (World.drewN _) (Nat.add_assoc _ _ _))⟩))))
                      go_ret
                      exact ⟨by first | rfl | (simp [errW_none, errW_some] <;> rfl) | (simp [*, errW_none, errW_some] <;> rfl), by repeat (first | (with_reducible first | exact HB.out | apply below_alloc | apply pw_below_drewN | apply below_drew1) | exact HB.out)⟩
                    · rw [if_neg c16] at H
                      have c16b0 : decide (0 ≤ t183) = false := decide_eq_false c16
                      clear c16
                      have H' := Aside0.mk H
                      clear H
                      have p179 : 0 ≤ (x5_2 : Int) := of_decide_eq_true (by first | (with_reducible assumption) | assumption)
                      have q179 : x5_2 < (l1.length : Int) := of_decide_eq_true (by first | (with_reducible assumption) | assumption)
                      obtain ⟨ad179, e179, hx179_0⟩ := Kd.at_int HR1.out x5_2 p179 q179
                      cases e179
                      replace hx179_0 := (HB.out.cell (World.block_lt_of_cell? w _ hx179_0)).trans hx179_0
                      replace p179 := eq_true p179
                      replace q179 := eq_true q179
                      -- HOISTED
                      obtain ⟨i018, hi018, _, hsz18, _⟩ := info_parts info3
                      obtain ⟨hcut18, hA18, hC18⟩ := print_take_of (P := Try.prog) (Value.int .i64) 0 29 3 .i64 Try.underlying29 hi018 hsz18 (some ad179) c1 l1 x5_2 (of_decide_eq_true (by first | (with_reducible assumption) | assumption)) (of_decide_eq_true (by first | (with_reducible assumption) | assumption)) HC1.out
                      have HR181 := Aside0.mk (Kd.C_of_reads (h1 := fun _ => rfl) (hA18 _ (Kd.reads_of_C HR1.out)))
                      have HC181 := Aside0.mk hC18
                      clear hA18 hC18 hi018 hsz18
                      have p182 : 0 ≤ (x5_2 : Int) := of_decide_eq_true (by first | (with_reducible assumption) | assumption)
                      have q182 : x5_2 < (l1.length : Int) := of_decide_eq_true (by first | (with_reducible assumption) | assumption)
                      obtain ⟨ad182, e182, hx182_0⟩ := Kd.at_int HR1.out x5_2 p182 q182
                      obtain rfl : ad179 = ad182 := (by injection e182)
                      replace hx182_0 := (HB.out.cell (World.block_lt_of_cell? w _ hx182_0)).trans hx182_0
                      replace p182 := eq_true p182
                      replace q182 := eq_true q182
                      have eL18 : (List.take (x5_2 : Int).toNat l1).length = (x5_2 : Int).toNat := by have h1 : (x5_2 : Int) ≤ (l1.length : Int) := (of_decide_eq_true (by first | (with_reducible assumption) | assumption)); rw [List.length_take]; omega
                      go_wp2_with (first | (go_at_call 55; (with_reducible refine (spec_l1In.calls (rd l1 x5_2) 0 (wrap64 ((l0.length : Int) - 1)) true _ A11.out).mono ?_); rintro e w' ⟨rfl, ⟨nd, rfl⟩⟩; (try first | exact ⟨rfl, _, World.drewN_drewN _ _ _⟩ | exact ⟨rfl, _, Eq.trans (World.drewN_drewN _ _ _) (congrArg (World.drewN _) (Nat.add_assoc _ _ _))⟩)) | (go_at_call 56; (try rw [← eL18]); (with_reducible refine (spec_l4Index.calls k2 _ _ (l1.take (x5_2 : Int).toNat) (rd l1 x5_2) t183 _ ?side1 ?side2 A15.out).mono ?_); (case side1 => repeat (first | exact (Kd.C_below HR181.out (by repeat (first | (with_reducible first | exact HB.out | apply below_alloc | apply pw_below_drewN | apply below_drew1) | exact HB.out))) | (with_reducible refine Kd.C_alloc ?_ _) | (with_reducible refine Kd.C_drewN ?_ _) | (with_reducible refine Kd.C_drew ?_))); (case side2 => exact HC181.out); rintro e w' ⟨rfl, ⟨nd, rfl⟩⟩; (try first | exact ⟨rfl, _, World.drewN_drewN _ _ _⟩ | exact ⟨rfl, _, Eq.trans (World.drewN_drewN _ _ _) (congrArg (World.drewN _) (Nat.add_assoc _ _ _))⟩)))
                      repeat (go_quiet (first | (go_at_call 55; (with_reducible refine (spec_l1In.calls (rd l1 x5_2) 0 (wrap64 ((l0.length : Int) - 1)) true _ A11.out).mono ?_); rintro e w' ⟨rfl, ⟨nd, rfl⟩⟩; (try first | exact ⟨rfl, _, World.drewN_drewN _ _ _⟩ | exact ⟨rfl, _, Eq.trans (World.drewN_drewN _ _ _) (congrArg (World.drewN _) (Nat.add_assoc _ _ _))⟩)) | (go_at_call 56; (try rw [← eL18]); (with_reducible refine (spec_l4Index.calls k2 _ _ (l1.take (x5_2 : Int).toNat) (rd l1 x5_2) t183 _ ?side1 ?side2 A15.out).mono ?_); (case side1 => repeat (first | exact (Kd.C_below HR181.out (by repeat (first | (with_reducible first | exact HB.out | apply below_alloc | apply pw_below_drewN | apply below_drew1) | exact HB.out))) | (with_reducible refine Kd.C_alloc ?_ _) | (with_reducible refine Kd.C_drewN ?_ _) | (with_reducible refine Kd.C_drew ?_))); (case side2 => exact HC181.out); rintro e w' ⟨rfl, ⟨nd, rfl⟩⟩; (try first | exact ⟨rfl, _, World.drewN_drewN _ _ _⟩ | exact ⟨rfl, _, Eq.trans (World.drewN_drewN _ _ _) (congrArg (World.drewN _) (Nat.add_assoc _ _ _))⟩))); try go_wp2_with (first | (go_at_call 55; (with_reducible refine (spec_l1In.calls (rd l1 x5_2) 0 (wrap64 ((l0.length : Int) - 1)) true _ A11.out).mono ?_); rintro e w' ⟨rfl, ⟨nd, rfl⟩⟩; (try first | exact ⟨rfl, _, World.drewN_drewN _ _ _⟩ | exact ⟨rfl, _, Eq.trans (World.drewN_drewN _ _ _) (congrArg (World.drewN _) (Nat.add_assoc _ _ _))⟩)) | (go_at_call 56; (try rw [← eL18]); (with_reducible refine (spec_l4Index.calls k2 _ _ (l1.take (x5_2 : Int).toNat) (rd l1 x5_2) t183 _ ?side1 ?side2 A15.out).mono ?_); (case side1 => repeat (first | exact (Kd.C_below HR181.out (by repeat (first | (with_reducible first | exact HB.out | apply below_alloc | apply pw_below_drewN | apply below_drew1) | exact HB.out))) | (with_reducible refine Kd.C_alloc ?_ _) | (with_reducible refine Kd.C_drewN ?_ _) | (with_reducible refine Kd.C_drew ?_))); (case side2 => exact HC181.out); rintro e w' ⟨rfl, ⟨nd, rfl⟩⟩; (try first | exact ⟨rfl, _, World.drewN_drewN _ _ _⟩ | exact ⟨rfl, _, Eq.trans (World.drewN_drewN _ _ _) (congrArg (World.drewN _) (Nat.add_assoc _ _ _))⟩))))
                      go_roundg k2
                      case measure => have := HJ2.out; have := HK2.out; omega
                      case rel => exact ⟨(wrap64 (x5_2 + 1)), (by first | rfl | (simp; done) | (simp [*]; done)), H', ⟨by have := HJ2.out; have := HK2.out; omega⟩, ⟨by repeat (first | (with_reducible first | exact HB.out | apply below_alloc | apply pw_below_drewN | apply below_drew1) | exact HB.out)⟩⟩
                  · rw [if_neg c14] at H
                    exact absurd H (by simp)
                · replace c12 := Bool.eq_false_iff.mpr c12
                  subst c12
                  have H1 : (some false) = some r := by rw [if_neg (show ¬ (false = true) by decide)] at H; exact H
                  clear H
                  have H := H1
                  clear H1
                  obtain rfl := Option.some.inj H
                  have p179 : 0 ≤ (x5_2 : Int) := of_decide_eq_true (by first | (with_reducible assumption) | assumption)
                  have q179 : x5_2 < (l1.length : Int) := of_decide_eq_true (by first | (with_reducible assumption) | assumption)
                  obtain ⟨ad179, e179, hx179_0⟩ := Kd.at_int HR1.out x5_2 p179 q179
                  cases e179
                  replace hx179_0 := (HB.out.cell (World.block_lt_of_cell? w _ hx179_0)).trans hx179_0
                  replace p179 := eq_true p179
                  replace q179 := eq_true q179
                  go_wp2_with (first | (go_at_call 55; (with_reducible refine (spec_l1In.calls (rd l1 x5_2) 0 (wrap64 ((l0.length : Int) - 1)) false _ A11.out).mono ?_); rintro e w' ⟨rfl, ⟨nd, rfl⟩⟩; (try first | exact ⟨rfl, _, World.drewN_drewN _ _ _⟩ | exact ⟨rfl, _, Eq.trans (World.drewN_drewN _ _ _) (congrArg (World.drewN _) (Nat.add_assoc _ _ _))⟩)))
                  repeat (go_quiet (first | (go_at_call 55; (with_reducible refine (spec_l1In.calls (rd l1 x5_2) 0 (wrap64 ((l0.length : Int) - 1)) false _ A11.out).mono ?_); rintro e w' ⟨rfl, ⟨nd, rfl⟩⟩; (try first | exact ⟨rfl, _, World.drewN_drewN _ _ _⟩ | exact ⟨rfl, _, Eq.trans (World.drewN_drewN _ _ _) (congrArg (World.drewN _) (Nat.add_assoc _ _ _))⟩))); try go_wp2_with (first | (go_at_call 55; (with_reducible refine (spec_l1In.calls (rd l1 x5_2) 0 (wrap64 ((l0.length : Int) - 1)) false _ A11.out).mono ?_); rintro e w' ⟨rfl, ⟨nd, rfl⟩⟩; (try first | exact ⟨rfl, _, World.drewN_drewN _ _ _⟩ | exact ⟨rfl, _, Eq.trans (World.drewN_drewN _ _ _) (congrArg (World.drewN _) (Nat.add_assoc _ _ _))⟩))))
                  go_ret
                  exact ⟨by first | rfl | (simp [errW_none, errW_some] <;> rfl) | (simp [*, errW_none, errW_some] <;> rfl), by repeat (first | (with_reducible first | exact HB.out | apply below_alloc | apply pw_below_drewN | apply below_drew1) | exact HB.out)⟩
              · rw [if_neg c10] at H
                exact absurd H (by simp)
            · rw [if_neg c9] at H
              have c9b0 : decide (x5_2 < (l1.length : Int)) = false := decide_eq_false c9
              clear c9
              obtain rfl := Option.some.inj H
              go_wp2
              repeat (go_quiet (fail); try go_wp2)
              go_ret
              exact ⟨by first | rfl | (simp [errW_none, errW_some] <;> rfl) | (simp [*, errW_none, errW_some] <;> rfl), by repeat (first | (with_reducible first | exact HB.out | apply below_alloc | apply pw_below_drewN | apply below_drew1) | exact HB.out)⟩

end Go.Proofs.Ytgcjadhmkhpbnaa.P
-- Laid by a program of this work.
namespace Go.Proofs.Ytgcjadhmkhpbnaa.P
open Go.RowKit Go.Proofs.YtgcjadhmkhpbnaaW.PrintWords Go.Proofs.YtgcjadhmkhpbnaaW.PrintLast Go.Proofs.YtgcjadhmkhpbnaaW.PrintMore
attribute [local go_sem] max2_int min2_int max_two min_two max_three min_three max_four min_four   -- for this text's walks alone
set_option linter.unusedVariables false
set_option linter.unusedSimpArgs false

/-! ### spec_BlockingTime: function 22 -/
mutual
def spec_BlockingTime.j0 : Nat → List (S56) → List Int → Int → Bool → Option (Int)
  | 0, _, _, _, _ => none
  | k + 1, x0, x1, x2, x20 => if x20 = true then (some (-1)) else ((spec_l4Index.f k x1 x2).bind fun t186 => (spec_BlockingTime.l0 k x0 x1 0 (wrap64 (t186 + 1))))
def spec_BlockingTime.l0 : Nat → List (S56) → List Int → Int → Int → Option (Int)
  | 0, _, _, _, _ => none
  | k + 1, x0, x1, x7, x8 => if x8 < (x1.length : Int) then (if 0 ≤ x8 then (if 0 ≤ (rd x1 x8) then (if (rd x1 x8) < (x0.length : Int) then (spec_BlockingTime.l0 k x0 x1 (mx x7 (wrap64 (((rd_T56 x0 (rd x1 x8)).f0) - 1))) (wrap64 (x8 + 1))) else (none)) else (none)) else (none)) else (some x7)
end
def spec_BlockingTime.f (k : Nat) (l0 : List (S56)) (l1 : List Int) (a2 : Int) : Option (Int) := (spec_OrderValid.f k l0 l1).bind fun t184 => (if t184 = true then ((spec_l1In.f a2 0 (wrap64 ((l0.length : Int) - 1))).bind fun t185 => (spec_BlockingTime.j0 k l0 l1 a2 (!t185))) else (spec_BlockingTime.j0 k l0 l1 a2 true))
theorem spec_BlockingTime.mono_l : ∀ k, (∀ y0 y1 y2 y3, LeO (spec_BlockingTime.j0 k y0 y1 y2 y3) (spec_BlockingTime.j0 (k + 1) y0 y1 y2 y3)) ∧ (∀ y0 y1 y2 y3, LeO (spec_BlockingTime.l0 k y0 y1 y2 y3) (spec_BlockingTime.l0 (k + 1) y0 y1 y2 y3))
  | 0 => ⟨fun _ _ _ _ r h => by simp [spec_BlockingTime.j0] at h, fun _ _ _ _ r h => by simp [spec_BlockingTime.l0] at h⟩
  | k + 1 => by
    obtain ⟨ih0, ih1⟩ := spec_BlockingTime.mono_l k
    refine ⟨?_, ?_⟩
    · intro y0 y1 y2 y3
      unfold spec_BlockingTime.j0
      repeat' first
      | (with_reducible exact ih0 _ _ _ _)
      | (with_reducible exact ih1 _ _ _ _)
      | (with_reducible exact spec_OrderValid.mono _ _ _)
      | (with_reducible exact spec_l4Index.mono _ _ _)
      | (with_reducible exact LeO.refl _)
      | (with_reducible exact LeO.none _)
      | (with_reducible refine LeO.ite ?_ ?_)
      | (with_reducible refine LeO.bind ?_ (fun _ => ?_))
      | exact ih0 _ _ _ _
      | exact ih1 _ _ _ _
      | exact spec_OrderValid.mono _ _ _
      | exact spec_l4Index.mono _ _ _
      | exact LeO.none _
      | refine LeO.ite ?_ ?_
      | refine LeO.bind ?_ (fun _ => ?_)
    · intro y0 y1 y2 y3
      unfold spec_BlockingTime.l0
      repeat' first
      | (with_reducible exact ih0 _ _ _ _)
      | (with_reducible exact ih1 _ _ _ _)
      | (with_reducible exact spec_OrderValid.mono _ _ _)
      | (with_reducible exact spec_l4Index.mono _ _ _)
      | (with_reducible exact LeO.refl _)
      | (with_reducible exact LeO.none _)
      | (with_reducible refine LeO.ite ?_ ?_)
      | (with_reducible refine LeO.bind ?_ (fun _ => ?_))
      | exact ih0 _ _ _ _
      | exact ih1 _ _ _ _
      | exact spec_OrderValid.mono _ _ _
      | exact spec_l4Index.mono _ _ _
      | exact LeO.none _
      | refine LeO.ite ?_ ?_
      | refine LeO.bind ?_ (fun _ => ?_)
theorem spec_BlockingTime.mono : ∀ a0 a1 a2 k, LeO (spec_BlockingTime.f k a0 a1 a2) (spec_BlockingTime.f (k + 1) a0 a1 a2) := by
  intro a0 a1 a2 k
  obtain ⟨ih0, ih1⟩ := spec_BlockingTime.mono_l k
  unfold spec_BlockingTime.f
  repeat' first
      | (with_reducible exact ih0 _ _ _ _)
      | (with_reducible exact ih1 _ _ _ _)
      | (with_reducible exact spec_OrderValid.mono _ _ _)
      | (with_reducible exact spec_l4Index.mono _ _ _)
      | (with_reducible exact LeO.refl _)
      | (with_reducible exact LeO.none _)
      | (with_reducible refine LeO.ite ?_ ?_)
      | (with_reducible refine LeO.bind ?_ (fun _ => ?_))
      | exact ih0 _ _ _ _
      | exact ih1 _ _ _ _
      | exact spec_OrderValid.mono _ _ _
      | exact spec_l4Index.mono _ _ _
      | exact LeO.none _
      | refine LeO.ite ?_ ?_
      | refine LeO.bind ?_ (fun _ => ?_)
set_option maxHeartbeats 8000000 in
set_option maxRecDepth 100000 in
theorem spec_BlockingTime.calls (k : Nat) (A0 : Option Addr) (c0 : Nat) (l0 : List (S56)) (A1 : Option Addr) (c1 : Nat) (l1 : List Int) (a2 : Int) (r : Int) (w : World) (hr0 : Kd.C k56 w A0 l0.length l0) (hc0 : l0.length ≤ c0) (hr1 : Kd.C (Kd.int .i64) w A1 l1.length l1) (hc1 : l1.length ≤ c1) (h : spec_BlockingTime.f k l0 l1 a2 = some r) :
    Calls Try.prog 22 #[.slice A0 l0.length c0, .slice A1 l1.length c1, .int .i64 a2] w fun e w' => e = .returned (.int .i64 r) ∧ Below w.heap.size w w' := by
  have HR0 := Aside0.mk hr0
  have HC0 := Aside0.mk hc0
  clear hr0 hc0
  have HR1 := Aside0.mk hr1
  have HC1 := Aside0.mk hc1
  clear hr1 hc1
  have HB := Aside0.mk (Below.refl w.heap.size w)
  have H : ((spec_OrderValid.f k l0 l1).bind fun t184 => (if t184 = true then ((spec_l1In.f a2 0 (wrap64 ((l0.length : Int) - 1))).bind fun t185 => (spec_BlockingTime.j0 k l0 l1 a2 (!t185))) else (spec_BlockingTime.j0 k l0 l1 a2 true))) = some r := h
  clear h
  have HC4 := Aside0.mk H
  clear H
  go_enter Try.func22, Try.ntmps22
  go_upto_region 1 with (fail)
  go_cut [20] (fun v20 wc => ∃ (kq : Nat) (x20_3 : Bool), v20 = .bool x20_3 ∧ Aside0 (spec_BlockingTime.j0 kq l0 l1 a2 x20_3 = some r) ∧ Aside0 (kq ≤ k) ∧ Aside0 (Below w.heap.size w wc))
  case first =>
    have H := HC4.out
    clear HC4
    replace H := Option.bind_eq_some_iff.mp H
    obtain ⟨t184, A50, H⟩ := H
    replace H : (if t184 = true then ((spec_l1In.f a2 0 (wrap64 ((l0.length : Int) - 1))).bind fun t185 => (spec_BlockingTime.j0 k l0 l1 a2 (!t185))) else (spec_BlockingTime.j0 k l0 l1 a2 true)) = some r := H
    have A5 := Aside0.mk A50
    clear A50
    by_cases c6 : t184 = true
    · subst c6
      have H1 : ((spec_l1In.f a2 0 (wrap64 ((l0.length : Int) - 1))).bind fun t185 => (spec_BlockingTime.j0 k l0 l1 a2 (!t185))) = some r := by rw [if_pos rfl] at H; exact H
      clear H
      have H := H1
      clear H1
      replace H := Option.bind_eq_some_iff.mp H
      obtain ⟨t185, A70, H⟩ := H
      replace H : (spec_BlockingTime.j0 k l0 l1 a2 (!t185)) = some r := H
      have A7 := Aside0.mk A70
      clear A70
      have H' := Aside0.mk H
      clear H
      go_wp2_with (first | ((with_reducible refine gate_callee (f := 27) rfl ?_); refine goesL_ (some 11) rfl rfl Try.func27 (by kernel_rfl) rfl #[.slice A0 l0.length c0, .slice A1 l1.length c1] rfl (by (try simp only [List.map_toArray, List.map_cons, List.map_nil]); first | done | rfl | (simp only [List.length_drop, List.length_take]; rfl)) ?_; (with_reducible refine (spec_OrderValid.calls k _ _ l0 _ _ l1 true _ ?side1 ?side2 ?side3 ?side4 A5.out).mono ?_); (case side1 => repeat (first | exact (Kd.C_below HR0.out HB.out) | (with_reducible refine Kd.C_alloc ?_ _) | (with_reducible refine Kd.C_drewN ?_ _) | (with_reducible refine Kd.C_drew ?_))); (case side2 => exact HC0.out); (case side3 => repeat (first | exact (Kd.C_below HR1.out HB.out) | (with_reducible refine Kd.C_alloc ?_ _) | (with_reducible refine Kd.C_drewN ?_ _) | (with_reducible refine Kd.C_drew ?_))); (case side4 => exact HC1.out); rintro e w8 ⟨rfl, hb⟩; refine ⟨_, rfl, ?_⟩; have n0_ := Aside0.mk (below_step (by repeat (first | (with_reducible first | exact HB.out | apply below_alloc | apply pw_below_drewN | apply below_drew1) | exact HB.out)) hb); clear HB; have HB := n0_; clear n0_; (try clear hb); (try clear hb2); (try clear hk); (try clear hi)) | (go_at_call 55; (with_reducible refine (spec_l1In.calls a2 0 (wrap64 ((l0.length : Int) - 1)) t185 _ A7.out).mono ?_); rintro e w' ⟨rfl, ⟨nd, rfl⟩⟩))
      go_meet
      case rel => exact ⟨_, (!t185), (by first | rfl | (simp; done) | (simp [*]; done)), H', ⟨by first | omega | exact Nat.le_refl _⟩, ⟨by repeat (first | (with_reducible first | exact HB.out | apply below_alloc | apply pw_below_drewN | apply below_drew1) | exact HB.out)⟩⟩
    · replace c6 := Bool.eq_false_iff.mpr c6
      subst c6
      have H1 : (spec_BlockingTime.j0 k l0 l1 a2 true) = some r := by rw [if_neg (show ¬ (false = true) by decide)] at H; exact H
      clear H
      have H := H1
      clear H1
      have H' := Aside0.mk H
      clear H
      go_wp2_with (first | ((with_reducible refine gate_callee (f := 27) rfl ?_); refine goesL_ (some 11) rfl rfl Try.func27 (by kernel_rfl) rfl #[.slice A0 l0.length c0, .slice A1 l1.length c1] rfl (by (try simp only [List.map_toArray, List.map_cons, List.map_nil]); first | done | rfl | (simp only [List.length_drop, List.length_take]; rfl)) ?_; (with_reducible refine (spec_OrderValid.calls k _ _ l0 _ _ l1 false _ ?side1 ?side2 ?side3 ?side4 A5.out).mono ?_); (case side1 => repeat (first | exact (Kd.C_below HR0.out HB.out) | (with_reducible refine Kd.C_alloc ?_ _) | (with_reducible refine Kd.C_drewN ?_ _) | (with_reducible refine Kd.C_drew ?_))); (case side2 => exact HC0.out); (case side3 => repeat (first | exact (Kd.C_below HR1.out HB.out) | (with_reducible refine Kd.C_alloc ?_ _) | (with_reducible refine Kd.C_drewN ?_ _) | (with_reducible refine Kd.C_drew ?_))); (case side4 => exact HC1.out); rintro e w9 ⟨rfl, hb⟩; refine ⟨_, rfl, ?_⟩; have n0_ := Aside0.mk (below_step (by repeat (first | (with_reducible first | exact HB.out | apply below_alloc | apply pw_below_drewN | apply below_drew1) | exact HB.out)) hb); clear HB; have HB := n0_; clear n0_; (try clear hb); (try clear hb2); (try clear hk); (try clear hi)))
      go_meet
      case rel => exact ⟨_, (true), (by first | rfl | (simp; done) | (simp [*]; done)), H', ⟨by first | omega | exact Nat.le_refl _⟩, ⟨by repeat (first | (with_reducible first | exact HB.out | apply below_alloc | apply pw_below_drewN | apply below_drew1) | exact HB.out)⟩⟩
  case rest =>
    clear HC4
    try clear c1
    try clear c2
    try clear p2
    try clear c6
    try clear p6
    obtain ⟨kq, x20_3, rfl, HA, HJ3, HB⟩ := hcut
    cases kq with
    | zero => exact absurd HA.out (by simp [spec_BlockingTime.j0])
    | succ kj3 =>
      have H := HA.out
      clear HA
      simp only [spec_BlockingTime.j0] at H
      by_cases c10 : x20_3 = true
      · subst c10
        have H1 : (some (-1)) = some r := by rw [if_pos rfl] at H; exact H
        clear H
        have H := H1
        clear H1
        obtain rfl := Option.some.inj H
        go_wp2
        go_ret
        exact ⟨by first | rfl | (simp [errW_none, errW_some] <;> rfl) | (simp [*, errW_none, errW_some] <;> rfl), by repeat (first | (with_reducible first | exact HB.out | apply below_alloc | apply pw_below_drewN | apply below_drew1) | exact HB.out)⟩
      · replace c10 := Bool.eq_false_iff.mpr c10
        subst c10
        have H1 : ((spec_l4Index.f kj3 l1 a2).bind fun t186 => (spec_BlockingTime.l0 kj3 l0 l1 0 (wrap64 (t186 + 1)))) = some r := by rw [if_neg (show ¬ (false = true) by decide)] at H; exact H
        clear H
        have H := H1
        clear H1
        replace H := Option.bind_eq_some_iff.mp H
        obtain ⟨t186, A110, H⟩ := H
        replace H : (spec_BlockingTime.l0 kj3 l0 l1 0 (wrap64 (t186 + 1))) = some r := H
        have A11 := Aside0.mk A110
        clear A110
        have H' := Aside0.mk H
        clear H
        go_wp2_with (first | ((with_reducible refine gate_callee (f := 56) rfl ?_); refine goesL_ (some 23) rfl rfl Try.func56 (by kernel_rfl) rfl #[.slice A1 l1.length c1, .int .i64 a2] rfl (by (try simp only [List.map_toArray, List.map_cons, List.map_nil]); first | done | rfl | (simp only [List.length_drop, List.length_take]; rfl)) ?_; (with_reducible refine (spec_l4Index.calls kj3 _ _ l1 a2 t186 _ ?side1 ?side2 A11.out).mono ?_); (case side1 => repeat (first | exact (Kd.C_below HR1.out HB.out) | (with_reducible refine Kd.C_alloc ?_ _) | (with_reducible refine Kd.C_drewN ?_ _) | (with_reducible refine Kd.C_drew ?_))); (case side2 => exact HC1.out); rintro e w' ⟨rfl, ⟨nd, rfl⟩⟩; refine ⟨_, rfl, ?_⟩))
        go_loopg [7, 8] kj3 (fun kq v7 v8 w' => ∃ (x7_2 : Int) (x8_2 : Int), v7 = .int .i64 x7_2 ∧ v8 = .int .i64 x8_2 ∧ Aside0 (spec_BlockingTime.l0 kq l0 l1 x7_2 x8_2 = some r) ∧ Aside0 (kq ≤ kj3) ∧ Aside0 (Below w.heap.size w w'))
        case atStart => exact ⟨(0), (wrap64 (t186 + 1)), (by first | rfl | (simp; done) | (simp [*]; done)), (by first | rfl | (simp; done) | (simp [*]; done)), H', ⟨Nat.le_refl _⟩, ⟨by repeat (first | (with_reducible first | exact HB.out | apply below_alloc | apply pw_below_drewN | apply below_drew1) | exact HB.out)⟩⟩
        case round =>
          clear H'
          try clear c1
          try clear c2
          try clear p2
          try clear c5
          try clear c6
          try clear p6
          try clear c10
          try clear p2
          try clear p6
          obtain ⟨x7_2, x8_2, rfl, rfl, HA, HK2, HB⟩ := hrel
          cases gk with
          | zero => exact absurd HA.out (by simp [spec_BlockingTime.l0])
          | succ k2 =>
            have H := HA.out
            clear HA
            simp only [spec_BlockingTime.l0] at H
            by_cases c12 : x8_2 < (l1.length : Int)
            · rw [if_pos c12] at H
              have c12b0 : decide (x8_2 < (l1.length : Int)) = true := decide_eq_true c12
              clear c12
              by_cases c13 : 0 ≤ x8_2
              · rw [if_pos c13] at H
                have c13b0 : decide (0 ≤ x8_2) = true := decide_eq_true c13
                clear c13
                by_cases c14 : 0 ≤ (rd l1 x8_2)
                · rw [if_pos c14] at H
                  have c14b0 : decide (0 ≤ (rd l1 x8_2)) = true := decide_eq_true c14
                  clear c14
                  by_cases c15 : (rd l1 x8_2) < (l0.length : Int)
                  · rw [if_pos c15] at H
                    have c15b0 : decide ((rd l1 x8_2) < (l0.length : Int)) = true := decide_eq_true c15
                    clear c15
                    obtain ⟨ji16, hji16⟩ : ∃ j_ : Int, (mx x7_2 (wrap64 (((rd_T56 l0 (rd l1 x8_2)).f0) - 1))) = j_ := ⟨_, rfl⟩
                    replace H : (spec_BlockingTime.l0 k2 l0 l1 ji16 (wrap64 (x8_2 + 1))) = some r := by first | (rw [hji16] at H; exact H) | (simp only [hji16] at H ⊢; exact H)
                    have hji16_ : (if x7_2 < (wrap64 (((rd_T56 l0 (rd l1 x8_2)).f0) - 1)) then (wrap64 (((rd_T56 l0 (rd l1 x8_2)).f0) - 1)) else x7_2) = ji16 := hji16
                    have H' := Aside0.mk H
                    clear H
                    have p187 : 0 ≤ (x8_2 : Int) := of_decide_eq_true (by first | (with_reducible assumption) | assumption)
                    have q187 : x8_2 < (l1.length : Int) := of_decide_eq_true (by first | (with_reducible assumption) | assumption)
                    obtain ⟨ad187, e187, hx187_0⟩ := Kd.at_int HR1.out x8_2 p187 q187
                    cases e187
                    replace hx187_0 := (HB.out.cell (World.block_lt_of_cell? w _ hx187_0)).trans hx187_0
                    replace p187 := eq_true p187
                    replace q187 := eq_true q187
                    have p188 : 0 ≤ ((rd l1 x8_2) : Int) := of_decide_eq_true (by first | (with_reducible assumption) | assumption)
                    have q188 : (rd l1 x8_2) < (l0.length : Int) := of_decide_eq_true (by first | (with_reducible assumption) | assumption)
                    obtain ⟨ad188, e188, hx188_0, hx188_1, hx188_2⟩ := at_T56 HR0.out (rd l1 x8_2) p188 q188
                    cases e188
                    replace hx188_0 := (HB.out.cell (World.block_lt_of_cell? w _ hx188_0)).trans hx188_0
                    replace hx188_1 := (HB.out.cell (World.block_lt_of_cell? w _ hx188_1)).trans hx188_1
                    replace hx188_2 := (HB.out.cell (World.block_lt_of_cell? w _ hx188_2)).trans hx188_2
                    replace p188 := eq_true p188
                    replace q188 := eq_true q188
                    go_wp2
                    go_roundg k2
                    case measure => have := HJ3.out; have := HK2.out; omega
                    case rel => exact ⟨(ji16), (wrap64 (x8_2 + 1)), (by first | rfl | (simp; done) | (simp only [← hji16] <;> (first | rfl | simp)) | (simp [*]; done)), (by first | rfl | (simp; done) | (simp [*]; done)), H', ⟨by have := HJ3.out; have := HK2.out; omega⟩, ⟨by repeat (first | (with_reducible first | exact HB.out | apply below_alloc | apply pw_below_drewN | apply below_drew1) | exact HB.out)⟩⟩
                  · rw [if_neg c15] at H
                    exact absurd H (by simp)
                · rw [if_neg c14] at H
                  exact absurd H (by simp)
              · rw [if_neg c13] at H
                exact absurd H (by simp)
            · rw [if_neg c12] at H
              have c12b0 : decide (x8_2 < (l1.length : Int)) = false := decide_eq_false c12
              clear c12
              obtain rfl := Option.some.inj H
              go_wp2
              go_ret
              exact ⟨by first | rfl | (simp [errW_none, errW_some] <;> rfl) | (simp [*, errW_none, errW_some] <;> rfl), by repeat (first | (with_reducible first | exact HB.out | apply below_alloc | apply pw_below_drewN | apply below_drew1) | exact HB.out)⟩

end Go.Proofs.Ytgcjadhmkhpbnaa.P
-- Laid by a program of this work.
namespace Go.Proofs.Ytgcjadhmkhpbnaa.P
open Go.RowKit Go.Proofs.YtgcjadhmkhpbnaaW.PrintWords Go.Proofs.YtgcjadhmkhpbnaaW.PrintLast Go.Proofs.YtgcjadhmkhpbnaaW.PrintMore
attribute [local go_sem] max2_int min2_int max_two min_two max_three min_three max_four min_four   -- for this text's walks alone
set_option linter.unusedVariables false
set_option linter.unusedSimpArgs false

/-! ### impl_BlockingTime: function 24 -/
mutual
def impl_BlockingTime.j0 : Nat → List (S56) → List Int → Int → Bool → Option (Int)
  | 0, _, _, _, _ => none
  | k + 1, x0, x1, x2, x22 => if x22 = true then (some (-1)) else (impl_BlockingTime.l0 k x0 x2 0 false x1 (x1.length : Int) 0)
def impl_BlockingTime.l0 : Nat → List (S56) → Int → Int → Bool → List Int → Int → Int → Option (Int)
  | 0, _, _, _, _, _, _, _ => none
  | k + 1, x0, x2, x7, x8, x23, x24, x25 => if x25 < x24 then (if 0 ≤ x25 then (if x25 < (x23.length : Int) then (if x8 = true then (if 0 ≤ (rd x23 x25) then (if (rd x23 x25) < (x0.length : Int) then (impl_BlockingTime.l0 k x0 x2 (mx x7 (wrap64 (((rd_T56 x0 (rd x23 x25)).f0) - 1))) true x23 x24 (wrap64 (x25 + 1))) else (none)) else (none)) else (impl_BlockingTime.l0 k x0 x2 x7 ((rd x23 x25) == x2) x23 x24 (wrap64 (x25 + 1)))) else (none)) else (none)) else (some x7)
end
def impl_BlockingTime.f (k : Nat) (l0 : List (S56)) (l1 : List Int) (a2 : Int) : Option (Int) := (impl_OrderValid.f k l0 l1).bind fun t199 => (if t199 = true then ((impl_in.f a2 0 (wrap64 ((l0.length : Int) - 1))).bind fun t200 => (impl_BlockingTime.j0 k l0 l1 a2 (!t200))) else (impl_BlockingTime.j0 k l0 l1 a2 true))
theorem impl_BlockingTime.mono_l : ∀ k, (∀ y0 y1 y2 y3, LeO (impl_BlockingTime.j0 k y0 y1 y2 y3) (impl_BlockingTime.j0 (k + 1) y0 y1 y2 y3)) ∧ (∀ y0 y1 y2 y3 y4 y5 y6, LeO (impl_BlockingTime.l0 k y0 y1 y2 y3 y4 y5 y6) (impl_BlockingTime.l0 (k + 1) y0 y1 y2 y3 y4 y5 y6))
  | 0 => ⟨fun _ _ _ _ r h => by simp [impl_BlockingTime.j0] at h, fun _ _ _ _ _ _ _ r h => by simp [impl_BlockingTime.l0] at h⟩
  | k + 1 => by
    obtain ⟨ih0, ih1⟩ := impl_BlockingTime.mono_l k
    refine ⟨?_, ?_⟩
    · intro y0 y1 y2 y3
      unfold impl_BlockingTime.j0
      repeat' first
      | (with_reducible exact ih0 _ _ _ _)
      | (with_reducible exact ih1 _ _ _ _ _ _ _)
      | (with_reducible exact impl_OrderValid.mono _ _ _)
      | (with_reducible exact LeO.refl _)
      | (with_reducible exact LeO.none _)
      | (with_reducible refine LeO.ite ?_ ?_)
      | (with_reducible refine LeO.bind ?_ (fun _ => ?_))
      | exact ih0 _ _ _ _
      | exact ih1 _ _ _ _ _ _ _
      | exact impl_OrderValid.mono _ _ _
      | exact LeO.none _
      | refine LeO.ite ?_ ?_
      | refine LeO.bind ?_ (fun _ => ?_)
    · intro y0 y1 y2 y3 y4 y5 y6
      unfold impl_BlockingTime.l0
      repeat' first
      | (with_reducible exact ih0 _ _ _ _)
      | (with_reducible exact ih1 _ _ _ _ _ _ _)
      | (with_reducible exact impl_OrderValid.mono _ _ _)
      | (with_reducible exact LeO.refl _)
      | (with_reducible exact LeO.none _)
      | (with_reducible refine LeO.ite ?_ ?_)
      | (with_reducible refine LeO.bind ?_ (fun _ => ?_))
      | exact ih0 _ _ _ _
      | exact ih1 _ _ _ _ _ _ _
      | exact impl_OrderValid.mono _ _ _
      | exact LeO.none _
      | refine LeO.ite ?_ ?_
      | refine LeO.bind ?_ (fun _ => ?_)
theorem impl_BlockingTime.mono : ∀ a0 a1 a2 k, LeO (impl_BlockingTime.f k a0 a1 a2) (impl_BlockingTime.f (k + 1) a0 a1 a2) := by
  intro a0 a1 a2 k
  obtain ⟨ih0, ih1⟩ := impl_BlockingTime.mono_l k
  unfold impl_BlockingTime.f
  repeat' first
      | (with_reducible exact ih0 _ _ _ _)
      | (with_reducible exact ih1 _ _ _ _ _ _ _)
      | (with_reducible exact impl_OrderValid.mono _ _ _)
      | (with_reducible exact LeO.refl _)
      | (with_reducible exact LeO.none _)
      | (with_reducible refine LeO.ite ?_ ?_)
      | (with_reducible refine LeO.bind ?_ (fun _ => ?_))
      | exact ih0 _ _ _ _
      | exact ih1 _ _ _ _ _ _ _
      | exact impl_OrderValid.mono _ _ _
      | exact LeO.none _
      | refine LeO.ite ?_ ?_
      | refine LeO.bind ?_ (fun _ => ?_)
set_option maxHeartbeats 8000000 in
set_option maxRecDepth 100000 in
theorem impl_BlockingTime.calls (k : Nat) (A0 : Option Addr) (c0 : Nat) (l0 : List (S56)) (A1 : Option Addr) (c1 : Nat) (l1 : List Int) (a2 : Int) (r : Int) (w : World) (hr0 : Kd.C k56 w A0 l0.length l0) (hc0 : l0.length ≤ c0) (hr1 : Kd.C (Kd.int .i64) w A1 l1.length l1) (hc1 : l1.length ≤ c1) (h : impl_BlockingTime.f k l0 l1 a2 = some r) :
    Calls Try.prog 24 #[.slice A0 l0.length c0, .slice A1 l1.length c1, .int .i64 a2] w fun e w' => e = .returned (.int .i64 r) ∧ Below w.heap.size w w' := by
  have HR0 := Aside0.mk hr0
  have HC0 := Aside0.mk hc0
  clear hr0 hc0
  have HR1 := Aside0.mk hr1
  have HC1 := Aside0.mk hc1
  clear hr1 hc1
  have HB := Aside0.mk (Below.refl w.heap.size w)
  have H : ((impl_OrderValid.f k l0 l1).bind fun t199 => (if t199 = true then ((impl_in.f a2 0 (wrap64 ((l0.length : Int) - 1))).bind fun t200 => (impl_BlockingTime.j0 k l0 l1 a2 (!t200))) else (impl_BlockingTime.j0 k l0 l1 a2 true))) = some r := h
  clear h
  have HC4 := Aside0.mk H
  clear H
  go_enter Try.func24, Try.ntmps24
  go_upto_region 1 with (fail)
  go_cut [22] (fun v22 wc => ∃ (kq : Nat) (x22_3 : Bool), v22 = .bool x22_3 ∧ Aside0 (impl_BlockingTime.j0 kq l0 l1 a2 x22_3 = some r) ∧ Aside0 (kq ≤ k) ∧ Aside0 (Below w.heap.size w wc))
  case first =>
    have H := HC4.out
    clear HC4
    replace H := Option.bind_eq_some_iff.mp H
    obtain ⟨t199, A50, H⟩ := H
    replace H : (if t199 = true then ((impl_in.f a2 0 (wrap64 ((l0.length : Int) - 1))).bind fun t200 => (impl_BlockingTime.j0 k l0 l1 a2 (!t200))) else (impl_BlockingTime.j0 k l0 l1 a2 true)) = some r := H
    have A5 := Aside0.mk A50
    clear A50
    by_cases c6 : t199 = true
    · subst c6
      have H1 : ((impl_in.f a2 0 (wrap64 ((l0.length : Int) - 1))).bind fun t200 => (impl_BlockingTime.j0 k l0 l1 a2 (!t200))) = some r := by rw [if_pos rfl] at H; exact H
      clear H
      have H := H1
      clear H1
      replace H := Option.bind_eq_some_iff.mp H
      obtain ⟨t200, A70, H⟩ := H
      replace H : (impl_BlockingTime.j0 k l0 l1 a2 (!t200)) = some r := H
      have A7 := Aside0.mk A70
      clear A70
      have H' := Aside0.mk H
      clear H
      go_wp2_with (first | ((with_reducible refine gate_callee (f := 57) rfl ?_); refine goesL_ (some 13) rfl rfl Try.func57 (by kernel_rfl) rfl #[.slice A0 l0.length c0, .slice A1 l1.length c1] rfl (by (try simp only [List.map_toArray, List.map_cons, List.map_nil]); first | done | rfl | (simp only [List.length_drop, List.length_take]; rfl)) ?_; (with_reducible refine (impl_OrderValid.calls k _ _ l0 _ _ l1 true _ ?side1 ?side2 ?side3 ?side4 A5.out).mono ?_); (case side1 => repeat (first | exact (Kd.C_below HR0.out HB.out) | (with_reducible refine Kd.C_alloc ?_ _) | (with_reducible refine Kd.C_drewN ?_ _) | (with_reducible refine Kd.C_drew ?_))); (case side2 => exact HC0.out); (case side3 => repeat (first | exact (Kd.C_below HR1.out HB.out) | (with_reducible refine Kd.C_alloc ?_ _) | (with_reducible refine Kd.C_drewN ?_ _) | (with_reducible refine Kd.C_drew ?_))); (case side4 => exact HC1.out); rintro e w8 ⟨rfl, hb⟩; refine ⟨_, rfl, ?_⟩; have n0_ := Aside0.mk (below_step (by repeat (first | (with_reducible first | exact HB.out | apply below_alloc | apply pw_below_drewN | apply below_drew1) | exact HB.out)) hb); clear HB; have HB := n0_; clear n0_; (try clear hb); (try clear hb2); (try clear hk); (try clear hi)) | (go_at_call 58; (with_reducible refine (impl_in.calls a2 0 (wrap64 ((l0.length : Int) - 1)) t200 _ A7.out).mono ?_); rintro e w' ⟨rfl, ⟨nd, rfl⟩⟩))
      go_meet
      case rel => exact ⟨_, (!t200), (by first | rfl | (simp; done) | (simp [*]; done)), H', ⟨by first | omega | exact Nat.le_refl _⟩, ⟨by repeat (first | (with_reducible first | exact HB.out | apply below_alloc | apply pw_below_drewN | apply below_drew1) | exact HB.out)⟩⟩
    · replace c6 := Bool.eq_false_iff.mpr c6
      subst c6
      have H1 : (impl_BlockingTime.j0 k l0 l1 a2 true) = some r := by rw [if_neg (show ¬ (false = true) by decide)] at H; exact H
      clear H
      have H := H1
      clear H1
      have H' := Aside0.mk H
      clear H
      go_wp2_with (first | ((with_reducible refine gate_callee (f := 57) rfl ?_); refine goesL_ (some 13) rfl rfl Try.func57 (by kernel_rfl) rfl #[.slice A0 l0.length c0, .slice A1 l1.length c1] rfl (by (try simp only [List.map_toArray, List.map_cons, List.map_nil]); first | done | rfl | (simp only [List.length_drop, List.length_take]; rfl)) ?_; (with_reducible refine (impl_OrderValid.calls k _ _ l0 _ _ l1 false _ ?side1 ?side2 ?side3 ?side4 A5.out).mono ?_); (case side1 => repeat (first | exact (Kd.C_below HR0.out HB.out) | (with_reducible refine Kd.C_alloc ?_ _) | (with_reducible refine Kd.C_drewN ?_ _) | (with_reducible refine Kd.C_drew ?_))); (case side2 => exact HC0.out); (case side3 => repeat (first | exact (Kd.C_below HR1.out HB.out) | (with_reducible refine Kd.C_alloc ?_ _) | (with_reducible refine Kd.C_drewN ?_ _) | (with_reducible refine Kd.C_drew ?_))); (case side4 => exact HC1.out); rintro e w9 ⟨rfl, hb⟩; refine ⟨_, rfl, ?_⟩; have n0_ := Aside0.mk (below_step (by repeat (first | (with_reducible first | exact HB.out | apply below_alloc | apply pw_below_drewN | apply below_drew1) | exact HB.out)) hb); clear HB; have HB := n0_; clear n0_; (try clear hb); (try clear hb2); (try clear hk); (try clear hi)))
      go_meet
      case rel => exact ⟨_, (true), (by first | rfl | (simp; done) | (simp [*]; done)), H', ⟨by first | omega | exact Nat.le_refl _⟩, ⟨by repeat (first | (with_reducible first | exact HB.out | apply below_alloc | apply pw_below_drewN | apply below_drew1) | exact HB.out)⟩⟩
  case rest =>
    clear HC4
    try clear c1
    try clear c2
    try clear p2
    try clear c5
    try clear c6
    try clear p6
    obtain ⟨kq, x22_3, rfl, HA, HJ3, HB⟩ := hcut
    cases kq with
    | zero => exact absurd HA.out (by simp [impl_BlockingTime.j0])
    | succ kj3 =>
      have H := HA.out
      clear HA
      simp only [impl_BlockingTime.j0] at H
      by_cases c10 : x22_3 = true
      · subst c10
        have H1 : (some (-1)) = some r := by rw [if_pos rfl] at H; exact H
        clear H
        have H := H1
        clear H1
        obtain rfl := Option.some.inj H
        go_wp2
        go_ret
        exact ⟨by first | rfl | (simp [errW_none, errW_some] <;> rfl) | (simp [*, errW_none, errW_some] <;> rfl), by repeat (first | (with_reducible first | exact HB.out | apply below_alloc | apply pw_below_drewN | apply below_drew1) | exact HB.out)⟩
      · replace c10 := Bool.eq_false_iff.mpr c10
        subst c10
        have H1 : (impl_BlockingTime.l0 kj3 l0 a2 0 false l1 (l1.length : Int) 0) = some r := by rw [if_neg (show ¬ (false = true) by decide)] at H; exact H
        clear H
        have H := H1
        clear H1
        have H' := Aside0.mk H
        clear H
        go_wp2
        go_loopg [7, 8, 25] kj3 (fun kq v7 v8 v25 w' => ∃ (x7_2 : Int) (x8_2 : Bool) (x25_2 : Int), v7 = .int .i64 x7_2 ∧ v8 = .bool x8_2 ∧ v25 = .int .i64 x25_2 ∧ Aside0 (impl_BlockingTime.l0 kq l0 a2 x7_2 x8_2 l1 (l1.length : Int) x25_2 = some r) ∧ Aside0 (kq ≤ kj3) ∧ Aside0 (Below w.heap.size w w'))
        case atStart => exact ⟨(0), (false), (0), (by first | rfl | (simp; done) | (simp [*]; done)), (by first | rfl | (simp; done) | (simp [*]; done)), (by first | rfl | (simp; done) | (simp [*]; done)), H', ⟨Nat.le_refl _⟩, ⟨by repeat (first | (with_reducible first | exact HB.out | apply below_alloc | apply pw_below_drewN | apply below_drew1) | exact HB.out)⟩⟩
        case round =>
          clear H'
          try clear c1
          try clear c2
          try clear p2
          try clear c5
          try clear c6
          try clear p6
          try clear c10
          try clear p2
          try clear p6
          obtain ⟨x7_2, x8_2, x25_2, rfl, rfl, rfl, HA, HK2, HB⟩ := hrel
          cases gk with
          | zero => exact absurd HA.out (by simp [impl_BlockingTime.l0])
          | succ k2 =>
            have H := HA.out
            clear HA
            simp only [impl_BlockingTime.l0] at H
            by_cases c11 : x25_2 < (l1.length : Int)
            · rw [if_pos c11] at H
              have c11b0 : decide (x25_2 < (l1.length : Int)) = true := decide_eq_true c11
              clear c11
              by_cases c12 : 0 ≤ x25_2
              · rw [if_pos c12] at H
                have c12b0 : decide (0 ≤ x25_2) = true := decide_eq_true c12
                clear c12
                by_cases c13 : x25_2 < (l1.length : Int)
                · rw [if_pos c13] at H
                  have c13b0 : decide (x25_2 < (l1.length : Int)) = true := decide_eq_true c13
                  clear c13
                  by_cases c14 : x8_2 = true
                  · subst c14
                    have H1 : (if 0 ≤ (rd l1 x25_2) then (if (rd l1 x25_2) < (l0.length : Int) then (impl_BlockingTime.l0 k2 l0 a2 (mx x7_2 (wrap64 (((rd_T56 l0 (rd l1 x25_2)).f0) - 1))) true l1 (l1.length : Int) (wrap64 (x25_2 + 1))) else (none)) else (none)) = some r := by rw [if_pos rfl] at H; exact H
                    clear H
                    have H := H1
                    clear H1
                    by_cases c15 : 0 ≤ (rd l1 x25_2)
                    · rw [if_pos c15] at H
                      have c15b0 : decide (0 ≤ (rd l1 x25_2)) = true := decide_eq_true c15
                      clear c15
                      by_cases c16 : (rd l1 x25_2) < (l0.length : Int)
                      · rw [if_pos c16] at H
                        have c16b0 : decide ((rd l1 x25_2) < (l0.length : Int)) = true := decide_eq_true c16
                        clear c16
                        obtain ⟨ji17, hji17⟩ : ∃ j_ : Int, (mx x7_2 (wrap64 (((rd_T56 l0 (rd l1 x25_2)).f0) - 1))) = j_ := ⟨_, rfl⟩
                        replace H : (impl_BlockingTime.l0 k2 l0 a2 ji17 true l1 (l1.length : Int) (wrap64 (x25_2 + 1))) = some r := by first | (rw [hji17] at H; exact H) | (simp only [hji17] at H ⊢; exact H)
                        have hji17_ : (if x7_2 < (wrap64 (((rd_T56 l0 (rd l1 x25_2)).f0) - 1)) then (wrap64 (((rd_T56 l0 (rd l1 x25_2)).f0) - 1)) else x7_2) = ji17 := hji17
                        have H' := Aside0.mk H
                        clear H
                        have p201 : 0 ≤ (x25_2 : Int) := of_decide_eq_true (by first | (with_reducible assumption) | assumption)
                        have q201 : x25_2 < (l1.length : Int) := of_decide_eq_true (by first | (with_reducible assumption) | assumption)
                        obtain ⟨ad201, e201, hx201_0⟩ := Kd.at_int HR1.out x25_2 p201 q201
                        cases e201
                        replace hx201_0 := (HB.out.cell (World.block_lt_of_cell? w _ hx201_0)).trans hx201_0
                        replace p201 := eq_true p201
                        replace q201 := eq_true q201
                        have p202 : 0 ≤ ((rd l1 x25_2) : Int) := of_decide_eq_true (by first | (with_reducible assumption) | assumption)
                        have q202 : (rd l1 x25_2) < (l0.length : Int) := of_decide_eq_true (by first | (with_reducible assumption) | assumption)
                        obtain ⟨ad202, e202, hx202_0, hx202_1, hx202_2⟩ := at_T56 HR0.out (rd l1 x25_2) p202 q202
                        cases e202
                        replace hx202_0 := (HB.out.cell (World.block_lt_of_cell? w _ hx202_0)).trans hx202_0
                        replace hx202_1 := (HB.out.cell (World.block_lt_of_cell? w _ hx202_1)).trans hx202_1
                        replace hx202_2 := (HB.out.cell (World.block_lt_of_cell? w _ hx202_2)).trans hx202_2
                        replace p202 := eq_true p202
                        replace q202 := eq_true q202
                        go_wp2
                        go_roundg k2
                        case measure => have := HJ3.out; have := HK2.out; omega
                        case rel => exact ⟨(ji17), (true), (wrap64 (x25_2 + 1)), (by first | rfl | (simp; done) | (simp only [← hji17] <;> (first | rfl | simp)) | (simp [*]; done)), (by first | rfl | (simp; done) | (simp [*]; done)), (by first | rfl | (simp; done) | (simp [*]; done)), H', ⟨by have := HJ3.out; have := HK2.out; omega⟩, ⟨by repeat (first | (with_reducible first | exact HB.out | apply below_alloc | apply pw_below_drewN | apply below_drew1) | exact HB.out)⟩⟩
                      · rw [if_neg c16] at H
                        exact absurd H (by simp)
                    · rw [if_neg c15] at H
                      exact absurd H (by simp)
                  · replace c14 := Bool.eq_false_iff.mpr c14
                    subst c14
                    have H1 : (impl_BlockingTime.l0 k2 l0 a2 x7_2 ((rd l1 x25_2) == a2) l1 (l1.length : Int) (wrap64 (x25_2 + 1))) = some r := by rw [if_neg (show ¬ (false = true) by decide)] at H; exact H
                    clear H
                    have H := H1
                    clear H1
                    have H' := Aside0.mk H
                    clear H
                    have p201 : 0 ≤ (x25_2 : Int) := of_decide_eq_true (by first | (with_reducible assumption) | assumption)
                    have q201 : x25_2 < (l1.length : Int) := of_decide_eq_true (by first | (with_reducible assumption) | assumption)
                    obtain ⟨ad201, e201, hx201_0⟩ := Kd.at_int HR1.out x25_2 p201 q201
                    cases e201
                    replace hx201_0 := (HB.out.cell (World.block_lt_of_cell? w _ hx201_0)).trans hx201_0
                    replace p201 := eq_true p201
                    replace q201 := eq_true q201
                    go_wp2
                    go_roundg k2
                    case measure => have := HJ3.out; have := HK2.out; omega
                    case rel => exact ⟨(x7_2), (((rd l1 x25_2) == a2)), (wrap64 (x25_2 + 1)), (by first | rfl | (simp; done) | (simp [*]; done)), (by first | rfl | (simp; done) | (simp [*]; done)), (by first | rfl | (simp; done) | (simp [*]; done)), H', ⟨by have := HJ3.out; have := HK2.out; omega⟩, ⟨by repeat (first | (with_reducible first | exact HB.out | apply below_alloc | apply pw_below_drewN | apply below_drew1) | exact HB.out)⟩⟩
                · rw [if_neg c13] at H
                  exact absurd H (by simp)
              · rw [if_neg c12] at H
                exact absurd H (by simp)
            · rw [if_neg c11] at H
              have c11b0 : decide (x25_2 < (l1.length : Int)) = false := decide_eq_false c11
              clear c11
              obtain rfl := Option.some.inj H
              go_wp2
              go_ret
              exact ⟨by first | rfl | (simp [errW_none, errW_some] <;> rfl) | (simp [*, errW_none, errW_some] <;> rfl), by repeat (first | (with_reducible first | exact HB.out | apply below_alloc | apply pw_below_drewN | apply below_drew1) | exact HB.out)⟩

end Go.Proofs.Ytgcjadhmkhpbnaa.P
/- BlockingTime and the validity of an order, of the program and of the reference, as plain functions. Condition: the rows are not too long. -/
namespace Go.Proofs.Ytgcjadhmkhpbnaa.Bt
open Go.RowKit Go.Proofs.Ytgcjadhmkhpbnaa.P Go.Proofs.Ytgcjadhmkhpbnaa.Base Go.Proofs.Ytgcjadhmkhpbnaa.Gen Go.Proofs.Ytgcjadhmkhpbnaa.Alive Go.Proofs.Ytgcjadhmkhpbnaa.Set Go.Proofs.Ytgcjadhmkhpbnaa.Tm Go.Proofs.YtgcjadhmkhpbnaaW.PrintWords Go.Proofs.YtgcjadhmkhpbnaaW.PrintLast
/-- The order's entries up to a place are tasks, all different. -/
def Upto (n : Nat) (o : List Int) (i : Nat) : Prop := ∀ a (h : a < o.length), a < i → (0 ≤ o[a] ∧ o[a] < (n : Int)) ∧ ∀ b (hb : b < a), o[b] ≠ o[a]
def OV (l : List Task) (o : List Int) : Prop := SetOk l ∧ o.length = l.length ∧ Upto l.length o o.length
noncomputable instance (l : List Task) (o : List Int) : Decidable (OV l o) := Classical.propDecidable _
theorem upto_next {n : Nat} {o : List Int} {i : Nat} (hi : i < o.length) (h : Upto n o i) (h1 : 0 ≤ o[i] ∧ o[i] < (n : Int)) (h2 : ∀ b (hb : b < i), o[b] ≠ o[i]) : Upto n o (i + 1) := by
  intro a ha hai
  by_cases e : a = i
  · subst e; exact ⟨h1, h2⟩
  · exact h a ha (by omega)
/-- slices.Index: the first place, or -1. -/
theorem idx_tot (o : List Int) (v : Int) (ho : o.length ≤ 2097152) : Tot (fun k => slices_Index_int_int.f k o v) (fun r => (r = -1 ∧ ∀ a (h : a < o.length), o[a] ≠ v) ∨ ∃ a : Nat, ∃ h : a < o.length, r = (a : Int) ∧ o[a] = v ∧ ∀ b (hb : b < a), o[b] ≠ v) := by
  have loop : ∀ d i, i + d = o.length → (∀ a (h : a < o.length), a < i → o[a] ≠ v) → Tot (fun k => slices_Index_int_int.l0 k o v (o.length : Int) (i : Int)) (fun r => (r = -1 ∧ ∀ a (h : a < o.length), o[a] ≠ v) ∨ ∃ a : Nat, ∃ h : a < o.length, r = (a : Int) ∧ o[a] = v ∧ ∀ b (hb : b < a), o[b] ≠ v) := by
    intro d
    induction d with
    | zero =>
      intro i hi hm
      exact Tot.step (fun k => by rw [slices_Index_int_int.l0]) (Tot.no (by omega) (Tot.ret _ (Or.inl ⟨rfl, fun a ha => hm a ha (by omega)⟩)))
    | succ d ih =>
      intro i hi hm
      have hil : i < o.length := by omega
      refine Tot.step (fun k => by rw [slices_Index_int_int.l0]) (Tot.yes (by omega) (Tot.yes (by omega) (Tot.yes (by omega) ?_)))
      rw [rd_at o i hil, w64 (by omega) (by omega)]
      refine Tot.ite (fun h => Tot.ret _ (Or.inr ⟨i, hil, rfl, h.symm, fun b hb => hm b (by omega) hb⟩)) (fun h => ih (i + 1) (by omega) (fun a ha hai => ?_))
      by_cases e : a = i
      · subst e; exact fun h' => h h'.symm
      · exact hm a ha (by omega)
  exact loop o.length 0 (by omega) (fun a _ h => by omega)
theorem impl_ov (l : List Task) (o : List Int) (hl : l.length ≤ 2097152) (ho : o.length ≤ 2097152) : Tot (fun k => impl_OrderValid.f k l o) (fun r => r = decide (OV l o)) := by
  have loop : ∀ d i, i + d = o.length → Upto l.length o i → Tot (fun k => impl_OrderValid.l0 k l o o (o.length : Int) (i : Int)) (fun r => r = decide (OV l o)) := by
    intro d
    induction d with
    | zero =>
      intro i hi hm
      obtain rfl : i = o.length := by omega
      refine Tot.step (fun k => by rw [impl_OrderValid.l0]) (Tot.no (by omega) ?_)
      refine Tot.bind0 (set_f l) (Tot.ite (fun hs => Tot.ret _ ?_) (fun hs => Tot.ret _ (decide_eq_false (fun h : OV l o => hs (decide_eq_true h.1))).symm))
      rw [Bool.eq_iff_iff]
      simp only [beq_iff_eq, decide_eq_true_eq]
      exact ⟨fun h => ⟨of_decide_eq_true hs, by omega, hm⟩, fun h => by have := h.2.1; omega⟩
    | succ d ih =>
      intro i hi hm
      have hil : i < o.length := by omega
      refine Tot.step (fun k => by rw [impl_OrderValid.l0]) (Tot.yes (by omega) (Tot.yes (by omega) (Tot.yes (by omega) ?_)))
      rw [rd_at o i hil, w64 (x := (l.length : Int) - 1) (by omega) (by omega), w64 (x := (i : Int) + 1) (by omega) (by omega)]
      refine Tot.bind0 (in_f _ _ _) (Tot.ite (fun h1 => ?_) (fun h1 => Tot.ret _ (decide_eq_false (fun h : OV l o => h1 (decide_eq_true (by have := (h.2.2 i hil (by omega)).1; omega)))).symm))
      have h1 := of_decide_eq_true h1
      refine Tot.bind (idx_tot o o[i] ho) ?_
      rintro r (⟨rfl, hr⟩ | ⟨a, ha, rfl, hr, hr2⟩)
      · exact absurd rfl (hr i hil)
      · refine Tot.ite (fun h => ih (i + 1) (by omega) (upto_next hil hm (by omega) ?_)) (fun h => Tot.ret _ (decide_eq_false (fun h' : OV l o => ?_)).symm)
        · obtain rfl : a = i := by omega
          exact hr2
        · rcases Nat.lt_or_ge a i with h2 | h2
          · exact (h'.2.2 i hil (by omega)).2 a h2 hr
          · exact hr2 i (by omega) rfl
  exact loop o.length 0 (by omega) (fun a _ h => by omega)
/-- The largest cost below, less 1. -/
def cost (l : List Task) (t : Int) : Int := (rd_T56 l t).f0
def blk (l : List Task) (r : List Int) (b : Int) : Int := r.foldl (fun b t => max b (cost l t - 1)) b
def BT (l : List Task) (o : List Int) (i : Int) : Prop := OV l o ∧ 0 ≤ i ∧ i < (l.length : Int)
noncomputable instance (l : List Task) (o : List Int) (i : Int) : Decidable (BT l o i) := Classical.propDecidable _
end Go.Proofs.Ytgcjadhmkhpbnaa.Bt
/- Fixed priorities: the test of an order, and the deadline-monotonic order. Conditions: a valid set. -/
namespace Go.Proofs.Ytgcjadhmkhpbnaa.Fix
open Go.RowKit Go.Proofs.Ytgcjadhmkhpbnaa.P Go.Proofs.Ytgcjadhmkhpbnaa.Base Go.Proofs.Ytgcjadhmkhpbnaa.Gen Go.Proofs.Ytgcjadhmkhpbnaa.Alive Go.Proofs.Ytgcjadhmkhpbnaa.Set Go.Proofs.Ytgcjadhmkhpbnaa.Tm Go.Proofs.Ytgcjadhmkhpbnaa.Rt Go.Proofs.Ytgcjadhmkhpbnaa.Bt Go.Proofs.YtgcjadhmkhpbnaaW.PrintWords Go.Proofs.YtgcjadhmkhpbnaaW.PrintLast
def tk (l : List Task) (i : Int) : Task := rd_T56 l i
theorem tk_mem {l : List Task} {i : Int} (h0 : 0 ≤ i) (h1 : i < (l.length : Int)) : tk l i ∈ l := by
  obtain ⟨n, rfl⟩ := Int.eq_ofNat_of_zero_le h0
  have hn : n < l.length := by omega
  unfold tk
  rw [rdT_at l n hn]
  exact List.getElem_mem hn
theorem zero_rd (n : Nat) (i : Int) : rd (List.replicate n 0) i = 0 := by
  unfold rd
  rw [List.getD_eq_getElem?_getD, List.getElem?_replicate]
  split <;> rfl
/-- One response time. -/
theorem response_tot {l : List Task} (hs : SetOk l) {a : Int} (h0 : 0 ≤ a) (h1 : a < (l.length : Int)) (o : List Int) (ho : ∀ x ∈ o, 0 ≤ x ∧ x < (l.length : Int)) (hol : o.length ≤ 5) :
    Tot (fun k => impl_response.f k l (List.replicate l.length 0) a o) (IsR (o.map (tk l)) (tk l a).f0 (tk l a).f1) := by
  have hv : AllV (o.map (tk l)) := by
    intro t ht
    obtain ⟨x, hx, rfl⟩ := List.mem_map.1 ht
    exact hs.2 _ (tk_mem (ho x hx).1 (ho x hx).2)
  have hT := hs.2 _ (tk_mem h0 h1)
  unfold TVt TV at hT
  have inner : ∀ (r : Int), 1 ≤ r → r ≤ 12 → ∀ Q : Int → Prop, (W (o.map (tk l)) (tk l a).f0 r = r → Q r) → (W (o.map (tk l)) (tk l a).f0 r ≠ r → Tot (fun k => impl_response.l0 k l (List.replicate l.length 0) a o (W (o.map (tk l)) (tk l a).f0 r)) Q) → ∀ d j, j + d = o.length → Tot (fun k => impl_response.l1 k l (List.replicate l.length 0) a o r ((tk l a).f0 + sm (rw1 r) ((o.map (tk l)).take j)) o (o.length : Int) (j : Int)) Q := by
    intro r hr0 hr1 Q q1 q2 d
    induction d with
    | zero =>
      intro j hj
      refine Tot.step (fun k => by rw [impl_response.l1]) (Tot.no (by omega) ?_)
      rw [List.take_of_length_le (by rw [List.length_map]; omega), zero_rd, Int.add_zero, w64 (x := r) (by omega) (by omega)]
      refine Tot.ite (fun h => Tot.yes h0 (Tot.yes (by rw [List.length_replicate]; exact h1) (Tot.ret _ (q1 h)))) (fun h => q2 h)
    | succ d ih =>
      intro j hj
      have hjl : j < o.length := by omega
      have hjm : j < (o.map (tk l)).length := by rw [List.length_map]; exact hjl
      have hoj := ho _ (List.getElem_mem hjl)
      have hvj := hs.2 _ (tk_mem hoj.1 hoj.2)
      have hb := rw1_bd hvj (r := r) (by omega)
      unfold TVt TV at hvj
      have ht := take_bd (rw1 r) (o.map (tk l)) 100 (fun x hx => by have := rw1_bd (hv x hx) (r := r) (by omega); omega) j (by omega)
      have IH := ih (j + 1) (by omega)
      rw [sm_take _ _ _ hjm, List.getElem_map] at IH
      refine Tot.step (fun k => by rw [impl_response.l1]) (Tot.yes (by omega) (Tot.yes (by omega) (Tot.yes (by omega) ?_)))
      rw [rd_at o j hjl, zero_rd, Int.add_zero, w64 (x := r) (by omega) (by omega), w64 (x := (j : Int) + 1) (by omega) (by omega)]
      refine Tot.yes hoj.1 (Tot.yes (by rw [List.length_replicate]; exact hoj.2) (Tot.yes hoj.2 ?_))
      have hc := cdiv_bd (a := r) (b := (tk l o[j]).f2) (by omega) (by omega)
      have hce : impl_ceil.f r (rd_T56 l o[j]).f2 = some (cdiv r (tk l o[j]).f2) := by
        show impl_ceil.f r (tk l o[j]).f2 = _
        unfold impl_ceil.f
        rw [if_neg (by omega), w64 (x := r + (tk l o[j]).f2) (by omega) (by omega), w64 (x := r + (tk l o[j]).f2 - 1) (by omega) (by omega), tdiv_pos (by omega)]
        show some (wrap64 (cdiv r (tk l o[j]).f2)) = _
        rw [w64 (by omega) (by omega)]
      refine Tot.bind0 hce ?_
      have e1 : wrap64 (cdiv r (tk l o[j]).f2 * (rd_T56 l o[j]).f0) = rw1 r (tk l o[j]) := by
        show wrap64 (rw1 r (tk l o[j])) = _
        rw [w64 (by omega) (by omega)]
      rw [e1, w64 (by omega) (by omega), Int.add_assoc]
      exact IH
  have outer : ∀ (n : Nat) (r : Int), 13 - r ≤ n → Inv (o.map (tk l)) (tk l a).f0 r → r ≤ 1000 → Tot (fun k => impl_response.l0 k l (List.replicate l.length 0) a o r) (IsR (o.map (tk l)) (tk l a).f0 (tk l a).f1) := by
    intro n
    induction n with
    | zero =>
      intro r hn hi hr
      refine Tot.step (fun k => by rw [impl_response.l0]) (Tot.yes h0 (Tot.yes (by rw [List.length_replicate]; exact h1) (Tot.yes h1 ?_)))
      have hr1 := hi.1
      rw [zero_rd, Int.add_zero, w64 (x := r) (by omega) (by omega)]
      exact Tot.no (show ¬ r ≤ (tk l a).f1 by omega) (Tot.ret _ (inv_late hi (by omega)))
    | succ n ih =>
      intro r hn hi hr
      have hr1 := hi.1
      refine Tot.step (fun k => by rw [impl_response.l0]) (Tot.yes h0 (Tot.yes (by rw [List.length_replicate]; exact h1) (Tot.yes h1 ?_)))
      rw [zero_rd, Int.add_zero, w64 (x := r) (by omega) (by omega)]
      refine Tot.ite (fun (h : r ≤ (tk l a).f1) => ?_) (fun (h : ¬ r ≤ (tk l a).f1) => Tot.ret _ (inv_late hi (by omega)))
      have hW : W (o.map (tk l)) (tk l a).f0 r ≤ 1000 := by
        have ht := take_bd (rw1 r) (o.map (tk l)) 100 (fun x hx => by have := rw1_bd (hv x hx) (r := r) (by omega); omega) o.length (by rw [List.length_map]; omega)
        rw [List.take_of_length_le (by rw [List.length_map]; omega)] at ht
        unfold W; omega
      have := inner r hr1 (by omega) (IsR (o.map (tk l)) (tk l a).f0 (tk l a).f1) (fun he => inv_found hi h he) (fun hne => by
        have hst := inv_step hv hi hne
        exact ih _ (by omega) hst.2 hW) o.length 0 (by omega)
      rw [show (tk l a).f0 + sm (rw1 r) ((o.map (tk l)).take 0) = (tk l a).f0 by simp [sm]] at this
      exact this
  unfold impl_response.f
  refine Tot.yes h0 (Tot.yes h1 ?_)
  exact outer 13 _ (show 13 - (tk l a).f0 ≤ 13 by omega) (inv_start hv (by omega)) (show (tk l a).f0 ≤ 1000 by omega)
/-- The task at place p meets its deadline below those at the places above. -/
def Fits (l : List Task) (o : List Int) (p : Nat) : Prop := ∃ r : Int, 1 ≤ r ∧ r ≤ (tk l (rd o p)).f1 ∧ W ((o.take p).map (tk l)) (tk l (rd o p)).f0 r ≤ r
def IsRp (l : List Task) (o : List Int) (p : Nat) (R : Int) : Prop := IsR ((o.take p).map (tk l)) (tk l (rd o p)).f0 (tk l (rd o p)).f1 R
def FF (l : List Task) (o : List Int) : Prop := OV l o ∧ ∀ p, p < o.length → Fits l o p
noncomputable instance (l : List Task) (o : List Int) : Decidable (FF l o) := Classical.propDecidable _
theorem late_iff (l : List Task) (o : List Int) (p : Nat) : IsRp l o p (-1) ↔ ¬ Fits l o p := by
  constructor
  · intro h hf
    have := (isR_fits h).2 hf
    omega
  · intro h
    refine Or.inl ⟨rfl, fun r h1 h2 => ?_⟩
    apply Classical.byContradiction
    intro hc
    exact h ⟨r, h1, h2, by omega⟩
theorem rd_set_eq (l : List Int) (i : Nat) (x : Int) (h : i < l.length) : rd (l.set i x) (i : Int) = x := by
  rw [rd_at _ i (by simpa using h)]
  simp
theorem rd_set_ne (l : List Int) (i a : Nat) (x : Int) (h : a ≠ i) : rd (l.set i x) (a : Int) = rd l (a : Int) := by
  unfold rd
  rw [List.getD_eq_getElem?_getD, List.getD_eq_getElem?_getD, Int.toNat_natCast, List.getElem?_set_ne (by omega)]
theorem responses_tot {l : List Task} {o : List Int} (h : OV l o) : Tot (fun k => impl_responses.f k l (List.replicate l.length 0) o) (fun out => out.length ≤ 5 ∧ ((-1 : Int) ∈ out ↔ ∃ p, p < o.length ∧ IsRp l o p (-1))) := by
  have hs := h.1
  have hlen := hs.1
  have hol := h.2.1
  have loop : ∀ d i (out : List Int), i + d = o.length → out.length = l.length → (∀ p, p < i → IsRp l o p (rd out (rd o p))) → (∀ x ∈ out, x = 0 ∨ ∃ p, p < i ∧ IsRp l o p x) → Tot (fun k => impl_responses.l0 k l (List.replicate l.length 0) o out o (o.length : Int) (i : Int)) (fun out => out.length ≤ 5 ∧ ((-1 : Int) ∈ out ↔ ∃ p, p < o.length ∧ IsRp l o p (-1))) := by
    intro d
    induction d with
    | zero =>
      intro i out hi hl h1 h2
      refine Tot.step (fun k => by rw [impl_responses.l0]) (Tot.no (by omega) (Tot.ret _ ⟨by omega, ?_⟩))
      constructor
      · intro hm
        rcases h2 _ hm with h | ⟨p, hp, h⟩
        · omega
        · exact ⟨p, by omega, h⟩
      · rintro ⟨p, hp, hr⟩
        have he := isR_uniq (h1 p (by omega)) hr
        have hop := (h.2.2 p hp hp).1
        rw [← he, rd_at o p hp]
        obtain ⟨n, hn⟩ : ∃ n : Nat, o[p] = (n : Int) := ⟨o[p].toNat, by omega⟩
        rw [hn] at hop ⊢
        rw [rd_at out n (by omega)]
        exact List.getElem_mem _
    | succ d ih =>
      intro i out hi hl h1 h2
      have hil : i < o.length := by omega
      have hoi := (h.2.2 i hil hil).1
      refine Tot.step (fun k => by rw [impl_responses.l0]) (Tot.yes (by omega) (Tot.yes (by omega) (Tot.yes (by omega) (Tot.yes (by omega) ?_))))
      rw [rd_at o i hil, w64 (x := (i : Int) + 1) (by omega) (by omega), Int.toNat_natCast]
      refine Tot.bind (response_tot hs hoi.1 hoi.2 (o.take i) (fun x hx => ?_) (by rw [List.length_take]; omega)) ?_
      · obtain ⟨q, hq, rfl⟩ := List.mem_iff_getElem.1 (List.mem_of_mem_take hx)
        exact (h.2.2 q hq hq).1
      · intro R hR
        have hR' : IsRp l o i R := by unfold IsRp; rw [rd_at o i hil]; exact hR
        refine Tot.yes hoi.1 (Tot.yes (by omega) (ih (i + 1) _ (by omega) (by rw [List.length_set]; exact hl) (fun p hp => ?_) (fun x hx => ?_)))
        · obtain ⟨n, hn⟩ : ∃ n : Nat, o[i] = (n : Int) := ⟨o[i].toNat, by omega⟩
          rw [hn, Int.toNat_natCast]
          have hnl : n < out.length := by omega
          by_cases e : p = i
          · subst e
            rw [rd_at o p hil, hn, rd_set_eq _ _ _ hnl]
            exact hR'
          · have hpl : p < o.length := by omega
            have hne := (h.2.2 i hil hil).2 p (by omega)
            have hop := (h.2.2 p hpl hpl).1
            have := h1 p (by omega)
            rw [rd_at o p hpl] at this ⊢
            obtain ⟨m, hm⟩ : ∃ m : Nat, o[p] = (m : Int) := ⟨o[p].toNat, by omega⟩
            rw [hm] at this ⊢
            rw [rd_set_ne _ _ _ _ (by omega)]
            exact this
        · rcases List.mem_or_eq_of_mem_set hx with hx | rfl
          · rcases h2 x hx with h' | ⟨p, hp, h'⟩
            · exact Or.inl h'
            · exact Or.inr ⟨p, by omega, h'⟩
          · exact Or.inr ⟨i, by omega, hR'⟩
  unfold impl_responses.f
  refine Tot.yes (by omega) (Tot.yes (by omega) ?_)
  rw [Int.toNat_natCast]
  exact loop o.length 0 _ (by omega) (by simp) (fun p hp => by omega) (fun x hx => Or.inl (List.eq_of_mem_replicate hx))
theorem fixed_tot (l : List Task) (o : List Int) (hl : l.length ≤ 2097152) (ho : o.length ≤ 2097152) : Tot (fun k => impl_FixedFeasible.f k l o) (fun r => r = decide (FF l o)) := by
  unfold impl_FixedFeasible.f
  refine Tot.bind (impl_ov l o hl ho) ?_
  rintro _ rfl
  refine Tot.ite (fun hv => ?_) (fun hv => Tot.ret _ (decide_eq_false (fun h : FF l o => hv (decide_eq_true h.1))).symm)
  have hv := of_decide_eq_true hv
  refine Tot.bind (P := fun out => out.length ≤ 5 ∧ ((-1 : Int) ∈ out ↔ ∃ p, p < o.length ∧ IsRp l o p (-1))) ?_ ?_
  · unfold impl_ResponseTimes.f
    refine Tot.bind (impl_ov l o hl ho) ?_
    rintro _ rfl
    have hlen := hv.1.1
    refine Tot.yes (decide_eq_true hv) (Tot.yes (by omega) (Tot.yes (by omega) ?_))
    rw [Int.toNat_natCast]
    exact Tot.bind (responses_tot hv) (fun _ h => Tot.ret _ h)
  · rintro out ⟨h1, h2⟩
    unfold slices_Contains_int_int.f
    refine Tot.bind (P := fun r => r = decide ((-1 : Int) ∈ out)) (Tot.bind (idx_tot out (-1) (by omega)) ?_) ?_
    · rintro r (⟨rfl, hr⟩ | ⟨a, ha, rfl, hr, _⟩)
      · refine Tot.ret _ ?_
        rw [decide_eq_decide]
        constructor
        · intro h; omega
        · intro h
          obtain ⟨a, ha, e⟩ := List.mem_iff_getElem.1 h
          exact absurd e (hr a ha)
      · refine Tot.ret _ ?_
        rw [decide_eq_decide]
        exact ⟨fun _ => hr ▸ List.getElem_mem ha, fun _ => by omega⟩
    · rintro _ rfl
      refine Tot.ret _ ?_
      rw [Bool.eq_iff_iff]
      simp only [Bool.not_eq_true', decide_eq_false_iff_not, decide_eq_true_eq]
      constructor
      · intro h
        refine ⟨hv, fun p hp => ?_⟩
        apply Classical.byContradiction
        intro hf
        exact h (h2.2 ⟨p, hp, (late_iff l o p).2 hf⟩)
      · rintro ⟨_, hf⟩ hm
        obtain ⟨p, hp, hr⟩ := h2.1 hm
        exact (late_iff l o p).1 hr (hf p hp)
/-! The deadline-monotonic order. -/
def ids (n : Nat) : List Int := (List.range n).map (fun (x : Nat) => (x : Int))
theorem ids_get (n i : Nat) (h : i < (ids n).length) : (ids n)[i] = (i : Int) := by simp [ids]
theorem indices_ev (n : Nat) (hn : n ≤ 1000) : Ev (fun k => impl_indices.f k (n : Int)) (ids n) := by
  have hl : (ids n).length = n := by simp [ids]
  have h := Tot.copy (fun k acc i => impl_indices.l0 k acc (n : Int) i) (ids n) 0 (fun k acc i h ha => by
    simp only [impl_indices.l0]
    rw [if_pos (by omega), if_pos (by omega), if_pos (by omega), w64 (by omega) (by omega), Int.toNat_natCast, ids_get]) (fun k acc ha => by
    simp only [impl_indices.l0]
    rw [if_neg (by omega)])
  apply Tot.ev
  refine Tot.congr (fun k => ?_) h
  unfold impl_indices.f
  rw [if_pos (by omega), if_pos (by omega), Int.toNat_natCast, hl]
  simp only [Option.bind_some, List.length_replicate]
theorem ids_mem {n : Nat} : ∀ x ∈ ids n, 0 ≤ x ∧ x < (n : Int) := by
  intro x hx
  obtain ⟨m, hm, rfl⟩ := List.mem_map.1 hx
  have := List.mem_range.1 hm
  omega
def dmo (l : List Task) : List Int := if SetOk l then isort (dl_cmp l) (ids l.length) else []
theorem dm_ev (l : List Task) : Ev (fun k => impl_DeadlineMonotonic.f k l) (dmo l) := by
  apply Tot.ev
  unfold impl_DeadlineMonotonic.f
  refine Tot.bind0 (set_f l) (Tot.ite (fun hs => ?_) (fun hs => ?_))
  · have hs := of_decide_eq_true hs
    have hlen := hs.1
    refine Tot.bind (Tot.val (indices_ev l.length (by omega))) ?_
    rintro _ rfl
    refine Tot.yes ⟨by simp [ids]; omega, ids_mem⟩ (Tot.ret _ ?_)
    unfold dmo
    rw [if_pos hs]
  · refine Tot.ret _ ?_
    unfold dmo
    rw [if_neg (fun h => hs (decide_eq_true h))]
/-- What the sort keeps: the entries, and their order by key. -/
theorem swl_perm (l : List Int) (j : Nat) (h : j + 1 < l.length) : (swl l j).Perm l := by
  have := Go.Sort.perm_set_set l (j + 1) j h (by omega)
  unfold swl
  have e1 : rd l (j : Int) = l[j] := rd_at l j (by omega)
  have e2 : rd l ((j : Int) + 1) = l[j + 1] := rd_at l (j + 1) h
  rw [e1, e2]
  simpa [List.getElem_set] using this
section
variable (cf : Int → Int → Int) (K : Int → Int)
/-- By key: sorted but for place j, which is no greater than what stands behind it. -/
def But (l : List Int) (j i : Nat) : Prop := (∀ p q : Nat, p < q → q ≤ i → p ≠ j → q ≠ j → K (rd l p) ≤ K (rd l q)) ∧ ∀ q : Nat, j < q → q ≤ i → K (rd l j) ≤ K (rd l q)
def Srt (l : List Int) (i : Nat) : Prop := ∀ p q : Nat, p < q → q < i → K (rd l p) ≤ K (rd l q)
theorem inn_perm : ∀ (j : Nat) (l : List Int), j < l.length → (inn cf j l).Perm l := by
  intro j
  induction j with
  | zero => intro l _; exact List.Perm.refl _
  | succ j ih =>
    intro l hj
    rw [inn]
    split
    · exact (ih _ (by rw [swl_length]; omega)).trans (swl_perm l j hj)
    · exact List.Perm.refl _
theorem swl_rd_lo (l : List Int) (j : Nat) (h : j + 1 < l.length) : rd (swl l j) (j : Int) = rd l ((j + 1 : Nat) : Int) := by
  unfold swl
  rw [rd_set_eq _ _ _ (by rw [List.length_set]; omega)]
  rfl
theorem swl_rd_hi (l : List Int) (j : Nat) (h : j + 1 < l.length) : rd (swl l j) ((j + 1 : Nat) : Int) = rd l (j : Int) := by
  unfold swl
  rw [rd_set_ne _ _ _ _ (by omega), rd_set_eq _ _ _ h]
theorem swl_rd_ne (l : List Int) (j p : Nat) (h1 : p ≠ j) (h2 : p ≠ j + 1) : rd (swl l j) (p : Int) = rd l (p : Int) := by
  unfold swl
  rw [rd_set_ne _ _ _ _ h1, rd_set_ne _ _ _ _ h2]
theorem inn_srt (i : Nat) : ∀ (j : Nat) (l : List Int), (∀ x ∈ l, ∀ y ∈ l, cf x y < 0 ↔ K x < K y) → j ≤ i → i < l.length → But K l j i → Srt K (inn cf j l) (i + 1) := by
  intro j
  induction j with
  | zero =>
    intro l _ _ _ hb p q hpq hq
    rw [inn]
    by_cases e : p = 0
    · subst e; exact hb.2 q hpq (by omega)
    · exact hb.1 p q hpq (by omega) e (by omega)
  | succ j ih =>
    intro l hcf hji hil hb
    have hj1 : j + 1 < l.length := by omega
    have m0 : rd l (j : Int) ∈ l := by rw [rd_at l j (by omega)]; exact List.getElem_mem _
    have m1 : rd l ((j + 1 : Nat) : Int) ∈ l := by rw [rd_at l (j + 1) hj1]; exact List.getElem_mem _
    have hc := hcf _ m1 _ m0
    rw [inn]
    by_cases h : cf (rd l ((j : Int) + 1)) (rd l (j : Int)) < 0
    · rw [if_pos h]
      have hK : K (rd l ((j + 1 : Nat) : Int)) < K (rd l (j : Int)) := hc.1 h
      refine ih _ (fun x hx y hy => hcf x ((swl_perm l j hj1).mem_iff.1 hx) y ((swl_perm l j hj1).mem_iff.1 hy)) (by omega) (by rw [swl_length]; exact hil) ⟨fun p q hpq hq hpj hqj => ?_, fun q hq hqi => ?_⟩
      · by_cases e1 : q = j + 1
        · subst e1
          rw [swl_rd_hi l j hj1, swl_rd_ne l j p hpj (by omega)]
          exact hb.1 p j (by omega) (by omega) (by omega) (by omega)
        · by_cases e2 : p = j + 1
          · subst e2
            rw [swl_rd_hi l j hj1, swl_rd_ne l j q hqj e1]
            exact hb.1 j q (by omega) hq (by omega) e1
          · rw [swl_rd_ne l j p hpj e2, swl_rd_ne l j q hqj e1]
            exact hb.1 p q hpq hq e2 e1
      · rw [swl_rd_lo l j hj1]
        by_cases e1 : q = j + 1
        · subst e1
          rw [swl_rd_hi l j hj1]; omega
        · rw [swl_rd_ne l j q (by omega) e1]
          exact hb.2 q (by omega) hqi
    · rw [if_neg h]
      have hK : K (rd l (j : Int)) ≤ K (rd l ((j + 1 : Nat) : Int)) := by
        apply Classical.byContradiction
        intro hn
        exact h (hc.2 (by omega))
      intro p q hpq hq
      by_cases e1 : q = j + 1
      · subst e1
        by_cases e2 : p = j
        · subst e2; exact hK
        · have := hb.1 p j (by omega) (by omega) (by omega) (by omega)
          omega
      · by_cases e2 : p = j + 1
        · subst e2; exact hb.2 q hpq (by omega)
        · exact hb.1 p q hpq (by omega) e2 e1
theorem outr_ok : ∀ (d i : Nat) (l : List Int), (∀ x ∈ l, ∀ y ∈ l, cf x y < 0 ↔ K x < K y) → i + d ≤ l.length → Srt K l i → (outr cf d i l).Perm l ∧ Srt K (outr cf d i l) (i + d) := by
  intro d
  induction d with
  | zero => intro i l _ _ h; exact ⟨List.Perm.refl _, h⟩
  | succ d ih =>
    intro i l hcf hi h
    have hp := inn_perm cf i l (by omega)
    have hs := inn_srt cf K i i l hcf (Nat.le_refl _) (by omega) ⟨fun p q hpq hq h1 h2 => h p q hpq (by omega), fun q h1 h2 => by omega⟩
    have := ih (i + 1) (inn cf i l) (fun x hx y hy => hcf x (hp.mem_iff.1 hx) y (hp.mem_iff.1 hy)) (by rw [hp.length_eq]; omega) hs
    refine ⟨this.1.trans hp, ?_⟩
    rw [show i + (d + 1) = i + 1 + d by omega]
    exact this.2
theorem isort_ok (l : List Int) (hcf : ∀ x ∈ l, ∀ y ∈ l, cf x y < 0 ↔ K x < K y) : (isort cf l).Perm l ∧ Srt K (isort cf l) l.length := by
  unfold isort
  rcases Nat.eq_zero_or_pos l.length with h0 | h0
  · obtain rfl := List.eq_nil_of_length_eq_zero h0
    exact ⟨List.Perm.refl _, fun p q _ h => by simp at h⟩
  · have := outr_ok cf K (l.length - 1) 1 l hcf (by omega) (fun p q h1 h2 => by omega)
    rw [show 1 + (l.length - 1) = l.length by omega] at this
    exact this
end
theorem dmo_ok {l : List Task} (hs : SetOk l) : (dmo l).Perm (ids l.length) ∧ ∀ p q : Nat, p < q → q < l.length → (tk l (rd (dmo l) p)).f1 ≤ (tk l (rd (dmo l) q)).f1 := by
  have hlen := hs.1
  unfold dmo
  rw [if_pos hs]
  have := isort_ok (dl_cmp l) (fun x => (tk l x).f1) (ids l.length) (fun x hx y hy => by
    have h1 := ids_mem x hx
    have h2 := ids_mem y hy
    have v1 := hs.2 _ (tk_mem h1.1 h1.2)
    have v2 := hs.2 _ (tk_mem h2.1 h2.2)
    unfold TVt TV at v1 v2
    have e : dl_cmp l x y = (tk l x).f1 - (tk l y).f1 := by
      unfold dl_cmp
      rw [IntKind.wrap_i64]
      show ((tk l x).f1 - (tk l y).f1 + _) % _ - _ = _
      omega
    rw [e]; omega)
  rw [show (ids l.length).length = l.length by simp [ids]] at this
  exact this
theorem dmo_ov {l : List Task} (hs : SetOk l) : OV l (dmo l) := by
  have h := (dmo_ok hs).1
  have hn : (dmo l).Nodup := h.symm.nodup (by
    unfold ids
    rw [List.nodup_iff_pairwise_ne, List.pairwise_map]
    exact (List.nodup_iff_pairwise_ne.1 List.nodup_range).imp (fun h => by omega))
  refine ⟨hs, by rw [h.length_eq]; simp [ids], fun a ha _ => ⟨ids_mem _ (h.mem_iff.1 (List.getElem_mem ha)), fun b hb e => ?_⟩⟩
  have := List.pairwise_iff_getElem.1 (List.nodup_iff_pairwise_ne.1 hn) b a (by omega) ha hb
  exact this e
/-- The tasks in the order are the tasks of the set. -/
theorem dmo_tasks {l : List Task} (hs : SetOk l) : ((dmo l).map (tk l)).Perm l := by
  have h := ((dmo_ok hs).1).map (tk l)
  refine h.trans ?_
  have : (ids l.length).map (tk l) = l := by
    apply List.ext_getElem
    · simp [ids]
    · intro i h1 h2
      rw [List.getElem_map, ids_get]
      exact rdT_at l i h2
  rw [this]
end Go.Proofs.Ytgcjadhmkhpbnaa.Fix
/- The hyperbolic bound and harmonic sets under deadline-monotonic priorities. Conditions: a valid set. -/
namespace Go.Proofs.Ytgcjadhmkhpbnaa.Hh
open Go.RowKit Go.Proofs.Ytgcjadhmkhpbnaa.P Go.Proofs.Ytgcjadhmkhpbnaa.Base Go.Proofs.Ytgcjadhmkhpbnaa.Gen Go.Proofs.Ytgcjadhmkhpbnaa.Alive Go.Proofs.Ytgcjadhmkhpbnaa.Set Go.Proofs.Ytgcjadhmkhpbnaa.Tm Go.Proofs.Ytgcjadhmkhpbnaa.Rt Go.Proofs.Ytgcjadhmkhpbnaa.Bt Go.Proofs.Ytgcjadhmkhpbnaa.Fix Go.Proofs.Ytgcjadhmkhpbnaa.Harm Go.Proofs.YtgcjadhmkhpbnaaW.PrintWords Go.Proofs.YtgcjadhmkhpbnaaW.PrintLast
theorem dmo_len {l : List Task} (hs : SetOk l) : (dmo l).length = l.length := by
  rw [(dmo_ok hs).1.length_eq]; simp [ids]
theorem above_ok {l : List Task} (hs : SetOk l) (p : Nat) : AllV (((dmo l).take p).map (tk l)) := by
  intro t ht
  obtain ⟨x, hx, rfl⟩ := List.mem_map.1 ht
  have := ids_mem x ((dmo_ok hs).1.mem_iff.1 (List.mem_of_mem_take hx))
  exact hs.2 _ (tk_mem this.1 this.2)
theorem at_mem {l : List Task} (hs : SetOk l) {p : Nat} (hp : p < l.length) : tk l (rd (dmo l) p) ∈ l := by
  have hl := dmo_len hs
  rw [rd_at _ p (by omega)]
  have := ids_mem _ ((dmo_ok hs).1.mem_iff.1 (List.getElem_mem (show p < (dmo l).length by omega)))
  exact tk_mem this.1 this.2
/-- The set, parted at a place of the order. -/
theorem parted {l : List Task} (hs : SetOk l) {p : Nat} (hp : p < l.length) : ((tk l (rd (dmo l) p) :: ((dmo l).take p).map (tk l)) ++ ((dmo l).drop (p + 1)).map (tk l)).Perm l := by
  have hl := dmo_len hs
  refine List.Perm.trans ?_ (dmo_tasks hs)
  rw [rd_at _ p (by omega)]
  have e : (dmo l).map (tk l) = ((dmo l).take p).map (tk l) ++ (tk l ((dmo l)[p]'(by omega)) :: ((dmo l).drop (p + 1)).map (tk l)) := by
    rw [← List.map_cons, ← List.map_append, ← List.drop_eq_getElem_cons (by omega), List.take_append_drop]
  rw [e, List.cons_append]
  exact List.perm_middle.symm
theorem before {l : List Task} (hs : SetOk l) {p : Nat} (hp : p < l.length) : ∀ g ∈ ((dmo l).take p).map (tk l), g ∈ l ∧ g.f1 ≤ (tk l (rd (dmo l) p)).f1 := by
  have hl := dmo_len hs
  intro g hg
  obtain ⟨x, hx, rfl⟩ := List.mem_map.1 hg
  obtain ⟨q, hq, rfl⟩ := List.mem_iff_getElem.1 hx
  rw [List.length_take] at hq
  rw [List.getElem_take]
  have h1 := ids_mem _ ((dmo_ok hs).1.mem_iff.1 (List.getElem_mem (show q < (dmo l).length by omega)))
  refine ⟨tk_mem h1.1 h1.2, ?_⟩
  have := (dmo_ok hs).2 q p (by omega) hp
  rwa [rd_at _ q (by omega)] at this
theorem wk_append (a b : List Task) (m : Int) : wk (a ++ b) m = wk a m + wk b m := sm_append _ _ _
theorem wk_perm {a b : List Task} (h : a.Perm b) (m : Int) : wk a m = wk b m := sm_perm _ h
theorem harm_ff {l : List Task} (hI : Impl l) (hm : ∀ a ∈ l, ∀ b ∈ l, Hm2 a b) (hld : ld l ≤ hy l) : FF l (dmo l) := by
  have hs := hI.1
  have hl := dmo_len hs
  have hb := hy_bd hs.all
  refine ⟨dmo_ov hs, fun p hp => ?_⟩
  have hp' : p < l.length := by omega
  have hx := at_mem hs hp'
  have hxv := hs.2 _ hx
  have hxi := hI.2 _ hx
  have hpt := parted hs hp'
  have hbef := before hs hp'
  have hxv' := hxv
  unfold TVt TV at hxv'
  unfold Fits
  rw [hxi]
  refine ⟨_, by omega, Int.le_refl _, harm_fit (H := (hy l : Int)) (above_ok hs p) hxv (by omega) (fun g hg => ?_) (fun g hg => ?_) ?_⟩
  · have : g ∈ l := hpt.mem_iff.1 (List.mem_append_left _ hg)
    exact hy_int hs.all this
  · have h1 := hbef g hg
    have h2 := hI.2 g h1.1
    have h3 := hs.2 g h1.1
    unfold TVt TV at h3
    rcases hm g h1.1 _ hx with h | h
    · have hle : g.f2 ≤ (tk l (rd (dmo l) p)).f2 := by omega
      have hd := Int.dvd_of_emod_eq_zero h
      have := Int.le_of_dvd (by omega) hd
      rw [show g.f2 = (tk l (rd (dmo l) p)).f2 by omega]
      exact Int.dvd_refl _
    · exact Int.dvd_of_emod_eq_zero h
  · have h1 := wk_perm hpt (hy l)
    rw [wk_append] at h1
    have h2 : 0 ≤ wk (((dmo l).drop (p + 1)).map (tk l)) (hy l) := sm_nonneg _ _ (fun t ht => by
      have := hs.2 t (hpt.mem_iff.1 (List.mem_append_right _ ht))
      unfold TVt TV at this
      exact Int.mul_nonneg (Int.ediv_nonneg (by omega) (by omega)) (by omega))
    unfold ld at hld
    omega
theorem ff_load {l : List Task} (hI : Impl l) (h : FF l (dmo l)) : ld l ≤ hy l := by
  have hs := hI.1
  have hl := dmo_len hs
  have hb := hy_bd hs.all
  rcases Nat.eq_zero_or_pos l.length with h0 | h0
  · obtain rfl := List.eq_nil_of_length_eq_zero h0
    show (0 : Int) ≤ _
    omega
  · have hp : l.length - 1 < l.length := by omega
    obtain ⟨r, r1, r2, r3⟩ := h.2 (l.length - 1) (by omega)
    have hx := at_mem hs hp
    have hxi := hI.2 _ hx
    have hpt := parted hs hp
    have e : ((dmo l).drop (l.length - 1 + 1)) = [] := List.drop_eq_nil_of_le (by omega)
    rw [e, List.map_nil, List.append_nil] at hpt
    have := fit_load (H := (hy l : Int)) (above_ok hs (l.length - 1)) (hs.2 _ hx) (by omega) (fun g hg => hy_int hs.all (hpt.mem_iff.1 hg)) r1 (by omega) r3
    rw [wk_perm hpt] at this
    exact this
/-- The largest period, at least 1. -/
def top (l : List Task) : Int := l.foldl (fun m t => max m t.f2) 1
theorem top_take (l : List Task) (i : Nat) (h : i < l.length) : top (l.take (i + 1)) = max (top (l.take i)) l[i].f2 := by
  unfold top
  rw [List.take_succ_eq_append_getElem h, List.foldl_append]
  rfl
theorem fold_top (l : List Task) : ∀ m : Int, m ≤ l.foldl (fun m t => max m t.f2) m ∧ (∀ t ∈ l, t.f2 ≤ l.foldl (fun m t => max m t.f2) m) ∧ (l.foldl (fun m t => max m t.f2) m = m ∨ ∃ t ∈ l, l.foldl (fun m t => max m t.f2) m = t.f2) := by
  induction l with
  | nil => intro m; exact ⟨Int.le_refl _, fun t ht => by simp at ht, Or.inl rfl⟩
  | cons a l ih =>
    intro m
    obtain ⟨h1, h2, h3⟩ := ih (max m a.f2)
    rw [List.foldl_cons]
    refine ⟨by omega, fun t ht => ?_, ?_⟩
    · rcases List.mem_cons.1 ht with rfl | ht
      · omega
      · exact h2 t ht
    · rcases h3 with h3 | ⟨t, ht, h3⟩
      · rw [h3]
        by_cases h : a.f2 ≤ m
        · exact Or.inl (by omega)
        · exact Or.inr ⟨a, List.mem_cons_self .., by omega⟩
      · exact Or.inr ⟨t, List.mem_cons_of_mem _ ht, h3⟩
theorem top_hy {l : List Task} (hs : SetOk l) (hm : ∀ a ∈ l, ∀ b ∈ l, Hm2 a b) : (hy l : Int) = top l := by
  have hb := hy_bd hs.all
  obtain ⟨h1, h2, h3⟩ := fold_top l 1
  have e : l.foldl (fun m t => max m t.f2) 1 = top l := rfl
  rw [e] at h1 h2 h3
  have hall : ∀ g ∈ l, g.f2 ∣ top l := by
    intro g hg
    have hgv := hs.2 g hg
    unfold TVt TV at hgv
    rcases h3 with h3 | ⟨t, ht, h3⟩
    · have := h2 g hg
      rw [show g.f2 = 1 by omega]
      exact Int.one_dvd _
    · have := h2 g hg
      rw [h3] at this ⊢
      rcases hm g hg t ht with h | h
      · have hd := Int.dvd_of_emod_eq_zero h
        have := Int.le_of_dvd (by omega) hd
        rw [show g.f2 = t.f2 by omega]
        exact Int.dvd_refl _
      · exact Int.dvd_of_emod_eq_zero h
  have d1 : hy l ∣ (top l).toNat := hy_least (fun t ht => by
    have := hs.2 t ht
    unfold TVt TV at this
    apply Int.natCast_dvd_natCast.1
    rw [Int.toNat_of_nonneg (by omega), Int.toNat_of_nonneg (by omega)]
    exact hall t ht)
  have l1 := Nat.le_of_dvd (by omega) d1
  rcases h3 with h3 | ⟨t, ht, h3⟩
  · omega
  · have d2 := Int.le_of_dvd (by omega) (hy_int hs.all ht)
    omega
/-- The set with its deadlines at the periods' ends. -/
def late (l : List Task) : List Task := l.map (fun t => ⟨t.f0, t.f2, t.f2⟩)
theorem late_ok {l : List Task} (hs : SetOk l) : Impl (late l) := by
  refine ⟨⟨by unfold late; rw [List.length_map]; exact hs.1, fun t ht => ?_⟩, fun t ht => ?_⟩
  · obtain ⟨x, hx, rfl⟩ := List.mem_map.1 ht
    have := hs.2 x hx
    unfold TVt TV at this ⊢
    simp only
    omega
  · obtain ⟨x, hx, rfl⟩ := List.mem_map.1 ht
    rfl
theorem late_hm {l : List Task} (hm : ∀ a ∈ l, ∀ b ∈ l, Hm2 a b) : ∀ a ∈ late l, ∀ b ∈ late l, Hm2 a b := by
  intro a ha b hb
  obtain ⟨x, hx, rfl⟩ := List.mem_map.1 ha
  obtain ⟨y, hy, rfl⟩ := List.mem_map.1 hb
  exact hm x hx y hy
theorem harm_iff {l : List Task} (h : Hm l) : FF (late l) (dmo (late l)) ↔ ld (late l) ≤ hy (late l) :=
  ⟨ff_load (late_ok h.1), harm_ff (late_ok h.1) (late_hm h.2)⟩
end Go.Proofs.Ytgcjadhmkhpbnaa.Hh
/- Harmonic sets use the whole processor. No condition. -/
namespace Go.Proofs.Ytgcjadhmkhpbnaa.Pure
open Go.RowKit Go.Proofs.Ytgcjadhmkhpbnaa.P Go.Proofs.Ytgcjadhmkhpbnaa.Base Go.Proofs.Ytgcjadhmkhpbnaa.Gen Go.Proofs.YtgcjadhmkhpbnaaW.PrintWords Go.Proofs.YtgcjadhmkhpbnaaW.PrintLast
open Go.Proofs.Ytgcjadhmkhpbnaa.Pb Go.Proofs.Ytgcjadhmkhpbnaa.Alive Go.Proofs.Ytgcjadhmkhpbnaa.Set Go.Proofs.Ytgcjadhmkhpbnaa.DrTask Go.Proofs.Ytgcjadhmkhpbnaa.DrSet Go.Proofs.Ytgcjadhmkhpbnaa.Tm Go.Proofs.Ytgcjadhmkhpbnaa.Harm Go.Proofs.Ytgcjadhmkhpbnaa.Fix Go.Proofs.Ytgcjadhmkhpbnaa.Hh 

theorem draw (l0 : List Int) (hl : ∀ x ∈ l0, (Lit.int .u8 x).wf = true) : Tot (fun k => spec_DrawHarmonic.f k l0) (fun r => r.length ≤ 20) := by
  unfold spec_DrawHarmonic.f
  refine open_tot l0 hl (fun s hs => ?_)
  refine Tot.bind (set_tot s 0 12 hs (by omega) (by omega)) ?_
  rintro ⟨x, q⟩ ⟨h1, h2, h3⟩
  simp only at h1 h2 h3 ⊢
  refine Tot.bind (pick_tot s q 2 hs (by omega) (by omega)) ?_
  rintro ⟨a, q2⟩ ⟨h4, h5, h6⟩
  simp only at h4 h5 h6 ⊢; subst h4
  refine Tot.ite (fun _ => ?_) (fun _ => Tot.ret _ h1)
  have loop : ∀ (d i : Nat) (y : List Set.Task) (p : Int), i + d = y.length → y.length ≤ 20 → 0 ≤ p → p + d ≤ 1000 → Tot (fun k => spec_DrawHarmonic.l0 k y (i : Int) s p) (fun r => r.length ≤ 20) := by
    intro d
    induction d with
    | zero =>
      intro i y p hi hy hp0 hp1
      exact Tot.step (fun k => by rw [spec_DrawHarmonic.l0]) (Tot.no (by omega) (Tot.ret _ hy))
    | succ d ih =>
      intro i y p hi hy hp0 hp1
      refine Tot.step (fun k => by rw [spec_DrawHarmonic.l0]) (Tot.yes (by omega) ?_)
      refine Tot.bind (pick_tot s p 2 hs hp0 (by omega)) ?_
      rintro ⟨b, p2⟩ ⟨h7, h8, h9⟩
      simp only at h7 h8 h9 ⊢; subst h7
      have hm := tmod_ok (i : Int) 4 (by omega) (by omega)
      refine some_bind _ (Tot.yes hm.1 (Tot.yes (by simp; omega) (some_bind _ (Tot.yes (by simp; omega) (Tot.yes (by omega) ?_)))))
      rw [w64 (x := (i : Int) + 1) (by omega) (by omega)]
      exact ih (i + 1) _ _ (by rw [List.length_set]; omega) (by rw [List.length_set]; exact hy) (by omega) (by omega)
  exact loop x.length 0 x _ (by omega) h1 (by omega) (by omega)
theorem util_tot {l : List Set.Task} (hs : SetOk l) : Tot (fun k => impl_Utilization.f k l) (fun r => r.1 ≤ r.2 ↔ ld l ≤ hy l) := by
  have hb := hy_bd hs.all
  have hd := ld_bd hs
  unfold impl_Utilization.f
  refine Tot.bind0 (set_f l) (Tot.yes (decide_eq_true hs) ?_)
  refine Tot.bind (Tot.val (load_ev hs)) ?_
  rintro _ rfl
  refine Tot.bind (Tot.val (hyper_ev hs)) ?_
  rintro _ rfl
  refine Tot.bind (P := fun r => r.1 ≤ r.2 ↔ ld l ≤ hy l) ?_ (fun r h => Tot.ret _ h)
  unfold impl_reduced.f
  obtain ⟨n, hn⟩ : ∃ n : Nat, ld l = (n : Int) := ⟨(ld l).toNat, by omega⟩
  rw [hn]
  refine Tot.bind (Tot.val (gcd_ev (hy l) n)) ?_
  rintro _ rfl
  have hg : 0 < Nat.gcd n (hy l) := Nat.gcd_pos_of_pos_right _ hb.1
  obtain ⟨a, ha⟩ := Nat.gcd_dvd_left n (hy l)
  obtain ⟨b, hb2⟩ := Nat.gcd_dvd_right n (hy l)
  refine Tot.no (by omega) (Tot.ret _ ?_)
  rw [ndiv, ndiv]
  have e1 : n / Nat.gcd n (hy l) = a := Nat.div_eq_of_eq_mul_right hg ha
  have e2 : hy l / Nat.gcd n (hy l) = b := Nat.div_eq_of_eq_mul_right hg hb2
  rw [e1, e2]
  have l1 : a ≤ n := by
    have := Nat.le_mul_of_pos_left a hg
    omega
  have l2 : b ≤ hy l := by
    have := Nat.le_mul_of_pos_left b hg
    omega
  rw [w64 (by omega) (by omega), w64 (by omega) (by omega)]
  constructor
  · intro h
    have := Nat.mul_le_mul_left (Nat.gcd n (hy l)) (show a ≤ b by omega)
    omega
  · intro h
    have : Nat.gcd n (hy l) * a ≤ Nat.gcd n (hy l) * b := by omega
    have := Nat.le_of_mul_le_mul_left this hg
    omega
theorem FnHarmonic : laws_FnHarmonic.Pure := by
  intro l0 _ hl
  apply Tot.rounds
  unfold laws_FnHarmonic.f
  refine Tot.ite (fun _ => Tot.ret _ rfl) (fun _ => ?_)
  refine Tot.bind (draw l0 hl.2) ?_
  intro l hlen
  refine Tot.bind (Tot.val (impl_hm l)) ?_
  rintro _ rfl
  refine Tot.bind (Tot.val (spec_hm l (by omega))) ?_
  rintro _ rfl
  refine Tot.no (by simp) (Tot.ite (fun h => ?_) (fun _ => Tot.bind0 alive_f (Tot.ret _ rfl)))
  have h := of_decide_eq_true h
  refine some_bind _ (Tot.yes (by rw [List.length_nil]; omega) ?_)
  rw [List.nil_append]
  have hI := late_ok h.1
  have hll : (late l).length = l.length := by unfold late; rw [List.length_map]
  have fin : Tot (fun k => laws_FnHarmonic.l0 k l (top l) (late l) (l.length : Int)) (fun r => r = true) := by
    refine Tot.step (fun k => by rw [laws_FnHarmonic.l0]) (Tot.no (by omega) ?_)
    refine Tot.bind (util_tot hI.1) ?_
    rintro ⟨u1, u2⟩ hu
    simp only at hu ⊢
    refine Tot.bind (P := fun r => r = top l) ?_ ?_
    · unfold impl_Hyperperiod.f
      refine Tot.bind0 (set_f l) (Tot.yes (decide_eq_true h.1) ?_)
      refine Tot.bind (Tot.val (hyper_ev h.1)) ?_
      rintro _ rfl
      exact Tot.ret _ (top_hy h.1 h.2)
    rintro _ rfl
    refine Tot.yes rfl ?_
    refine Tot.bind (Tot.val (dm_ev (late l))) ?_
    rintro _ rfl
    have hdl := dmo_len hI.1
    refine Tot.bind (fixed_tot (late l) (dmo (late l)) (by omega) (by omega)) ?_
    rintro _ rfl
    refine Tot.ret _ ?_
    rw [beq_iff_eq, decide_eq_decide, hu]
    exact harm_iff h
  have loop : ∀ (d i : Nat) (y : List Set.Task), i + d = l.length → y.length = l.length → y.take i = (late l).take i → y.drop i = l.drop i → Tot (fun k => laws_FnHarmonic.l0 k l (top (l.take i)) y (i : Int)) (fun r => r = true) := by
    intro d
    induction d with
    | zero =>
      intro i y hi hy ht hd
      obtain rfl : i = l.length := by omega
      rw [List.take_of_length_le (by omega), List.take_of_length_le (by omega)] at ht
      rw [ht, List.take_of_length_le (Nat.le_refl _)]
      exact fin
    | succ d ih =>
      intro i y hi hy ht hd
      have hil : i < l.length := by omega
      have hiy : i < y.length := by omega
      have hyi : y[i] = l[i] := by
        rw [List.drop_eq_getElem_cons hiy, List.drop_eq_getElem_cons hil] at hd
        exact (List.cons.inj hd).1
      have hdd : y.drop (i + 1) = l.drop (i + 1) := by
        rw [List.drop_eq_getElem_cons hiy, List.drop_eq_getElem_cons hil] at hd
        exact (List.cons.inj hd).2
      refine Tot.step (fun k => by rw [laws_FnHarmonic.l0]) (Tot.yes (by omega) (Tot.yes (by omega) (Tot.yes (by omega) ?_)))
      rw [rdT_at l i hil, rdT_at y i hiy, hyi, w64 (by omega) (by omega), Int.toNat_natCast, mx_max]
      have hlt : i < (late l).length := by omega
      have e : (late l)[i] = ⟨l[i].f0, l[i].f2, l[i].f2⟩ := by simp [late]
      have IH := ih (i + 1) (y.set i ⟨l[i].f0, l[i].f2, l[i].f2⟩) (by omega) (by rw [List.length_set]; exact hy) (by
        rw [← e]
        exact fill_step y (late l) i (by omega) ht hlt) (by rw [List.drop_set_of_lt (by omega)]; exact hdd)
      rw [top_take _ _ hil] at IH
      exact IH
  exact loop l.length 0 l (by omega) rfl rfl rfl
end Go.Proofs.Ytgcjadhmkhpbnaa.Pure
/- Arguments of a law laid open: whatever reads as data of a type reads as a value of its kind.
   No condition. -/
namespace Go.Proofs.Ytgcjadhmkhpbnaa.Opn
open Go.ChangeShapes Go.WideShapes Go.Deep Go.RowKit Go.Proofs.YtgcjadhmkhpbnaaW.PrintWords
section
variable {H : Type} {enc : TypeId × Value → H} {P : Program} {W : World} {base : Nat} {spare : Nat → Bool} {held : Bool}

/-- Whatever reads as data of type t reads as a value of the kind d that is good. -/
def Opens {α : Type} (enc : TypeId × Value → H) (P : Program) (W : World) (base : Nat) (spare : Nat → Bool) (held : Bool) (t : TypeId) (d : Kd α) (G : α → Prop) : Prop :=
  ∀ (fuel : Nat) (cs : List Value) (x : DataW H × List MemPlace), DataW.trod enc P W base spare held fuel t cs = some x → ∃ a, d.K W a cs ∧ G a

theorem opens_int {t : TypeId} {k : IntKind} (hu : P.underlying t = some (.int k)) : Opens enc P W base spare held t (Kd.int k) (fun x => (Lit.int k x).wf = true) := by
  intro fuel cs x h
  obtain ⟨n, hc, _, hw⟩ := DataW.trod_int hu h
  exact ⟨n, hc, hw⟩
theorem list_of {α : Type} (m : Nat) (R : Nat → α → Prop) (h : ∀ i, i < m → ∃ a, R i a) : ∃ xs : List α, xs.length = m ∧ ∀ i a, xs[i]? = some a → R i a := by
  induction m with
  | zero => exact ⟨[], rfl, fun i a ha => by simp at ha⟩
  | succ m ih =>
    obtain ⟨xs, hl, hx⟩ := ih (fun i hi => h i (by omega))
    obtain ⟨a, ha⟩ := h m (by omega)
    refine ⟨xs ++ [a], by simp [hl], fun i b hb => ?_⟩
    rcases Nat.lt_or_ge i m with hi | hi
    · rw [List.getElem?_append_left (by omega)] at hb
      exact hx i b hb
    · have hi' : i = m := by
        have := (List.getElem?_eq_some_iff.1 hb).1
        simp at this
        omega
      subst hi'
      have : a = b := by simpa [hl] using hb
      subst this
      exact ha

/-- A slice of what opens. -/
theorem slice_row {α : Type} {t e : TypeId} {d : Kd α} {G : α → Prop} (hu : P.underlying t = some (.slice e)) (hC : P.cellsOf e = d.sz) (he : Opens enc P W base spare held e d G)
    {fuel : Nat} {A : Option Addr} {n cap : Nat} {x : DataW H × List MemPlace} (h : DataW.trod enc P W base spare held fuel t [.slice A n cap] = some x) :
    ∃ xs : List α, xs.length = n ∧ n ≤ cap ∧ n ≤ maxLen ∧ d.C W A xs.length xs ∧ ∀ y ∈ xs, G y := by
  rcases open_slice hu h with ⟨h0, _⟩ | ⟨a, len, c, m, k, D, Pl, hcs, _, hl, hm, hmm, _, hel⟩
  · simp only [List.cons.injEq, Value.slice.injEq, and_true] at h0
    obtain ⟨rfl, rfl, rfl⟩ := h0
    exact ⟨[], rfl, Nat.le_refl _, by simp [maxLen], Kd.C_nil d W, fun y hy => by simp at hy⟩
  · simp only [List.cons.injEq, Value.slice.injEq, and_true] at hcs
    obtain ⟨rfl, rfl, rfl⟩ := hcs
    have hle : n ≤ m := by rw [hmm]; split <;> omega
    obtain ⟨xs, hxl, hx⟩ := list_of (α := α) n (fun i y => G y ∧ ∃ cs', d.K W y cs' ∧ cs'.length = d.sz ∧ ∀ j, j < d.sz → W.cell? ((a.add (i * d.sz)).add j) = cs'[j]?) (by
      intro i hi
      obtain ⟨cs', hc, ht⟩ := hel i (by omega)
      obtain ⟨y, hK, hG⟩ := he _ _ _ ht
      rw [hC] at hc
      obtain ⟨_, hcl, hcc⟩ := World.cells?_some hc
      exact ⟨y, hG, cs', hK, hcl, hcc⟩)
    refine ⟨xs, hxl, hl, by omega, ⟨rfl, by simp only [maxLen] at hm; omega, fun hp => ⟨a, rfl, fun j p hj => ?_⟩⟩, fun y hy => ?_⟩
    · obtain ⟨_, cs', hK, hcl, hcc⟩ := hx j p hj
      refine ⟨cs', hcl, hK, fun i u hi => ?_⟩
      have hlt : i < d.sz := by
        have := (List.getElem?_eq_some_iff.1 hi).1
        omega
      rw [← Go.Deep.add_add, hcc i hlt, hi]
    · obtain ⟨i, hi, rfl⟩ := List.getElem_of_mem hy
      exact (hx i _ (List.getElem?_eq_getElem hi)).1
/-- The weight of a slice bounds its length. -/
theorem sized_row {t e : TypeId} {A : Option Addr} {n cap : Nat} {d : DataW H} {ps : List MemPlace} {ts : List TypeId} {ds : List (DataW H)} {j : Nat}
    (hsz : (DataW.weightsEach P ts ds).all (· ≤ reachBytes) = true) (ht : ts[j]? = some t) (hd : ds[j]? = some d) (hu : P.underlying t = some (.slice e)) {B : Nat} (hB : P.bytesOf e = B)
    (h : DataW.Trod enc P W base spare held t (.slice A n cap) d ps) : n * B ≤ 140737488351232 := by
  obtain ⟨fuel, hf⟩ := h
  have hf' : DataW.trod enc P W base spare held fuel t [.slice A n cap] = some (d, ps) := hf
  rcases open_slice hu hf' with ⟨h0, _⟩ | ⟨a, len, c, m, k, D, Pl, hcs, _, hl, hm, hmm, hx, hel⟩
  · simp only [List.cons.injEq, Value.slice.injEq, and_true] at h0
    obtain ⟨rfl, rfl, rfl⟩ := h0
    simp
  · simp only [List.cons.injEq, Value.slice.injEq, and_true] at hcs
    obtain ⟨rfl, rfl, rfl⟩ := hcs
    obtain ⟨hx, _⟩ := Prod.mk.inj hx
    subst hx
    have z := sized_slice hsz ht hd hu
    rw [hB] at z
    simp only [List.length_map, List.length_range] at z
    exact Nat.le_trans (Nat.mul_le_mul_right _ (by omega)) z
end
end Go.Proofs.Ytgcjadhmkhpbnaa.Opn
/- The head of the translation: a cut, with nothing lifted. No condition. -/
namespace Go.Proofs.Ytgcjadhmkhpbnaa.Head
open Go
def chars (l : List Nat) : List Char := l.map Char.ofNat
def w1 : List Nat := [104, 97, 114, 110, 101, 115, 115]
def w2 : List Nat := [54, 102, 101, 50, 53, 100, 57, 100, 52, 50, 55, 97, 97, 101, 99, 51, 100, 53, 100, 51, 97, 48, 97, 53, 53, 52, 57, 48, 98, 99, 48, 53, 50, 56, 49, 100, 53, 54, 98, 98, 54, 50, 100, 99, 53, 98, 50, 50, 56, 49, 50, 49, 49, 102, 98, 52, 52, 53, 101, 55, 98, 54, 51, 54]
def w3 : List Nat := [99, 117, 116]
def w4 : List Nat := [97, 116, 32, 108, 111, 111, 112, 46, 101, 120, 97, 109, 112, 108, 101, 47, 100, 101, 97, 100, 108, 105, 110, 101, 115, 99, 104, 101, 100, 117, 108, 101, 114, 47, 108, 97, 119, 115, 46, 70, 110, 69, 120, 97, 99, 116, 72, 97, 114, 109, 111, 110, 105, 99, 32, 108, 111, 111, 112, 46, 101, 120, 97, 109, 112, 108, 101, 47, 100, 101, 97, 100, 108, 105, 110, 101, 115, 99, 104, 101, 100, 117, 108, 101, 114, 47, 108, 97, 119, 115, 46, 70, 110, 69, 120, 97, 99, 116, 72, 121, 112, 101, 114, 98, 111, 108, 105, 99, 66, 111, 117, 110, 100, 32, 108, 111, 111, 112, 46, 101, 120, 97, 109, 112, 108, 101, 47, 100, 101, 97, 100, 108, 105, 110, 101, 115, 99, 104, 101, 100, 117, 108, 101, 114, 47, 108, 97, 119, 115, 46, 70, 110, 69, 120, 97, 99, 116, 66, 108, 111, 99, 107, 105, 110, 103, 84, 105, 109, 101, 32, 108, 111, 111, 112, 46, 101, 120, 97, 109, 112, 108, 101, 47, 100, 101, 97, 100, 108, 105, 110, 101, 115, 99, 104, 101, 100, 117, 108, 101, 114, 47, 108, 97, 119, 115, 46, 70, 110, 66, 108, 111, 99, 107, 105, 110, 103, 84, 105, 109, 101, 32, 108, 111, 111, 112, 46, 101, 120, 97, 109, 112, 108, 101, 47, 100, 101, 97, 100, 108, 105, 110, 101, 115, 99, 104, 101, 100, 117, 108, 101, 114, 47, 108, 97, 119, 115, 46, 70, 110, 69, 120, 97, 99, 116, 78, 111, 110, 80, 114, 101, 101, 109, 112, 116, 105, 118, 101, 70, 101, 97, 115, 105, 98, 108, 101, 32, 108, 111, 111, 112, 46, 101, 120, 97, 109, 112, 108, 101, 47, 100, 101, 97, 100, 108, 105, 110, 101, 115, 99, 104, 101, 100, 117, 108, 101, 114, 47, 108, 97, 119, 115, 46, 70, 110, 69, 120, 97, 99, 116, 83, 117, 112, 112, 108, 121, 70, 101, 97, 115, 105, 98, 108, 101, 32, 108, 111, 111, 112, 46, 101, 120, 97, 109, 112, 108, 101, 47, 100, 101, 97, 100, 108, 105, 110, 101, 115, 99, 104, 101, 100, 117, 108, 101, 114, 47, 108, 97, 119, 115, 46, 70, 110, 69, 120, 97, 99, 116, 77, 105, 110, 66, 117, 100, 103, 101, 116, 32, 108, 111, 111, 112, 46, 101, 120, 97, 109, 112, 108, 101, 47, 100, 101, 97, 100, 108, 105, 110, 101, 115, 99, 104, 101, 100, 117, 108, 101, 114, 47, 108, 97, 119, 115, 46, 70, 110, 83, 117, 112, 112, 108, 121, 70, 101, 97, 115, 105, 98, 108, 101, 32, 108, 111, 111, 112, 46, 101, 120, 97, 109, 112, 108, 101, 47, 100, 101, 97, 100, 108, 105, 110, 101, 115, 99, 104, 101, 100, 117, 108, 101, 114, 47, 108, 97, 119, 115, 46, 70, 110, 77, 105, 110, 66, 117, 100, 103, 101, 116, 32, 108, 111, 111, 112, 46, 101, 120, 97, 109, 112, 108, 101, 47, 100, 101, 97, 100, 108, 105, 110, 101, 115, 99, 104, 101, 100, 117, 108, 101, 114, 47, 108, 97, 119, 115, 46, 70, 110, 72, 121, 112, 101, 114, 98, 111, 108, 105, 99, 32, 108, 111, 111, 112, 46, 101, 120, 97, 109, 112, 108, 101, 47, 100, 101, 97, 100, 108, 105, 110, 101, 115, 99, 104, 101, 100, 117, 108, 101, 114, 47, 108, 97, 119, 115, 46, 70, 110, 72, 97, 114, 109, 111, 110, 105, 99, 32, 108, 111, 111, 112, 46, 101, 120, 97, 109, 112, 108, 101, 47, 100, 101, 97, 100, 108, 105, 110, 101, 115, 99, 104, 101, 100, 117, 108, 101, 114, 47, 108, 97, 119, 115, 46, 70, 110, 82, 97, 116, 101, 76, 111, 115, 101, 115]
theorem io_eq : Try.prog.initOrder = String.ofList (chars (w1 ++ 32 :: (w2 ++ 32 :: (w3 ++ 32 :: w4)))) := by kernel_rfl
theorem io_list : Try.prog.initOrder.toList = chars (w1 ++ 32 :: (w2 ++ 32 :: (w3 ++ 32 :: w4))) := by rw [io_eq, String.toList_ofList]
theorem ws_one (c : Char) (r w : List Char) (ws : List (List Char)) (hc : c ≠ Char.ofNat 32) (h : wordsSigns r = w :: ws) : wordsSigns (c :: r) = (c :: w) :: ws := by
  have e : wordsSigns (c :: r) = match wordsSigns r with
    | w :: ws => (c :: w) :: ws
    | [] => [[c]] := by
    rw [wordsSigns]
    · rfl
    · exact hc
  rw [e, h]
theorem ws_word (w : List Char) (h : ∀ c ∈ w, c ≠ Char.ofNat 32) (r : List Char) : wordsSigns (w ++ Char.ofNat 32 :: r) = w :: wordsSigns r := by
  induction w with
  | nil => rfl
  | cons c w ih => exact ws_one _ _ _ _ (h c (by simp)) (ih (fun x hx => h x (by simp [hx])))
theorem ws_nat (w r : List Nat) (h : w.all (fun n => !(Char.ofNat n == Char.ofNat 32)) = true) : wordsSigns (chars (w ++ 32 :: r)) = chars w :: wordsSigns (chars r) := by
  have e : chars (w ++ 32 :: r) = chars w ++ Char.ofNat 32 :: chars r := by simp [chars]
  rw [e]
  refine ws_word _ (fun c hc => ?_) _
  obtain ⟨n, hn, rfl⟩ := List.mem_map.1 hc
  have := List.all_eq_true.1 h n hn
  simpa using this
theorem io_words : behindMainWord (wordsSigns Try.prog.initOrder.toList) = chars w3 :: wordsSigns (chars w4) := by
  rw [io_list, ws_nat _ _ (by kernel_rfl), ws_nat _ _ (by kernel_rfl), ws_nat _ _ (by kernel_rfl)]
  generalize wordsSigns (chars w4) = R
  kernel_rfl
theorem make_gen (P : Program) (c : List Char) (R : List (List Char)) (h : behindMainWord (wordsSigns P.initOrder.toList) = c :: R) (h1 : (c == "gc".toList || c == "spec".toList) = false) (h2 : (c == "cut".toList) = true) : P.make = some .cut := by
  unfold Program.make
  rw [h]
  simp only [h1, h2, Bool.true_or, if_true, Bool.false_eq_true, if_false]
theorem make : Try.prog.make = some .cut := make_gen _ _ _ io_words (by kernel_rfl) (by kernel_rfl)
theorem enter_gen (P : Program) (c : List Char) (R : List (List Char)) (h : behindMainWord (wordsSigns P.initOrder.toList) = c :: R) (h1 : ∀ R, stripLifts liftWords (c :: R) = ([], c :: R)) (h2 : (some c == some "cut".toList) = true)
    (h3 : P.laysLater = false) (h4 : P.bearsReflect = false) (h5 : P.doorFits [] = true) : P.mayEnter = true := by
  unfold Program.mayEnter
  rw [h]
  simp only [h1, h2, h3, h4, h5, List.head?_cons, Bool.not_false, Bool.or_true, Bool.and_true, List.contains_nil]
theorem enter : Try.prog.mayEnter = true := enter_gen _ _ _ io_words (fun R => by kernel_rfl) (by kernel_rfl) (by kernel_rfl) (by kernel_rfl) (by kernel_rfl)
theorem lifts : Try.prog.liftsFinal = false := by
  unfold Program.liftsFinal Program.headLifts
  simp only [io_words]
  generalize wordsSigns (chars w4) = R
  kernel_rfl
end Go.Proofs.Ytgcjadhmkhpbnaa.Head
/- The law FnHarmonic, proved: for every input the call returns true and each argument reads as it did. No condition. -/
namespace Go.Proofs.Ytgcjadhmkhpbnaa.fnHarmonic
open Go.ChangeShapes Go.WideShapes Go.ChangeAt Go.RowKit Go.Proofs.YtgcjadhmkhpbnaaW.PrintWords Go.Proofs.Ytgcjadhmkhpbnaa.P
open Go.ChangeMaps (open_string shut_string)
theorem own : ownKnob Try.prog.godebug = none := by kernel_rfl
theorem laidOut : laidOutB Try.prog = true := by kernel_rfl
set_option maxRecDepth 100000 in
theorem lifted (os : Os) (started : os.Started) (H : Type) (enc : TypeId × Value → H) :
    ReturnsInHanded {} Try.checked os 13 .any (Rows.fnHarmonicSpec.pre6 enc Try.prog Try.f13 Rows.fnHarmonicRow.domain false) (Rows.fnHarmonicSpec.post enc Try.prog Try.f13 false true false false) := by
  refine returnsInHanded_of_change_sized (C := Try.checked) own started (by kernel_rfl) Try.func13
    (ChangeSpec.witness6 (enc := enc) (C := Try.checked) false ⟨#[], #[.slice none 0 0], []⟩ 8 (by kernel_rfl) (by kernel_rfl) (by kernel_rfl) (by kernel_rfl)) ?_
  intro W base args ds gs before hval0 hW hcnd hsz0 _
  have hsz : (DataW.weightsEach Try.prog (Try.f13.params.toList ++ Rows.fnHarmonicSpec.plain.varTypes Try.prog) (ds ++ gs)).all (· ≤ reachBytes) = true := hsz0
  have hval : ∀ (j : Nat) t v, Try.f13.params[j]? = some t → args[j]? = some v → Value.okWide Try.prog W .any base t v := hval0
  have hW' := hW
  obtain ⟨p, q, hA0, hV, rfl, hfz, hnd⟩ := hW
  have hA : DataW.TrodAll enc Try.prog W 0 (fun _ => true) true Try.f13.params.toList args.toList ds p := hA0
  rw [Try.params13] at hA hval hsz
  obtain ⟨v0, vs0, d0, ds0, p0, q0, hargs, rfl, rfl, h0, r0⟩ := trodAll_cons hA
  obtain ⟨rfl, rfl, rfl⟩ := trodAll_nil r0
  obtain rfl : args = #[v0] := by cases args; simp_all
  obtain ⟨rfl, rfl⟩ := trodVars_none hV
  have k0 := h0
  have lt0 : ∀ x ∈ p0, x.block < W.heap.size := by obtain ⟨m, hm⟩ := k0; exact DataW.trod_lt m _ _ _ hm
  obtain ⟨A0, n0, c0, rfl⟩ := okWide_slice Try.underlying34 (hval 0 34 v0 rfl rfl)
  have y0 : n0 * 1 ≤ 140737488351232 := Opn.sized_row hsz (j := 0) (t := 34) rfl rfl Try.underlying34 (by kernel_rfl) h0
  obtain ⟨l0, rfl, hc0, hm0, hr0, hg0⟩ : ∃ xs : List (Int), xs.length = n0 ∧ n0 ≤ c0 ∧ n0 ≤ maxLen ∧ Kd.C (Kd.int .u8) W A0 xs.length xs ∧ ∀ y0 ∈ xs, (Lit.int .u8 y0).wf = true := by
    obtain ⟨fuel, hf⟩ := h0
    exact Opn.slice_row Try.underlying34 (by kernel_rfl) (Opn.opens_int Try.underlying5) hf
  obtain ⟨k, hk⟩ := Pure.FnHarmonic l0 y0 ⟨hm0, hg0⟩
  clear hA0 hval0 hsz0 hsz
  refine (laws_FnHarmonic.calls k A0 c0 l0 true W hr0 hc0 hk).mono fun e W' ⟨he, hd⟩ => ?_
  have bel := hd
  subst he
  exact ⟨_, rfl, _, _, _, [], _, [], hW', trodAll_mk1 (shut_bool Try.underlying4 _), (trodAll_cons_mk (Below.trod laidOut (by kernel_rfl) (of_decide_eq_true (by kernel_rfl)) k0 bel lt0) trodAll_mk0), rfl, bel.frame _, fun h => by cases h⟩
theorem closed : joinedFacts Try.prog 13 Try.f13 Rows.fnHarmonicSpec Rows.fnHarmonicRow = true := by
  simp only [joinedFacts, Head.enter, Head.lifts, Head.make]
  kernel_rfl
theorem named : Try.prog.funcNamed Rows.fnHarmonicRow.func = some 13 := by kernel_rfl
theorem wrapped : Try.f13.isWrapper Try.prog Rows.fnHarmonicRow.wrapper Rows.fnHarmonicRow.mainSum := by unfold Func.isWrapper; first | (rw [if_pos (by decide +kernel)]; kernel_rfl) | (rw [if_neg (by decide +kernel)]; exact ⟨rfl, rfl⟩)
theorem over : Rows.fnHarmonicRow.holds Try.pinned (OpenSpec.ofChange Rows.fnHarmonicSpec) :=
  OpenClaim.holds_of_wide 13 Try.f13 rfl rfl rfl rfl rfl rfl rfl ⟨rfl, rfl, rfl, rfl, rfl⟩ rfl rfl rfl rfl rfl named Try.func13 closed
    (of_decide_eq_true (by kernel_rfl)) wrapped
    (fun os started H enc _ => lifted os started H enc)
theorem proved : Rows.FnHarmonicSaid := over
#print axioms proved
end Go.Proofs.Ytgcjadhmkhpbnaa.fnHarmonic
namespace Go.Proofs.Ytgcjadhmkhpbnaa
/-- The row, under a short name, for the claim. -/
theorem fnHarmonic_holds : Rows.FnHarmonicSaid := fnHarmonic.proved
end Go.Proofs.Ytgcjadhmkhpbnaa
