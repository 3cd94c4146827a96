/- The law FnConforms for every input, part 3 of its proof: what the program's functions answer, and the plain law. No condition. -/
import Derived.Test.YtkmpcmhkfnoeiaaMFnConforms1
import Derived.Test.YtkmpcmhkfnoeiaaMFnConforms2
import Derived.Test.YtkmpcmhkfnoeiaaWWords
import Derived.SizedLaws
import Derived.ChangeSlices
import Derived.ChangeArms
import Derived.WideShapes
import Derived.Deep.Slices
import Derived.OpenShut
import Derived.Test.YtkmpcmhkfnoeiaaRows
import Derived.JoinedOf
import Derived.KernelRfl
import Derived.WalkKit
import Derived.ProofKit
import Derived.ShutString
import Derived.ChangeOld
import Derived.Below
-- Laid by a program of this work.
namespace Go.Proofs.Ytkmpcmhkfnoeiaa.P
open Go.RowKit Go.Proofs.YtkmpcmhkfnoeiaaW.PrintWords Go.Proofs.YtkmpcmhkfnoeiaaW.PrintLast Go.Proofs.YtkmpcmhkfnoeiaaW.PrintMore
attribute [local go_sem] max2_int min2_int max_two min_two max_three min_three max_four min_four   -- for this text's walks alone
set_option linter.unusedVariables false
set_option linter.unusedSimpArgs false

/-! ### impl_served: function 71 -/
def impl_served.f (a0_0 : Int) (a0_1 : Int) (a1_0 : Int) (a1_1 : Int) : Option (Bool) := (impl_FlowValid.f a0_0 a0_1).bind fun t544 => (if t544 = true then ((impl_LinkValid.f a1_0 a1_1).bind fun t545 => (if t545 = true then (some (decide (a0_1 ≤ a1_1))) else (some false))) else (some false))
set_option maxHeartbeats 8000000 in
set_option maxRecDepth 100000 in
theorem impl_served.calls (a0_0 : Int) (a0_1 : Int) (a1_0 : Int) (a1_1 : Int) (r : Bool) (w : World) (h : impl_served.f a0_0 a0_1 a1_0 a1_1 = some r) :
    Calls Try.prog 71 #[.agg #[.int .i64 a0_0, .int .i64 a0_1], .agg #[.int .i64 a1_0, .int .i64 a1_1]] w fun e w' => e = .returned (.bool r) ∧ Below w.heap.size w w' := by
  have hu41 := Try.underlying41
  have hu51 := Try.underlying51
  have HB := Aside0.mk (Below.refl w.heap.size w)
  have H : ((impl_FlowValid.f a0_0 a0_1).bind fun t544 => (if t544 = true then ((impl_LinkValid.f a1_0 a1_1).bind fun t545 => (if t545 = true then (some (decide (a0_1 ≤ a1_1))) else (some false))) else (some false))) = some r := h
  clear h
  replace H := Option.bind_eq_some_iff.mp H
  obtain ⟨t544, A30, H⟩ := H
  replace H : (if t544 = true then ((impl_LinkValid.f a1_0 a1_1).bind fun t545 => (if t545 = true then (some (decide (a0_1 ≤ a1_1))) else (some false))) else (some false)) = some r := H
  have A3 := Aside0.mk A30
  clear A30
  by_cases c4 : t544 = true
  · subst c4
    have H1 : ((impl_LinkValid.f a1_0 a1_1).bind fun t545 => (if t545 = true then (some (decide (a0_1 ≤ a1_1))) else (some false))) = some r := by rw [if_pos rfl] at H; exact H
    clear H
    have H := H1
    clear H1
    replace H := Option.bind_eq_some_iff.mp H
    obtain ⟨t545, A50, H⟩ := H
    replace H : (if t545 = true then (some (decide (a0_1 ≤ a1_1))) else (some false)) = some r := H
    have A5 := Aside0.mk A50
    clear A50
    by_cases c6 : t545 = true
    · subst c6
      have H1 : (some (decide (a0_1 ≤ a1_1))) = some r := by rw [if_pos rfl] at H; exact H
      clear H
      have H := H1
      clear H1
      obtain rfl := Option.some.inj H
      go_enter Try.func71, Try.ntmps71
      go_wp2_with (first | ((with_reducible refine gate_dst (N := 2) rfl ?_); refine box_event ?hg (N := 2) ?hd (cs := #[.int .i64 a0_0, .int .i64 a0_1]) (t := 41) ?hr ?_; (case hd => rfl); (case hg => rfl); (case hr => first | (go_simp; done) | (go_simp; rfl)); intro gb542 hg w7 hbox hb; have n0_ := Aside0.mk (below_step (by repeat (first | (with_reducible first | exact HB.out | apply below_alloc | apply pw_below_drewN | apply below_drew1) | exact HB.out)) hb); have n1_ := Aside0.mk (hbox); have n2_ := Aside0.mk ((by rw [hg]; exact (below_size (by repeat (first | (with_reducible first | exact HB.out | apply below_alloc | apply pw_below_drewN | apply below_drew1) | exact HB.out))) : w.heap.size ≤ gb542)); have n3_ := Aside0.mk ((by rw [hg]; exact (below_size (by repeat (first | (with_reducible first | exact HB.out | apply below_alloc | apply pw_below_drewN | apply below_drew1) | exact HB.out))) : w.heap.size ≤ gb542)); clear HB; have HB := n0_; have BK542 := n1_; have GW542 := n2_; have GE542 := n3_; clear n0_ n1_ n2_ n3_; clear hb hbox hg) | ((with_reducible refine gate_dst (N := 3) rfl ?_); refine box_event ?hg (N := 3) ?hd (cs := #[.int .i64 a1_0, .int .i64 a1_1]) (t := 51) ?hr ?_; (case hd => rfl); (case hg => rfl); (case hr => first | (go_simp; done) | (go_simp; rfl)); intro gb543 hg w8 hbox hb; have n0_ := Aside0.mk (blk_below (g := gb542) (o := .cells #[.int .i64 a0_0, .int .i64 a0_1] 41 (0, 0)) (by (with_reducible repeat (first | refine blk_drewN ?_ _ | refine blk_drew ?_ | refine blk_alloc ?_ _)); exact BK542.out) hb); have n1_ := Aside0.mk (below_step (by repeat (first | (with_reducible first | exact HB.out | apply below_alloc | apply pw_below_drewN | apply below_drew1 | refine below_set ?_ GE542.out) | exact HB.out)) hb); have n2_ := Aside0.mk (hbox); have n3_ := Aside0.mk ((by rw [hg]; exact (below_size (by repeat (first | (with_reducible first | exact HB.out | apply below_alloc | apply pw_below_drewN | apply below_drew1 | refine below_set ?_ GE542.out) | exact HB.out))) : w.heap.size ≤ gb543)); have n4_ := Aside0.mk ((by rw [hg]; exact (below_size (by repeat (first | (with_reducible first | exact HB.out | apply below_alloc | apply pw_below_drewN | apply below_drew1 | refine below_set ?_ GE542.out) | exact HB.out))) : w.heap.size ≤ gb543)); have n5_ := Aside0.mk ((by rw [hg]; exact Nat.ne_of_lt (blk_lt (g := gb542) (o := .cells #[.int .i64 a0_0, .int .i64 a0_1] 41 (0, 0)) (by (with_reducible repeat (first | refine blk_drewN ?_ _ | refine blk_drew ?_ | refine blk_alloc ?_ _)); exact BK542.out)) : gb542 ≠ gb543)); have n6_ := Aside0.mk ((by rw [hg]; exact Nat.ne_of_gt (blk_lt (g := gb542) (o := .cells #[.int .i64 a0_0, .int .i64 a0_1] 41 (0, 0)) (by (with_reducible repeat (first | refine blk_drewN ?_ _ | refine blk_drew ?_ | refine blk_alloc ?_ _)); exact BK542.out)) : gb543 ≠ gb542)); clear BK542; clear HB; have BK542 := n0_; have HB := n1_; have BK543 := n2_; have GW543 := n3_; have GE543 := n4_; have NB542_543 := n5_; have NB543_542 := n6_; clear n0_ n1_ n2_ n3_ n4_ n5_ n6_; clear hb hbox hg; have hnb9 := NB542_543.out; have hnc9 := NB543_542.out; have hcz10_0 : w8.cell? ⟨gb542, 0, none⟩ = some (.int .i64 a0_0) := (blk_cell BK542.out 0).trans rfl; have hcz10_1 : w8.cell? ⟨gb542, 1, none⟩ = some (.int .i64 a0_1) := (blk_cell BK542.out 1).trans rfl; have hfz10_0 := blk_frozen BK542.out 0; have hfz10_1 := blk_frozen BK542.out 1) | ((with_reducible refine gate_callee (f := 64) rfl ?_); refine goesL_ (some 6) rfl rfl Try.func64 (by kernel_rfl) rfl #[.agg #[.int .i64 a0_0, .int .i64 a0_1]] rfl (by (try simp only [List.map_toArray, List.map_cons, List.map_nil]); first | done | rfl | (simp only [List.length_drop, List.length_take]; rfl)) ?_; (with_reducible refine (impl_FlowValid.calls a0_0 a0_1 true _ A3.out).mono ?_); rintro e w11 ⟨rfl, hb⟩; refine ⟨_, rfl, ?_⟩; have n0_ := Aside0.mk (blk_below (g := gb542) (o := .cells #[.int .i64 a0_0, .int .i64 a0_1] 41 (0, 0)) (by (with_reducible repeat (first | refine blk_drewN ?_ _ | refine blk_drew ?_ | refine blk_alloc ?_ _)); exact BK542.out) hb); have n1_ := Aside0.mk (blk_below (g := gb543) (o := .cells #[.int .i64 a1_0, .int .i64 a1_1] 51 (0, 0)) (by (with_reducible repeat (first | refine blk_drewN ?_ _ | refine blk_drew ?_ | refine blk_alloc ?_ _)); exact BK543.out) hb); have n2_ := Aside0.mk (below_step (by repeat (first | (with_reducible first | exact HB.out | apply below_alloc | apply pw_below_drewN | apply below_drew1 | refine below_set ?_ GE542.out | refine below_set ?_ GE543.out) | exact HB.out)) hb); clear BK542; clear BK543; clear HB; have BK542 := n0_; have BK543 := n1_; have HB := n2_; clear n0_ n1_ n2_; (try clear hb); (try clear hb2); (try clear hk); (try clear hi); have hcz12_0 : w11.cell? ⟨gb543, 0, none⟩ = some (.int .i64 a1_0) := (blk_cell BK543.out 0).trans rfl; have hcz12_1 : w11.cell? ⟨gb543, 1, none⟩ = some (.int .i64 a1_1) := (blk_cell BK543.out 1).trans rfl; have hfz12_0 := blk_frozen BK543.out 0; have hfz12_1 := blk_frozen BK543.out 1) | (go_at_call 69; (with_reducible refine (impl_LinkValid.calls a1_0 a1_1 true _ A5.out).mono ?_); rintro e w13 ⟨rfl, hb⟩; have n0_ := Aside0.mk (blk_below (g := gb542) (o := .cells #[.int .i64 a0_0, .int .i64 a0_1] 41 (0, 0)) (by (with_reducible repeat (first | refine blk_drewN ?_ _ | refine blk_drew ?_ | refine blk_alloc ?_ _)); exact BK542.out) hb); have n1_ := Aside0.mk (blk_below (g := gb543) (o := .cells #[.int .i64 a1_0, .int .i64 a1_1] 51 (0, 0)) (by (with_reducible repeat (first | refine blk_drewN ?_ _ | refine blk_drew ?_ | refine blk_alloc ?_ _)); exact BK543.out) hb); have n2_ := Aside0.mk (below_step (by repeat (first | (with_reducible first | exact HB.out | apply below_alloc | apply pw_below_drewN | apply below_drew1 | refine below_set ?_ GE542.out | refine below_set ?_ GE543.out) | exact HB.out)) hb); clear BK542; clear BK543; clear HB; have BK542 := n0_; have BK543 := n1_; have HB := n2_; clear n0_ n1_ n2_; (try clear hb); (try clear hb2); (try clear hk); (try clear hi); have hcz14_0 : w13.cell? ⟨gb542, 0, none⟩ = some (.int .i64 a0_0) := (blk_cell BK542.out 0).trans rfl; have hcz14_1 : w13.cell? ⟨gb542, 1, none⟩ = some (.int .i64 a0_1) := (blk_cell BK542.out 1).trans rfl; have hfz14_0 := blk_frozen BK542.out 0; have hfz14_1 := blk_frozen BK542.out 1; have hcz15_0 : w13.cell? ⟨gb543, 0, none⟩ = some (.int .i64 a1_0) := (blk_cell BK543.out 0).trans rfl; have hcz15_1 : w13.cell? ⟨gb543, 1, none⟩ = some (.int .i64 a1_1) := (blk_cell BK543.out 1).trans rfl; have hfz15_0 := blk_frozen BK543.out 0; have hfz15_1 := blk_frozen BK543.out 1))
      go_ret
      exact ⟨by first | rfl | (simp [errW_none, errW_some] <;> rfl) | (simp [*, errW_none, errW_some] <;> rfl), by repeat (first | (with_reducible first | exact HB.out | apply below_alloc | apply pw_below_drewN | apply below_drew1 | refine below_set ?_ GE542.out | refine below_set ?_ GE543.out) | exact HB.out)⟩
    · replace c6 := Bool.eq_false_iff.mpr c6
      subst c6
      have H1 : (some false) = some r := by rw [if_neg (show ¬ (false = true) by decide)] at H; exact H
      clear H
      have H := H1
      clear H1
      obtain rfl := Option.some.inj H
      go_enter Try.func71, Try.ntmps71
      go_wp2_with (first | ((with_reducible refine gate_dst (N := 2) rfl ?_); refine box_event ?hg (N := 2) ?hd (cs := #[.int .i64 a0_0, .int .i64 a0_1]) (t := 41) ?hr ?_; (case hd => rfl); (case hg => rfl); (case hr => first | (go_simp; done) | (go_simp; rfl)); intro gb542 hg w16 hbox hb; have n0_ := Aside0.mk (below_step (by repeat (first | (with_reducible first | exact HB.out | apply below_alloc | apply pw_below_drewN | apply below_drew1) | exact HB.out)) hb); have n1_ := Aside0.mk (hbox); have n2_ := Aside0.mk ((by rw [hg]; exact (below_size (by repeat (first | (with_reducible first | exact HB.out | apply below_alloc | apply pw_below_drewN | apply below_drew1) | exact HB.out))) : w.heap.size ≤ gb542)); have n3_ := Aside0.mk ((by rw [hg]; exact (below_size (by repeat (first | (with_reducible first | exact HB.out | apply below_alloc | apply pw_below_drewN | apply below_drew1) | exact HB.out))) : w.heap.size ≤ gb542)); clear HB; have HB := n0_; have BK542 := n1_; have GW542 := n2_; have GE542 := n3_; clear n0_ n1_ n2_ n3_; clear hb hbox hg) | ((with_reducible refine gate_dst (N := 3) rfl ?_); refine box_event ?hg (N := 3) ?hd (cs := #[.int .i64 a1_0, .int .i64 a1_1]) (t := 51) ?hr ?_; (case hd => rfl); (case hg => rfl); (case hr => first | (go_simp; done) | (go_simp; rfl)); intro gb543 hg w17 hbox hb; have n0_ := Aside0.mk (blk_below (g := gb542) (o := .cells #[.int .i64 a0_0, .int .i64 a0_1] 41 (0, 0)) (by (with_reducible repeat (first | refine blk_drewN ?_ _ | refine blk_drew ?_ | refine blk_alloc ?_ _)); exact BK542.out) hb); have n1_ := Aside0.mk (below_step (by repeat (first | (with_reducible first | exact HB.out | apply below_alloc | apply pw_below_drewN | apply below_drew1 | refine below_set ?_ GE542.out) | exact HB.out)) hb); have n2_ := Aside0.mk (hbox); have n3_ := Aside0.mk ((by rw [hg]; exact (below_size (by repeat (first | (with_reducible first | exact HB.out | apply below_alloc | apply pw_below_drewN | apply below_drew1 | refine below_set ?_ GE542.out) | exact HB.out))) : w.heap.size ≤ gb543)); have n4_ := Aside0.mk ((by rw [hg]; exact (below_size (by repeat (first | (with_reducible first | exact HB.out | apply below_alloc | apply pw_below_drewN | apply below_drew1 | refine below_set ?_ GE542.out) | exact HB.out))) : w.heap.size ≤ gb543)); have n5_ := Aside0.mk ((by rw [hg]; exact Nat.ne_of_lt (blk_lt (g := gb542) (o := .cells #[.int .i64 a0_0, .int .i64 a0_1] 41 (0, 0)) (by (with_reducible repeat (first | refine blk_drewN ?_ _ | refine blk_drew ?_ | refine blk_alloc ?_ _)); exact BK542.out)) : gb542 ≠ gb543)); have n6_ := Aside0.mk ((by rw [hg]; exact Nat.ne_of_gt (blk_lt (g := gb542) (o := .cells #[.int .i64 a0_0, .int .i64 a0_1] 41 (0, 0)) (by (with_reducible repeat (first | refine blk_drewN ?_ _ | refine blk_drew ?_ | refine blk_alloc ?_ _)); exact BK542.out)) : gb543 ≠ gb542)); clear BK542; clear HB; have BK542 := n0_; have HB := n1_; have BK543 := n2_; have GW543 := n3_; have GE543 := n4_; have NB542_543 := n5_; have NB543_542 := n6_; clear n0_ n1_ n2_ n3_ n4_ n5_ n6_; clear hb hbox hg; have hnb18 := NB542_543.out; have hnc18 := NB543_542.out; have hcz19_0 : w17.cell? ⟨gb542, 0, none⟩ = some (.int .i64 a0_0) := (blk_cell BK542.out 0).trans rfl; have hcz19_1 : w17.cell? ⟨gb542, 1, none⟩ = some (.int .i64 a0_1) := (blk_cell BK542.out 1).trans rfl; have hfz19_0 := blk_frozen BK542.out 0; have hfz19_1 := blk_frozen BK542.out 1) | ((with_reducible refine gate_callee (f := 64) rfl ?_); refine goesL_ (some 6) rfl rfl Try.func64 (by kernel_rfl) rfl #[.agg #[.int .i64 a0_0, .int .i64 a0_1]] rfl (by (try simp only [List.map_toArray, List.map_cons, List.map_nil]); first | done | rfl | (simp only [List.length_drop, List.length_take]; rfl)) ?_; (with_reducible refine (impl_FlowValid.calls a0_0 a0_1 true _ A3.out).mono ?_); rintro e w20 ⟨rfl, hb⟩; refine ⟨_, rfl, ?_⟩; have n0_ := Aside0.mk (blk_below (g := gb542) (o := .cells #[.int .i64 a0_0, .int .i64 a0_1] 41 (0, 0)) (by (with_reducible repeat (first | refine blk_drewN ?_ _ | refine blk_drew ?_ | refine blk_alloc ?_ _)); exact BK542.out) hb); have n1_ := Aside0.mk (blk_below (g := gb543) (o := .cells #[.int .i64 a1_0, .int .i64 a1_1] 51 (0, 0)) (by (with_reducible repeat (first | refine blk_drewN ?_ _ | refine blk_drew ?_ | refine blk_alloc ?_ _)); exact BK543.out) hb); have n2_ := Aside0.mk (below_step (by repeat (first | (with_reducible first | exact HB.out | apply below_alloc | apply pw_below_drewN | apply below_drew1 | refine below_set ?_ GE542.out | refine below_set ?_ GE543.out) | exact HB.out)) hb); clear BK542; clear BK543; clear HB; have BK542 := n0_; have BK543 := n1_; have HB := n2_; clear n0_ n1_ n2_; (try clear hb); (try clear hb2); (try clear hk); (try clear hi); have hcz21_0 : w20.cell? ⟨gb543, 0, none⟩ = some (.int .i64 a1_0) := (blk_cell BK543.out 0).trans rfl; have hcz21_1 : w20.cell? ⟨gb543, 1, none⟩ = some (.int .i64 a1_1) := (blk_cell BK543.out 1).trans rfl; have hfz21_0 := blk_frozen BK543.out 0; have hfz21_1 := blk_frozen BK543.out 1) | (go_at_call 69; (with_reducible refine (impl_LinkValid.calls a1_0 a1_1 false _ A5.out).mono ?_); rintro e w22 ⟨rfl, hb⟩; have n0_ := Aside0.mk (blk_below (g := gb542) (o := .cells #[.int .i64 a0_0, .int .i64 a0_1] 41 (0, 0)) (by (with_reducible repeat (first | refine blk_drewN ?_ _ | refine blk_drew ?_ | refine blk_alloc ?_ _)); exact BK542.out) hb); have n1_ := Aside0.mk (blk_below (g := gb543) (o := .cells #[.int .i64 a1_0, .int .i64 a1_1] 51 (0, 0)) (by (with_reducible repeat (first | refine blk_drewN ?_ _ | refine blk_drew ?_ | refine blk_alloc ?_ _)); exact BK543.out) hb); have n2_ := Aside0.mk (below_step (by repeat (first | (with_reducible first | exact HB.out | apply below_alloc | apply pw_below_drewN | apply below_drew1 | refine below_set ?_ GE542.out | refine below_set ?_ GE543.out) | exact HB.out)) hb); clear BK542; clear BK543; clear HB; have BK542 := n0_; have BK543 := n1_; have HB := n2_; clear n0_ n1_ n2_; (try clear hb); (try clear hb2); (try clear hk); (try clear hi)))
      go_ret
      exact ⟨by first | rfl | (simp [errW_none, errW_some] <;> rfl) | (simp [*, errW_none, errW_some] <;> rfl), by repeat (first | (with_reducible first | exact HB.out | apply below_alloc | apply pw_below_drewN | apply below_drew1 | refine below_set ?_ GE542.out | refine below_set ?_ GE543.out) | exact HB.out)⟩
  · replace c4 := Bool.eq_false_iff.mpr c4
    subst c4
    have H1 : (some false) = some r := by rw [if_neg (show ¬ (false = true) by decide)] at H; exact H
    clear H
    have H := H1
    clear H1
    obtain rfl := Option.some.inj H
    go_enter Try.func71, Try.ntmps71
    go_wp2_with (first | ((with_reducible refine gate_dst (N := 2) rfl ?_); refine box_event ?hg (N := 2) ?hd (cs := #[.int .i64 a0_0, .int .i64 a0_1]) (t := 41) ?hr ?_; (case hd => rfl); (case hg => rfl); (case hr => first | (go_simp; done) | (go_simp; rfl)); intro gb542 hg w23 hbox hb; have n0_ := Aside0.mk (below_step (by repeat (first | (with_reducible first | exact HB.out | apply below_alloc | apply pw_below_drewN | apply below_drew1) | exact HB.out)) hb); have n1_ := Aside0.mk (hbox); have n2_ := Aside0.mk ((by rw [hg]; exact (below_size (by repeat (first | (with_reducible first | exact HB.out | apply below_alloc | apply pw_below_drewN | apply below_drew1) | exact HB.out))) : w.heap.size ≤ gb542)); have n3_ := Aside0.mk ((by rw [hg]; exact (below_size (by repeat (first | (with_reducible first | exact HB.out | apply below_alloc | apply pw_below_drewN | apply below_drew1) | exact HB.out))) : w.heap.size ≤ gb542)); clear HB; have HB := n0_; have BK542 := n1_; have GW542 := n2_; have GE542 := n3_; clear n0_ n1_ n2_ n3_; clear hb hbox hg) | ((with_reducible refine gate_dst (N := 3) rfl ?_); refine box_event ?hg (N := 3) ?hd (cs := #[.int .i64 a1_0, .int .i64 a1_1]) (t := 51) ?hr ?_; (case hd => rfl); (case hg => rfl); (case hr => first | (go_simp; done) | (go_simp; rfl)); intro gb543 hg w24 hbox hb; have n0_ := Aside0.mk (blk_below (g := gb542) (o := .cells #[.int .i64 a0_0, .int .i64 a0_1] 41 (0, 0)) (by (with_reducible repeat (first | refine blk_drewN ?_ _ | refine blk_drew ?_ | refine blk_alloc ?_ _)); exact BK542.out) hb); have n1_ := Aside0.mk (below_step (by repeat (first | (with_reducible first | exact HB.out | apply below_alloc | apply pw_below_drewN | apply below_drew1 | refine below_set ?_ GE542.out) | exact HB.out)) hb); have n2_ := Aside0.mk (hbox); have n3_ := Aside0.mk ((by rw [hg]; exact (below_size (by repeat (first | (with_reducible first | exact HB.out | apply below_alloc | apply pw_below_drewN | apply below_drew1 | refine below_set ?_ GE542.out) | exact HB.out))) : w.heap.size ≤ gb543)); have n4_ := Aside0.mk ((by rw [hg]; exact (below_size (by repeat (first | (with_reducible first | exact HB.out | apply below_alloc | apply pw_below_drewN | apply below_drew1 | refine below_set ?_ GE542.out) | exact HB.out))) : w.heap.size ≤ gb543)); have n5_ := Aside0.mk ((by rw [hg]; exact Nat.ne_of_lt (blk_lt (g := gb542) (o := .cells #[.int .i64 a0_0, .int .i64 a0_1] 41 (0, 0)) (by (with_reducible repeat (first | refine blk_drewN ?_ _ | refine blk_drew ?_ | refine blk_alloc ?_ _)); exact BK542.out)) : gb542 ≠ gb543)); have n6_ := Aside0.mk ((by rw [hg]; exact Nat.ne_of_gt (blk_lt (g := gb542) (o := .cells #[.int .i64 a0_0, .int .i64 a0_1] 41 (0, 0)) (by (with_reducible repeat (first | refine blk_drewN ?_ _ | refine blk_drew ?_ | refine blk_alloc ?_ _)); exact BK542.out)) : gb543 ≠ gb542)); clear BK542; clear HB; have BK542 := n0_; have HB := n1_; have BK543 := n2_; have GW543 := n3_; have GE543 := n4_; have NB542_543 := n5_; have NB543_542 := n6_; clear n0_ n1_ n2_ n3_ n4_ n5_ n6_; clear hb hbox hg; have hnb25 := NB542_543.out; have hnc25 := NB543_542.out; have hcz26_0 : w24.cell? ⟨gb542, 0, none⟩ = some (.int .i64 a0_0) := (blk_cell BK542.out 0).trans rfl; have hcz26_1 : w24.cell? ⟨gb542, 1, none⟩ = some (.int .i64 a0_1) := (blk_cell BK542.out 1).trans rfl; have hfz26_0 := blk_frozen BK542.out 0; have hfz26_1 := blk_frozen BK542.out 1) | ((with_reducible refine gate_callee (f := 64) rfl ?_); refine goesL_ (some 6) rfl rfl Try.func64 (by kernel_rfl) rfl #[.agg #[.int .i64 a0_0, .int .i64 a0_1]] rfl (by (try simp only [List.map_toArray, List.map_cons, List.map_nil]); first | done | rfl | (simp only [List.length_drop, List.length_take]; rfl)) ?_; (with_reducible refine (impl_FlowValid.calls a0_0 a0_1 false _ A3.out).mono ?_); rintro e w27 ⟨rfl, hb⟩; refine ⟨_, rfl, ?_⟩; have n0_ := Aside0.mk (blk_below (g := gb542) (o := .cells #[.int .i64 a0_0, .int .i64 a0_1] 41 (0, 0)) (by (with_reducible repeat (first | refine blk_drewN ?_ _ | refine blk_drew ?_ | refine blk_alloc ?_ _)); exact BK542.out) hb); have n1_ := Aside0.mk (blk_below (g := gb543) (o := .cells #[.int .i64 a1_0, .int .i64 a1_1] 51 (0, 0)) (by (with_reducible repeat (first | refine blk_drewN ?_ _ | refine blk_drew ?_ | refine blk_alloc ?_ _)); exact BK543.out) hb); have n2_ := Aside0.mk (below_step (by repeat (first | (with_reducible first | exact HB.out | apply below_alloc | apply pw_below_drewN | apply below_drew1 | refine below_set ?_ GE542.out | refine below_set ?_ GE543.out) | exact HB.out)) hb); clear BK542; clear BK543; clear HB; have BK542 := n0_; have BK543 := n1_; have HB := n2_; clear n0_ n1_ n2_; (try clear hb); (try clear hb2); (try clear hk); (try clear hi)))
    go_ret
    exact ⟨by first | rfl | (simp [errW_none, errW_some] <;> rfl) | (simp [*, errW_none, errW_some] <;> rfl), by repeat (first | (with_reducible first | exact HB.out | apply below_alloc | apply pw_below_drewN | apply below_drew1 | refine below_set ?_ GE542.out | refine below_set ?_ GE543.out) | exact HB.out)⟩

end Go.Proofs.Ytkmpcmhkfnoeiaa.P
-- Laid by a program of this work.
namespace Go.Proofs.Ytkmpcmhkfnoeiaa.P
open Go.RowKit Go.Proofs.YtkmpcmhkfnoeiaaW.PrintWords Go.Proofs.YtkmpcmhkfnoeiaaW.PrintLast Go.Proofs.YtkmpcmhkfnoeiaaW.PrintMore
attribute [local go_sem] max2_int min2_int max_two min_two max_three min_three max_four min_four   -- for this text's walks alone
set_option linter.unusedVariables false
set_option linter.unusedSimpArgs false

/-! ### impl_BacklogBound: function 38 -/
def impl_BacklogBound.f (a0_0 : Int) (a0_1 : Int) (a1_0 : Int) (a1_1 : Int) : Option (Int) := (impl_served.f a0_0 a0_1 a1_0 a1_1).bind fun t548 => (if t548 = true then (some (wrap64 (a0_0 + (wrap64 (a0_1 * a1_0))))) else (some (-1)))
set_option maxHeartbeats 8000000 in
set_option maxRecDepth 100000 in
theorem impl_BacklogBound.calls (a0_0 : Int) (a0_1 : Int) (a1_0 : Int) (a1_1 : Int) (r : Int) (w : World) (h : impl_BacklogBound.f a0_0 a0_1 a1_0 a1_1 = some r) :
    Calls Try.prog 38 #[.agg #[.int .i64 a0_0, .int .i64 a0_1], .agg #[.int .i64 a1_0, .int .i64 a1_1]] w fun e w' => e = .returned (.int .i64 r) ∧ Below w.heap.size w w' := by
  have hu41 := Try.underlying41
  have hu51 := Try.underlying51
  have HB := Aside0.mk (Below.refl w.heap.size w)
  have H : ((impl_served.f a0_0 a0_1 a1_0 a1_1).bind fun t548 => (if t548 = true then (some (wrap64 (a0_0 + (wrap64 (a0_1 * a1_0))))) else (some (-1)))) = some r := h
  clear h
  replace H := Option.bind_eq_some_iff.mp H
  obtain ⟨t548, A30, H⟩ := H
  replace H : (if t548 = true then (some (wrap64 (a0_0 + (wrap64 (a0_1 * a1_0))))) else (some (-1))) = some r := H
  have A3 := Aside0.mk A30
  clear A30
  by_cases c4 : t548 = true
  · subst c4
    have H1 : (some (wrap64 (a0_0 + (wrap64 (a0_1 * a1_0))))) = some r := by rw [if_pos rfl] at H; exact H
    clear H
    have H := H1
    clear H1
    obtain rfl := Option.some.inj H
    go_enter Try.func38, Try.ntmps38
    go_wp2_with (first | ((with_reducible refine gate_dst (N := 2) rfl ?_); refine box_event ?hg (N := 2) ?hd (cs := #[.int .i64 a0_0, .int .i64 a0_1]) (t := 41) ?hr ?_; (case hd => rfl); (case hg => rfl); (case hr => first | (go_simp; done) | (go_simp; rfl)); intro gb546 hg w5 hbox hb; have n0_ := Aside0.mk (below_step (by repeat (first | (with_reducible first | exact HB.out | apply below_alloc | apply pw_below_drewN | apply below_drew1) | exact HB.out)) hb); have n1_ := Aside0.mk (hbox); have n2_ := Aside0.mk ((by rw [hg]; exact (below_size (by repeat (first | (with_reducible first | exact HB.out | apply below_alloc | apply pw_below_drewN | apply below_drew1) | exact HB.out))) : w.heap.size ≤ gb546)); have n3_ := Aside0.mk ((by rw [hg]; exact (below_size (by repeat (first | (with_reducible first | exact HB.out | apply below_alloc | apply pw_below_drewN | apply below_drew1) | exact HB.out))) : w.heap.size ≤ gb546)); clear HB; have HB := n0_; have BK546 := n1_; have GW546 := n2_; have GE546 := n3_; clear n0_ n1_ n2_ n3_; clear hb hbox hg) | ((with_reducible refine gate_dst (N := 3) rfl ?_); refine box_event ?hg (N := 3) ?hd (cs := #[.int .i64 a1_0, .int .i64 a1_1]) (t := 51) ?hr ?_; (case hd => rfl); (case hg => rfl); (case hr => first | (go_simp; done) | (go_simp; rfl)); intro gb547 hg w6 hbox hb; have n0_ := Aside0.mk (blk_below (g := gb546) (o := .cells #[.int .i64 a0_0, .int .i64 a0_1] 41 (0, 0)) (by (with_reducible repeat (first | refine blk_drewN ?_ _ | refine blk_drew ?_ | refine blk_alloc ?_ _)); exact BK546.out) hb); have n1_ := Aside0.mk (below_step (by repeat (first | (with_reducible first | exact HB.out | apply below_alloc | apply pw_below_drewN | apply below_drew1 | refine below_set ?_ GE546.out) | exact HB.out)) hb); have n2_ := Aside0.mk (hbox); have n3_ := Aside0.mk ((by rw [hg]; exact (below_size (by repeat (first | (with_reducible first | exact HB.out | apply below_alloc | apply pw_below_drewN | apply below_drew1 | refine below_set ?_ GE546.out) | exact HB.out))) : w.heap.size ≤ gb547)); have n4_ := Aside0.mk ((by rw [hg]; exact (below_size (by repeat (first | (with_reducible first | exact HB.out | apply below_alloc | apply pw_below_drewN | apply below_drew1 | refine below_set ?_ GE546.out) | exact HB.out))) : w.heap.size ≤ gb547)); have n5_ := Aside0.mk ((by rw [hg]; exact Nat.ne_of_lt (blk_lt (g := gb546) (o := .cells #[.int .i64 a0_0, .int .i64 a0_1] 41 (0, 0)) (by (with_reducible repeat (first | refine blk_drewN ?_ _ | refine blk_drew ?_ | refine blk_alloc ?_ _)); exact BK546.out)) : gb546 ≠ gb547)); have n6_ := Aside0.mk ((by rw [hg]; exact Nat.ne_of_gt (blk_lt (g := gb546) (o := .cells #[.int .i64 a0_0, .int .i64 a0_1] 41 (0, 0)) (by (with_reducible repeat (first | refine blk_drewN ?_ _ | refine blk_drew ?_ | refine blk_alloc ?_ _)); exact BK546.out)) : gb547 ≠ gb546)); clear BK546; clear HB; have BK546 := n0_; have HB := n1_; have BK547 := n2_; have GW547 := n3_; have GE547 := n4_; have NB546_547 := n5_; have NB547_546 := n6_; clear n0_ n1_ n2_ n3_ n4_ n5_ n6_; clear hb hbox hg; have hnb7 := NB546_547.out; have hnc7 := NB547_546.out; have hcz8_0 : w6.cell? ⟨gb546, 0, none⟩ = some (.int .i64 a0_0) := (blk_cell BK546.out 0).trans rfl; have hcz8_1 : w6.cell? ⟨gb546, 1, none⟩ = some (.int .i64 a0_1) := (blk_cell BK546.out 1).trans rfl; have hfz8_0 := blk_frozen BK546.out 0; have hfz8_1 := blk_frozen BK546.out 1; have hcz9_0 : w6.cell? ⟨gb547, 0, none⟩ = some (.int .i64 a1_0) := (blk_cell BK547.out 0).trans rfl; have hcz9_1 : w6.cell? ⟨gb547, 1, none⟩ = some (.int .i64 a1_1) := (blk_cell BK547.out 1).trans rfl; have hfz9_0 := blk_frozen BK547.out 0; have hfz9_1 := blk_frozen BK547.out 1) | ((with_reducible refine gate_callee (f := 71) rfl ?_); refine goesL_ (some 7) rfl rfl Try.func71 (by kernel_rfl) rfl #[.agg #[.int .i64 a0_0, .int .i64 a0_1], .agg #[.int .i64 a1_0, .int .i64 a1_1]] rfl (by (try simp only [List.map_toArray, List.map_cons, List.map_nil]); first | done | rfl | (simp only [List.length_drop, List.length_take]; rfl)) ?_; (with_reducible refine (impl_served.calls a0_0 a0_1 a1_0 a1_1 true _ A3.out).mono ?_); rintro e w10 ⟨rfl, hb⟩; refine ⟨_, rfl, ?_⟩; have n0_ := Aside0.mk (blk_below (g := gb546) (o := .cells #[.int .i64 a0_0, .int .i64 a0_1] 41 (0, 0)) (by (with_reducible repeat (first | refine blk_drewN ?_ _ | refine blk_drew ?_ | refine blk_alloc ?_ _)); exact BK546.out) hb); have n1_ := Aside0.mk (blk_below (g := gb547) (o := .cells #[.int .i64 a1_0, .int .i64 a1_1] 51 (0, 0)) (by (with_reducible repeat (first | refine blk_drewN ?_ _ | refine blk_drew ?_ | refine blk_alloc ?_ _)); exact BK547.out) hb); have n2_ := Aside0.mk (below_step (by repeat (first | (with_reducible first | exact HB.out | apply below_alloc | apply pw_below_drewN | apply below_drew1 | refine below_set ?_ GE546.out | refine below_set ?_ GE547.out) | exact HB.out)) hb); clear BK546; clear BK547; clear HB; have BK546 := n0_; have BK547 := n1_; have HB := n2_; clear n0_ n1_ n2_; (try clear hb); (try clear hb2); (try clear hk); (try clear hi); have hcz11_0 : w10.cell? ⟨gb546, 0, none⟩ = some (.int .i64 a0_0) := (blk_cell BK546.out 0).trans rfl; have hcz11_1 : w10.cell? ⟨gb546, 1, none⟩ = some (.int .i64 a0_1) := (blk_cell BK546.out 1).trans rfl; have hfz11_0 := blk_frozen BK546.out 0; have hfz11_1 := blk_frozen BK546.out 1; have hcz12_0 : w10.cell? ⟨gb547, 0, none⟩ = some (.int .i64 a1_0) := (blk_cell BK547.out 0).trans rfl; have hcz12_1 : w10.cell? ⟨gb547, 1, none⟩ = some (.int .i64 a1_1) := (blk_cell BK547.out 1).trans rfl; have hfz12_0 := blk_frozen BK547.out 0; have hfz12_1 := blk_frozen BK547.out 1))
    go_ret
    exact ⟨by first | rfl | (simp [errW_none, errW_some] <;> rfl) | (simp [*, errW_none, errW_some] <;> rfl), by repeat (first | (with_reducible first | exact HB.out | apply below_alloc | apply pw_below_drewN | apply below_drew1 | refine below_set ?_ GE546.out | refine below_set ?_ GE547.out) | exact HB.out)⟩
  · replace c4 := Bool.eq_false_iff.mpr c4
    subst c4
    have H1 : (some (-1)) = some r := by rw [if_neg (show ¬ (false = true) by decide)] at H; exact H
    clear H
    have H := H1
    clear H1
    obtain rfl := Option.some.inj H
    go_enter Try.func38, Try.ntmps38
    go_wp2_with (first | ((with_reducible refine gate_dst (N := 2) rfl ?_); refine box_event ?hg (N := 2) ?hd (cs := #[.int .i64 a0_0, .int .i64 a0_1]) (t := 41) ?hr ?_; (case hd => rfl); (case hg => rfl); (case hr => first | (go_simp; done) | (go_simp; rfl)); intro gb546 hg w13 hbox hb; have n0_ := Aside0.mk (below_step (by repeat (first | (with_reducible first | exact HB.out | apply below_alloc | apply pw_below_drewN | apply below_drew1) | exact HB.out)) hb); have n1_ := Aside0.mk (hbox); have n2_ := Aside0.mk ((by rw [hg]; exact (below_size (by repeat (first | (with_reducible first | exact HB.out | apply below_alloc | apply pw_below_drewN | apply below_drew1) | exact HB.out))) : w.heap.size ≤ gb546)); have n3_ := Aside0.mk ((by rw [hg]; exact (below_size (by repeat (first | (with_reducible first | exact HB.out | apply below_alloc | apply pw_below_drewN | apply below_drew1) | exact HB.out))) : w.heap.size ≤ gb546)); clear HB; have HB := n0_; have BK546 := n1_; have GW546 := n2_; have GE546 := n3_; clear n0_ n1_ n2_ n3_; clear hb hbox hg) | ((with_reducible refine gate_dst (N := 3) rfl ?_); refine box_event ?hg (N := 3) ?hd (cs := #[.int .i64 a1_0, .int .i64 a1_1]) (t := 51) ?hr ?_; (case hd => rfl); (case hg => rfl); (case hr => first | (go_simp; done) | (go_simp; rfl)); intro gb547 hg w14 hbox hb; have n0_ := Aside0.mk (blk_below (g := gb546) (o := .cells #[.int .i64 a0_0, .int .i64 a0_1] 41 (0, 0)) (by (with_reducible repeat (first | refine blk_drewN ?_ _ | refine blk_drew ?_ | refine blk_alloc ?_ _)); exact BK546.out) hb); have n1_ := Aside0.mk (below_step (by repeat (first | (with_reducible first | exact HB.out | apply below_alloc | apply pw_below_drewN | apply below_drew1 | refine below_set ?_ GE546.out) | exact HB.out)) hb); have n2_ := Aside0.mk (hbox); have n3_ := Aside0.mk ((by rw [hg]; exact (below_size (by repeat (first | (with_reducible first | exact HB.out | apply below_alloc | apply pw_below_drewN | apply below_drew1 | refine below_set ?_ GE546.out) | exact HB.out))) : w.heap.size ≤ gb547)); have n4_ := Aside0.mk ((by rw [hg]; exact (below_size (by repeat (first | (with_reducible first | exact HB.out | apply below_alloc | apply pw_below_drewN | apply below_drew1 | refine below_set ?_ GE546.out) | exact HB.out))) : w.heap.size ≤ gb547)); have n5_ := Aside0.mk ((by rw [hg]; exact Nat.ne_of_lt (blk_lt (g := gb546) (o := .cells #[.int .i64 a0_0, .int .i64 a0_1] 41 (0, 0)) (by (with_reducible repeat (first | refine blk_drewN ?_ _ | refine blk_drew ?_ | refine blk_alloc ?_ _)); exact BK546.out)) : gb546 ≠ gb547)); have n6_ := Aside0.mk ((by rw [hg]; exact Nat.ne_of_gt (blk_lt (g := gb546) (o := .cells #[.int .i64 a0_0, .int .i64 a0_1] 41 (0, 0)) (by (with_reducible repeat (first | refine blk_drewN ?_ _ | refine blk_drew ?_ | refine blk_alloc ?_ _)); exact BK546.out)) : gb547 ≠ gb546)); clear BK546; clear HB; have BK546 := n0_; have HB := n1_; have BK547 := n2_; have GW547 := n3_; have GE547 := n4_; have NB546_547 := n5_; have NB547_546 := n6_; clear n0_ n1_ n2_ n3_ n4_ n5_ n6_; clear hb hbox hg; have hnb15 := NB546_547.out; have hnc15 := NB547_546.out; have hcz16_0 : w14.cell? ⟨gb546, 0, none⟩ = some (.int .i64 a0_0) := (blk_cell BK546.out 0).trans rfl; have hcz16_1 : w14.cell? ⟨gb546, 1, none⟩ = some (.int .i64 a0_1) := (blk_cell BK546.out 1).trans rfl; have hfz16_0 := blk_frozen BK546.out 0; have hfz16_1 := blk_frozen BK546.out 1; have hcz17_0 : w14.cell? ⟨gb547, 0, none⟩ = some (.int .i64 a1_0) := (blk_cell BK547.out 0).trans rfl; have hcz17_1 : w14.cell? ⟨gb547, 1, none⟩ = some (.int .i64 a1_1) := (blk_cell BK547.out 1).trans rfl; have hfz17_0 := blk_frozen BK547.out 0; have hfz17_1 := blk_frozen BK547.out 1) | ((with_reducible refine gate_callee (f := 71) rfl ?_); refine goesL_ (some 7) rfl rfl Try.func71 (by kernel_rfl) rfl #[.agg #[.int .i64 a0_0, .int .i64 a0_1], .agg #[.int .i64 a1_0, .int .i64 a1_1]] rfl (by (try simp only [List.map_toArray, List.map_cons, List.map_nil]); first | done | rfl | (simp only [List.length_drop, List.length_take]; rfl)) ?_; (with_reducible refine (impl_served.calls a0_0 a0_1 a1_0 a1_1 false _ A3.out).mono ?_); rintro e w18 ⟨rfl, hb⟩; refine ⟨_, rfl, ?_⟩; have n0_ := Aside0.mk (blk_below (g := gb546) (o := .cells #[.int .i64 a0_0, .int .i64 a0_1] 41 (0, 0)) (by (with_reducible repeat (first | refine blk_drewN ?_ _ | refine blk_drew ?_ | refine blk_alloc ?_ _)); exact BK546.out) hb); have n1_ := Aside0.mk (blk_below (g := gb547) (o := .cells #[.int .i64 a1_0, .int .i64 a1_1] 51 (0, 0)) (by (with_reducible repeat (first | refine blk_drewN ?_ _ | refine blk_drew ?_ | refine blk_alloc ?_ _)); exact BK547.out) hb); have n2_ := Aside0.mk (below_step (by repeat (first | (with_reducible first | exact HB.out | apply below_alloc | apply pw_below_drewN | apply below_drew1 | refine below_set ?_ GE546.out | refine below_set ?_ GE547.out) | exact HB.out)) hb); clear BK546; clear BK547; clear HB; have BK546 := n0_; have BK547 := n1_; have HB := n2_; clear n0_ n1_ n2_; (try clear hb); (try clear hb2); (try clear hk); (try clear hi)))
    go_ret
    exact ⟨by first | rfl | (simp [errW_none, errW_some] <;> rfl) | (simp [*, errW_none, errW_some] <;> rfl), by repeat (first | (with_reducible first | exact HB.out | apply below_alloc | apply pw_below_drewN | apply below_drew1 | refine below_set ?_ GE546.out | refine below_set ?_ GE547.out) | exact HB.out)⟩

end Go.Proofs.Ytkmpcmhkfnoeiaa.P
-- Laid by a program of this work.
namespace Go.Proofs.Ytkmpcmhkfnoeiaa.P
open Go.RowKit Go.Proofs.YtkmpcmhkfnoeiaaW.PrintWords Go.Proofs.YtkmpcmhkfnoeiaaW.PrintLast Go.Proofs.YtkmpcmhkfnoeiaaW.PrintMore
attribute [local go_sem] max2_int min2_int max_two min_two max_three min_three max_four min_four   -- for this text's walks alone
set_option linter.unusedVariables false
set_option linter.unusedSimpArgs false

/-! ### impl_ceil: function 72 -/
def impl_ceil.f (a0 : Int) (a1 : Int) : Option (Int) := if a1 = 0 then (none) else (some (wrap64 (Int.tdiv (wrap64 ((wrap64 (a0 + a1)) - 1)) a1)))
set_option maxHeartbeats 8000000 in
set_option maxRecDepth 100000 in
theorem impl_ceil.calls (a0 : Int) (a1 : Int) (r : Int) (w : World) (h : impl_ceil.f a0 a1 = some r) :
    Calls Try.prog 72 #[.int .i64 a0, .int .i64 a1] w fun e w' => e = .returned (.int .i64 r) ∧ Drawn0 w w' := by
  have H : (if a1 = 0 then (none) else (some (wrap64 (Int.tdiv (wrap64 ((wrap64 (a0 + a1)) - 1)) a1)))) = some r := h
  clear h
  by_cases c3 : a1 = 0
  · rw [if_pos c3] at H
    exact absurd H (by simp)
  · rw [if_neg c3] at H
    have c3b0 : (a1 == 0) = false := beq_eq_false_iff_ne.mpr c3
    have c3b1 : (a1 != 0) = true := bne_iff_ne.mpr c3
    obtain rfl := Option.some.inj H
    go_enter Try.func72, Try.ntmps72
    go_wp2
    go_ret
    exact ⟨by first | rfl | (simp; done) | (simp [*]; done), by repeat (first | exact Drawn0.refl _ | apply Drawn0.step)⟩

end Go.Proofs.Ytkmpcmhkfnoeiaa.P
-- Laid by a program of this work.
namespace Go.Proofs.Ytkmpcmhkfnoeiaa.P
open Go.RowKit Go.Proofs.YtkmpcmhkfnoeiaaW.PrintWords Go.Proofs.YtkmpcmhkfnoeiaaW.PrintLast Go.Proofs.YtkmpcmhkfnoeiaaW.PrintMore
attribute [local go_sem] max2_int min2_int max_two min_two max_three min_three max_four min_four   -- for this text's walks alone
set_option linter.unusedVariables false
set_option linter.unusedSimpArgs false

/-! ### impl_DelayBound: function 39 -/
def impl_DelayBound.f (a0_0 : Int) (a0_1 : Int) (a1_0 : Int) (a1_1 : Int) : Option (Int) := (impl_served.f a0_0 a0_1 a1_0 a1_1).bind fun t571 => (if t571 = true then ((impl_ceil.f a0_0 a1_1).bind fun t572 => (some (wrap64 (a1_0 + t572)))) else (some (-1)))
set_option maxHeartbeats 8000000 in
set_option maxRecDepth 100000 in
theorem impl_DelayBound.calls (a0_0 : Int) (a0_1 : Int) (a1_0 : Int) (a1_1 : Int) (r : Int) (w : World) (h : impl_DelayBound.f a0_0 a0_1 a1_0 a1_1 = some r) :
    Calls Try.prog 39 #[.agg #[.int .i64 a0_0, .int .i64 a0_1], .agg #[.int .i64 a1_0, .int .i64 a1_1]] w fun e w' => e = .returned (.int .i64 r) ∧ Below w.heap.size w w' := by
  have hu41 := Try.underlying41
  have hu51 := Try.underlying51
  have HB := Aside0.mk (Below.refl w.heap.size w)
  have H : ((impl_served.f a0_0 a0_1 a1_0 a1_1).bind fun t571 => (if t571 = true then ((impl_ceil.f a0_0 a1_1).bind fun t572 => (some (wrap64 (a1_0 + t572)))) else (some (-1)))) = some r := h
  clear h
  replace H := Option.bind_eq_some_iff.mp H
  obtain ⟨t571, A30, H⟩ := H
  replace H : (if t571 = true then ((impl_ceil.f a0_0 a1_1).bind fun t572 => (some (wrap64 (a1_0 + t572)))) else (some (-1))) = some r := H
  have A3 := Aside0.mk A30
  clear A30
  by_cases c4 : t571 = true
  · subst c4
    have H1 : ((impl_ceil.f a0_0 a1_1).bind fun t572 => (some (wrap64 (a1_0 + t572)))) = some r := by rw [if_pos rfl] at H; exact H
    clear H
    have H := H1
    clear H1
    replace H := Option.bind_eq_some_iff.mp H
    obtain ⟨t572, A50, H⟩ := H
    replace H : (some (wrap64 (a1_0 + t572))) = some r := H
    have A5 := Aside0.mk A50
    clear A50
    obtain rfl := Option.some.inj H
    go_enter Try.func39, Try.ntmps39
    go_wp2_with (first | ((with_reducible refine gate_dst (N := 2) rfl ?_); refine box_event ?hg (N := 2) ?hd (cs := #[.int .i64 a0_0, .int .i64 a0_1]) (t := 41) ?hr ?_; (case hd => rfl); (case hg => rfl); (case hr => first | (go_simp; done) | (go_simp; rfl)); intro gb569 hg w6 hbox hb; have n0_ := Aside0.mk (below_step (by repeat (first | (with_reducible first | exact HB.out | apply below_alloc | apply pw_below_drewN | apply below_drew1) | exact HB.out)) hb); have n1_ := Aside0.mk (hbox); have n2_ := Aside0.mk ((by rw [hg]; exact (below_size (by repeat (first | (with_reducible first | exact HB.out | apply below_alloc | apply pw_below_drewN | apply below_drew1) | exact HB.out))) : w.heap.size ≤ gb569)); have n3_ := Aside0.mk ((by rw [hg]; exact (below_size (by repeat (first | (with_reducible first | exact HB.out | apply below_alloc | apply pw_below_drewN | apply below_drew1) | exact HB.out))) : w.heap.size ≤ gb569)); clear HB; have HB := n0_; have BK569 := n1_; have GW569 := n2_; have GE569 := n3_; clear n0_ n1_ n2_ n3_; clear hb hbox hg) | ((with_reducible refine gate_dst (N := 3) rfl ?_); refine box_event ?hg (N := 3) ?hd (cs := #[.int .i64 a1_0, .int .i64 a1_1]) (t := 51) ?hr ?_; (case hd => rfl); (case hg => rfl); (case hr => first | (go_simp; done) | (go_simp; rfl)); intro gb570 hg w7 hbox hb; have n0_ := Aside0.mk (blk_below (g := gb569) (o := .cells #[.int .i64 a0_0, .int .i64 a0_1] 41 (0, 0)) (by (with_reducible repeat (first | refine blk_drewN ?_ _ | refine blk_drew ?_ | refine blk_alloc ?_ _)); exact BK569.out) hb); have n1_ := Aside0.mk (below_step (by repeat (first | (with_reducible first | exact HB.out | apply below_alloc | apply pw_below_drewN | apply below_drew1 | refine below_set ?_ GE569.out) | exact HB.out)) hb); have n2_ := Aside0.mk (hbox); have n3_ := Aside0.mk ((by rw [hg]; exact (below_size (by repeat (first | (with_reducible first | exact HB.out | apply below_alloc | apply pw_below_drewN | apply below_drew1 | refine below_set ?_ GE569.out) | exact HB.out))) : w.heap.size ≤ gb570)); have n4_ := Aside0.mk ((by rw [hg]; exact (below_size (by repeat (first | (with_reducible first | exact HB.out | apply below_alloc | apply pw_below_drewN | apply below_drew1 | refine below_set ?_ GE569.out) | exact HB.out))) : w.heap.size ≤ gb570)); have n5_ := Aside0.mk ((by rw [hg]; exact Nat.ne_of_lt (blk_lt (g := gb569) (o := .cells #[.int .i64 a0_0, .int .i64 a0_1] 41 (0, 0)) (by (with_reducible repeat (first | refine blk_drewN ?_ _ | refine blk_drew ?_ | refine blk_alloc ?_ _)); exact BK569.out)) : gb569 ≠ gb570)); have n6_ := Aside0.mk ((by rw [hg]; exact Nat.ne_of_gt (blk_lt (g := gb569) (o := .cells #[.int .i64 a0_0, .int .i64 a0_1] 41 (0, 0)) (by (with_reducible repeat (first | refine blk_drewN ?_ _ | refine blk_drew ?_ | refine blk_alloc ?_ _)); exact BK569.out)) : gb570 ≠ gb569)); clear BK569; clear HB; have BK569 := n0_; have HB := n1_; have BK570 := n2_; have GW570 := n3_; have GE570 := n4_; have NB569_570 := n5_; have NB570_569 := n6_; clear n0_ n1_ n2_ n3_ n4_ n5_ n6_; clear hb hbox hg; have hnb8 := NB569_570.out; have hnc8 := NB570_569.out; have hcz9_0 : w7.cell? ⟨gb569, 0, none⟩ = some (.int .i64 a0_0) := (blk_cell BK569.out 0).trans rfl; have hcz9_1 : w7.cell? ⟨gb569, 1, none⟩ = some (.int .i64 a0_1) := (blk_cell BK569.out 1).trans rfl; have hfz9_0 := blk_frozen BK569.out 0; have hfz9_1 := blk_frozen BK569.out 1; have hcz10_0 : w7.cell? ⟨gb570, 0, none⟩ = some (.int .i64 a1_0) := (blk_cell BK570.out 0).trans rfl; have hcz10_1 : w7.cell? ⟨gb570, 1, none⟩ = some (.int .i64 a1_1) := (blk_cell BK570.out 1).trans rfl; have hfz10_0 := blk_frozen BK570.out 0; have hfz10_1 := blk_frozen BK570.out 1) | (go_at_call 71; (with_reducible refine (impl_served.calls a0_0 a0_1 a1_0 a1_1 true _ A3.out).mono ?_); rintro e w11 ⟨rfl, hb⟩; have n0_ := Aside0.mk (blk_below (g := gb569) (o := .cells #[.int .i64 a0_0, .int .i64 a0_1] 41 (0, 0)) (by (with_reducible repeat (first | refine blk_drewN ?_ _ | refine blk_drew ?_ | refine blk_alloc ?_ _)); exact BK569.out) hb); have n1_ := Aside0.mk (blk_below (g := gb570) (o := .cells #[.int .i64 a1_0, .int .i64 a1_1] 51 (0, 0)) (by (with_reducible repeat (first | refine blk_drewN ?_ _ | refine blk_drew ?_ | refine blk_alloc ?_ _)); exact BK570.out) hb); have n2_ := Aside0.mk (below_step (by repeat (first | (with_reducible first | exact HB.out | apply below_alloc | apply pw_below_drewN | apply below_drew1 | refine below_set ?_ GE569.out | refine below_set ?_ GE570.out) | exact HB.out)) hb); clear BK569; clear BK570; clear HB; have BK569 := n0_; have BK570 := n1_; have HB := n2_; clear n0_ n1_ n2_; (try clear hb); (try clear hb2); (try clear hk); (try clear hi); have hcz12_0 : w11.cell? ⟨gb570, 0, none⟩ = some (.int .i64 a1_0) := (blk_cell BK570.out 0).trans rfl; have hcz12_1 : w11.cell? ⟨gb570, 1, none⟩ = some (.int .i64 a1_1) := (blk_cell BK570.out 1).trans rfl; have hfz12_0 := blk_frozen BK570.out 0; have hfz12_1 := blk_frozen BK570.out 1; have hcz13_0 : w11.cell? ⟨gb569, 0, none⟩ = some (.int .i64 a0_0) := (blk_cell BK569.out 0).trans rfl; have hcz13_1 : w11.cell? ⟨gb569, 1, none⟩ = some (.int .i64 a0_1) := (blk_cell BK569.out 1).trans rfl; have hfz13_0 := blk_frozen BK569.out 0; have hfz13_1 := blk_frozen BK569.out 1) | (go_at_call 72; (with_reducible refine (impl_ceil.calls a0_0 a1_1 t572 _ A5.out).mono ?_); rintro e w' ⟨rfl, ⟨nd, rfl⟩⟩; (try first | exact ⟨rfl, _, World.drewN_drewN _ _ _⟩ | exact ⟨rfl, _, Eq.trans (World.drewN_drewN _ _ _) (congrArg (World.drewN _) (Nat.add_assoc _ _ _))⟩)))
    repeat (go_quiet (first | ((with_reducible refine gate_dst (N := 2) rfl ?_); refine box_event ?hg (N := 2) ?hd (cs := #[.int .i64 a0_0, .int .i64 a0_1]) (t := 41) ?hr ?_; (case hd => rfl); (case hg => rfl); (case hr => first | (go_simp; done) | (go_simp; rfl)); intro gb569 hg w6 hbox hb; have n0_ := Aside0.mk (below_step (by repeat (first | (with_reducible first | exact HB.out | apply below_alloc | apply pw_below_drewN | apply below_drew1) | exact HB.out)) hb); have n1_ := Aside0.mk (hbox); have n2_ := Aside0.mk ((by rw [hg]; exact (below_size (by repeat (first | (with_reducible first | exact HB.out | apply below_alloc | apply pw_below_drewN | apply below_drew1) | exact HB.out))) : w.heap.size ≤ gb569)); have n3_ := Aside0.mk ((by rw [hg]; exact (below_size (by repeat (first | (with_reducible first | exact HB.out | apply below_alloc | apply pw_below_drewN | apply below_drew1) | exact HB.out))) : w.heap.size ≤ gb569)); clear HB; have HB := n0_; have BK569 := n1_; have GW569 := n2_; have GE569 := n3_; clear n0_ n1_ n2_ n3_; clear hb hbox hg) | ((with_reducible refine gate_dst (N := 3) rfl ?_); refine box_event ?hg (N := 3) ?hd (cs := #[.int .i64 a1_0, .int .i64 a1_1]) (t := 51) ?hr ?_; (case hd => rfl); (case hg => rfl); (case hr => first | (go_simp; done) | (go_simp; rfl)); intro gb570 hg w7 hbox hb; have n0_ := Aside0.mk (blk_below (g := gb569) (o := .cells #[.int .i64 a0_0, .int .i64 a0_1] 41 (0, 0)) (by (with_reducible repeat (first | refine blk_drewN ?_ _ | refine blk_drew ?_ | refine blk_alloc ?_ _)); exact BK569.out) hb); have n1_ := Aside0.mk (below_step (by repeat (first | (with_reducible first | exact HB.out | apply below_alloc | apply pw_below_drewN | apply below_drew1 | refine below_set ?_ GE569.out) | exact HB.out)) hb); have n2_ := Aside0.mk (hbox); have n3_ := Aside0.mk ((by rw [hg]; exact (below_size (by repeat (first | (with_reducible first | exact HB.out | apply below_alloc | apply pw_below_drewN | apply below_drew1 | refine below_set ?_ GE569.out) | exact HB.out))) : w.heap.size ≤ gb570)); have n4_ := Aside0.mk ((by rw [hg]; exact (below_size (by repeat (first | (with_reducible first | exact HB.out | apply below_alloc | apply pw_below_drewN | apply below_drew1 | refine below_set ?_ GE569.out) | exact HB.out))) : w.heap.size ≤ gb570)); have n5_ := Aside0.mk ((by rw [hg]; exact Nat.ne_of_lt (blk_lt (g := gb569) (o := .cells #[.int .i64 a0_0, .int .i64 a0_1] 41 (0, 0)) (by (with_reducible repeat (first | refine blk_drewN ?_ _ | refine blk_drew ?_ | refine blk_alloc ?_ _)); exact BK569.out)) : gb569 ≠ gb570)); have n6_ := Aside0.mk ((by rw [hg]; exact Nat.ne_of_gt (blk_lt (g := gb569) (o := .cells #[.int .i64 a0_0, .int .i64 a0_1] 41 (0, 0)) (by (with_reducible repeat (first | refine blk_drewN ?_ _ | refine blk_drew ?_ | refine blk_alloc ?_ _)); exact BK569.out)) : gb570 ≠ gb569)); clear BK569; clear HB; have BK569 := n0_; have HB := n1_; have BK570 := n2_; have GW570 := n3_; have GE570 := n4_; have NB569_570 := n5_; have NB570_569 := n6_; clear n0_ n1_ n2_ n3_ n4_ n5_ n6_; clear hb hbox hg; have hnb8 := NB569_570.out; have hnc8 := NB570_569.out; have hcz9_0 : w7.cell? ⟨gb569, 0, none⟩ = some (.int .i64 a0_0) := (blk_cell BK569.out 0).trans rfl; have hcz9_1 : w7.cell? ⟨gb569, 1, none⟩ = some (.int .i64 a0_1) := (blk_cell BK569.out 1).trans rfl; have hfz9_0 := blk_frozen BK569.out 0; have hfz9_1 := blk_frozen BK569.out 1; have hcz10_0 : w7.cell? ⟨gb570, 0, none⟩ = some (.int .i64 a1_0) := (blk_cell BK570.out 0).trans rfl; have hcz10_1 : w7.cell? ⟨gb570, 1, none⟩ = some (.int .i64 a1_1) := (blk_cell BK570.out 1).trans rfl; have hfz10_0 := blk_frozen BK570.out 0; have hfz10_1 := blk_frozen BK570.out 1) | (go_at_call 71; (with_reducible refine (impl_served.calls a0_0 a0_1 a1_0 a1_1 true _ A3.out).mono ?_); rintro e w11 ⟨rfl, hb⟩; have n0_ := Aside0.mk (blk_below (g := gb569) (o := .cells #[.int .i64 a0_0, .int .i64 a0_1] 41 (0, 0)) (by (with_reducible repeat (first | refine blk_drewN ?_ _ | refine blk_drew ?_ | refine blk_alloc ?_ _)); exact BK569.out) hb); have n1_ := Aside0.mk (blk_below (g := gb570) (o := .cells #[.int .i64 a1_0, .int .i64 a1_1] 51 (0, 0)) (by (with_reducible repeat (first | refine blk_drewN ?_ _ | refine blk_drew ?_ | refine blk_alloc ?_ _)); exact BK570.out) hb); have n2_ := Aside0.mk (below_step (by repeat (first | (with_reducible first | exact HB.out | apply below_alloc | apply pw_below_drewN | apply below_drew1 | refine below_set ?_ GE569.out | refine below_set ?_ GE570.out) | exact HB.out)) hb); clear BK569; clear BK570; clear HB; have BK569 := n0_; have BK570 := n1_; have HB := n2_; clear n0_ n1_ n2_; (try clear hb); (try clear hb2); (try clear hk); (try clear hi); have hcz12_0 : w11.cell? ⟨gb570, 0, none⟩ = some (.int .i64 a1_0) := (blk_cell BK570.out 0).trans rfl; have hcz12_1 : w11.cell? ⟨gb570, 1, none⟩ = some (.int .i64 a1_1) := (blk_cell BK570.out 1).trans rfl; have hfz12_0 := blk_frozen BK570.out 0; have hfz12_1 := blk_frozen BK570.out 1; have hcz13_0 : w11.cell? ⟨gb569, 0, none⟩ = some (.int .i64 a0_0) := (blk_cell BK569.out 0).trans rfl; have hcz13_1 : w11.cell? ⟨gb569, 1, none⟩ = some (.int .i64 a0_1) := (blk_cell BK569.out 1).trans rfl; have hfz13_0 := blk_frozen BK569.out 0; have hfz13_1 := blk_frozen BK569.out 1) | (go_at_call 72; (with_reducible refine (impl_ceil.calls a0_0 a1_1 t572 _ A5.out).mono ?_); rintro e w' ⟨rfl, ⟨nd, rfl⟩⟩; (try first | exact ⟨rfl, _, World.drewN_drewN _ _ _⟩ | exact ⟨rfl, _, Eq.trans (World.drewN_drewN _ _ _) (congrArg (World.drewN _) (Nat.add_assoc _ _ _))⟩))); try go_wp2_with (first | ((with_reducible refine gate_dst (N := 2) rfl ?_); refine box_event ?hg (N := 2) ?hd (cs := #[.int .i64 a0_0, .int .i64 a0_1]) (t := 41) ?hr ?_; (case hd => rfl); (case hg => rfl); (case hr => first | (go_simp; done) | (go_simp; rfl)); intro gb569 hg w6 hbox hb; have n0_ := Aside0.mk (below_step (by repeat (first | (with_reducible first | exact HB.out | apply below_alloc | apply pw_below_drewN | apply below_drew1) | exact HB.out)) hb); have n1_ := Aside0.mk (hbox); have n2_ := Aside0.mk ((by rw [hg]; exact (below_size (by repeat (first | (with_reducible first | exact HB.out | apply below_alloc | apply pw_below_drewN | apply below_drew1) | exact HB.out))) : w.heap.size ≤ gb569)); have n3_ := Aside0.mk ((by rw [hg]; exact (below_size (by repeat (first | (with_reducible first | exact HB.out | apply below_alloc | apply pw_below_drewN | apply below_drew1) | exact HB.out))) : w.heap.size ≤ gb569)); clear HB; have HB := n0_; have BK569 := n1_; have GW569 := n2_; have GE569 := n3_; clear n0_ n1_ n2_ n3_; clear hb hbox hg) | ((with_reducible refine gate_dst (N := 3) rfl ?_); refine box_event ?hg (N := 3) ?hd (cs := #[.int .i64 a1_0, .int .i64 a1_1]) (t := 51) ?hr ?_; (case hd => rfl); (case hg => rfl); (case hr => first | (go_simp; done) | (go_simp; rfl)); intro gb570 hg w7 hbox hb; have n0_ := Aside0.mk (blk_below (g := gb569) (o := .cells #[.int .i64 a0_0, .int .i64 a0_1] 41 (0, 0)) (by (with_reducible repeat (first | refine blk_drewN ?_ _ | refine blk_drew ?_ | refine blk_alloc ?_ _)); exact BK569.out) hb); have n1_ := Aside0.mk (below_step (by repeat (first | (with_reducible first | exact HB.out | apply below_alloc | apply pw_below_drewN | apply below_drew1 | refine below_set ?_ GE569.out) | exact HB.out)) hb); have n2_ := Aside0.mk (hbox); have n3_ := Aside0.mk ((by rw [hg]; exact (below_size (by repeat (first | (with_reducible first | exact HB.out | apply below_alloc | apply pw_below_drewN | apply below_drew1 | refine below_set ?_ GE569.out) | exact HB.out))) : w.heap.size ≤ gb570)); have n4_ := Aside0.mk ((by rw [hg]; exact (below_size (by repeat (first | (with_reducible first | exact HB.out | apply below_alloc | apply pw_below_drewN | apply below_drew1 | refine below_set ?_ GE569.out) | exact HB.out))) : w.heap.size ≤ gb570)); have n5_ := Aside0.mk ((by rw [hg]; exact Nat.ne_of_lt (blk_lt (g := gb569) (o := .cells #[.int .i64 a0_0, .int .i64 a0_1] 41 (0, 0)) (by (with_reducible repeat (first | refine blk_drewN ?_ _ | refine blk_drew ?_ | refine blk_alloc ?_ _)); exact BK569.out)) : gb569 ≠ gb570)); have n6_ := Aside0.mk ((by rw [hg]; exact Nat.ne_of_gt (blk_lt (g := gb569) (o := .cells #[.int .i64 a0_0, .int .i64 a0_1] 41 (0, 0)) (by (with_reducible repeat (first | refine blk_drewN ?_ _ | refine blk_drew ?_ | refine blk_alloc ?_ _)); exact BK569.out)) : gb570 ≠ gb569)); clear BK569; clear HB; have BK569 := n0_; have HB := n1_; have BK570 := n2_; have GW570 := n3_; have GE570 := n4_; have NB569_570 := n5_; have NB570_569 := n6_; clear n0_ n1_ n2_ n3_ n4_ n5_ n6_; clear hb hbox hg; have hnb8 := NB569_570.out; have hnc8 := NB570_569.out; have hcz9_0 : w7.cell? ⟨gb569, 0, none⟩ = some (.int .i64 a0_0) := (blk_cell BK569.out 0).trans rfl; have hcz9_1 : w7.cell? ⟨gb569, 1, none⟩ = some (.int .i64 a0_1) := (blk_cell BK569.out 1).trans rfl; have hfz9_0 := blk_frozen BK569.out 0; have hfz9_1 := blk_frozen BK569.out 1; have hcz10_0 : w7.cell? ⟨gb570, 0, none⟩ = some (.int .i64 a1_0) := (blk_cell BK570.out 0).trans rfl; have hcz10_1 : w7.cell? ⟨gb570, 1, none⟩ = some (.int .i64 a1_1) := (blk_cell BK570.out 1).trans rfl; have hfz10_0 := blk_frozen BK570.out 0; have hfz10_1 := blk_frozen BK570.out 1) | (go_at_call 71; (with_reducible refine (impl_served.calls a0_0 a0_1 a1_0 a1_1 true _ A3.out).mono ?_); rintro e w11 ⟨rfl, hb⟩; have n0_ := Aside0.mk (blk_below (g := gb569) (o := .cells #[.int .i64 a0_0, .int .i64 a0_1] 41 (0, 0)) (by (with_reducible repeat (first | refine blk_drewN ?_ _ | refine blk_drew ?_ | refine blk_alloc ?_ _)); exact BK569.out) hb); have n1_ := Aside0.mk (blk_below (g := gb570) (o := .cells #[.int .i64 a1_0, .int .i64 a1_1] 51 (0, 0)) (by (with_reducible repeat (first | refine blk_drewN ?_ _ | refine blk_drew ?_ | refine blk_alloc ?_ _)); exact BK570.out) hb); have n2_ := Aside0.mk (below_step (by repeat (first | (with_reducible first | exact HB.out | apply below_alloc | apply pw_below_drewN | apply below_drew1 | refine below_set ?_ GE569.out | refine below_set ?_ GE570.out) | exact HB.out)) hb); clear BK569; clear BK570; clear HB; have BK569 := n0_; have BK570 := n1_; have HB := n2_; clear n0_ n1_ n2_; (try clear hb); (try clear hb2); (try clear hk); (try clear hi); have hcz12_0 : w11.cell? ⟨gb570, 0, none⟩ = some (.int .i64 a1_0) := (blk_cell BK570.out 0).trans rfl; have hcz12_1 : w11.cell? ⟨gb570, 1, none⟩ = some (.int .i64 a1_1) := (blk_cell BK570.out 1).trans rfl; have hfz12_0 := blk_frozen BK570.out 0; have hfz12_1 := blk_frozen BK570.out 1; have hcz13_0 : w11.cell? ⟨gb569, 0, none⟩ = some (.int .i64 a0_0) := (blk_cell BK569.out 0).trans rfl; have hcz13_1 : w11.cell? ⟨gb569, 1, none⟩ = some (.int .i64 a0_1) := (blk_cell BK569.out 1).trans rfl; have hfz13_0 := blk_frozen BK569.out 0; have hfz13_1 := blk_frozen BK569.out 1) | (go_at_call 72; (with_reducible refine (impl_ceil.calls a0_0 a1_1 t572 _ A5.out).mono ?_); rintro e w' ⟨rfl, ⟨nd, rfl⟩⟩; (try first | exact ⟨rfl, _, World.drewN_drewN _ _ _⟩ | exact ⟨rfl, _, Eq.trans (World.drewN_drewN _ _ _) (congrArg (World.drewN _) (Nat.add_assoc _ _ _))⟩))))
    go_ret
    exact ⟨by first | rfl | (simp [errW_none, errW_some] <;> rfl) | (simp [*, errW_none, errW_some] <;> rfl), by repeat (first | (with_reducible first | exact HB.out | apply below_alloc | apply pw_below_drewN | apply below_drew1 | refine below_set ?_ GE569.out | refine below_set ?_ GE570.out) | exact HB.out)⟩
  · replace c4 := Bool.eq_false_iff.mpr c4
    subst c4
    have H1 : (some (-1)) = some r := by rw [if_neg (show ¬ (false = true) by decide)] at H; exact H
    clear H
    have H := H1
    clear H1
    obtain rfl := Option.some.inj H
    go_enter Try.func39, Try.ntmps39
    go_wp2_with (first | ((with_reducible refine gate_dst (N := 2) rfl ?_); refine box_event ?hg (N := 2) ?hd (cs := #[.int .i64 a0_0, .int .i64 a0_1]) (t := 41) ?hr ?_; (case hd => rfl); (case hg => rfl); (case hr => first | (go_simp; done) | (go_simp; rfl)); intro gb569 hg w14 hbox hb; have n0_ := Aside0.mk (below_step (by repeat (first | (with_reducible first | exact HB.out | apply below_alloc | apply pw_below_drewN | apply below_drew1) | exact HB.out)) hb); have n1_ := Aside0.mk (hbox); have n2_ := Aside0.mk ((by rw [hg]; exact (below_size (by repeat (first | (with_reducible first | exact HB.out | apply below_alloc | apply pw_below_drewN | apply below_drew1) | exact HB.out))) : w.heap.size ≤ gb569)); have n3_ := Aside0.mk ((by rw [hg]; exact (below_size (by repeat (first | (with_reducible first | exact HB.out | apply below_alloc | apply pw_below_drewN | apply below_drew1) | exact HB.out))) : w.heap.size ≤ gb569)); clear HB; have HB := n0_; have BK569 := n1_; have GW569 := n2_; have GE569 := n3_; clear n0_ n1_ n2_ n3_; clear hb hbox hg) | ((with_reducible refine gate_dst (N := 3) rfl ?_); refine box_event ?hg (N := 3) ?hd (cs := #[.int .i64 a1_0, .int .i64 a1_1]) (t := 51) ?hr ?_; (case hd => rfl); (case hg => rfl); (case hr => first | (go_simp; done) | (go_simp; rfl)); intro gb570 hg w15 hbox hb; have n0_ := Aside0.mk (blk_below (g := gb569) (o := .cells #[.int .i64 a0_0, .int .i64 a0_1] 41 (0, 0)) (by (with_reducible repeat (first | refine blk_drewN ?_ _ | refine blk_drew ?_ | refine blk_alloc ?_ _)); exact BK569.out) hb); have n1_ := Aside0.mk (below_step (by repeat (first | (with_reducible first | exact HB.out | apply below_alloc | apply pw_below_drewN | apply below_drew1 | refine below_set ?_ GE569.out) | exact HB.out)) hb); have n2_ := Aside0.mk (hbox); have n3_ := Aside0.mk ((by rw [hg]; exact (below_size (by repeat (first | (with_reducible first | exact HB.out | apply below_alloc | apply pw_below_drewN | apply below_drew1 | refine below_set ?_ GE569.out) | exact HB.out))) : w.heap.size ≤ gb570)); have n4_ := Aside0.mk ((by rw [hg]; exact (below_size (by repeat (first | (with_reducible first | exact HB.out | apply below_alloc | apply pw_below_drewN | apply below_drew1 | refine below_set ?_ GE569.out) | exact HB.out))) : w.heap.size ≤ gb570)); have n5_ := Aside0.mk ((by rw [hg]; exact Nat.ne_of_lt (blk_lt (g := gb569) (o := .cells #[.int .i64 a0_0, .int .i64 a0_1] 41 (0, 0)) (by (with_reducible repeat (first | refine blk_drewN ?_ _ | refine blk_drew ?_ | refine blk_alloc ?_ _)); exact BK569.out)) : gb569 ≠ gb570)); have n6_ := Aside0.mk ((by rw [hg]; exact Nat.ne_of_gt (blk_lt (g := gb569) (o := .cells #[.int .i64 a0_0, .int .i64 a0_1] 41 (0, 0)) (by (with_reducible repeat (first | refine blk_drewN ?_ _ | refine blk_drew ?_ | refine blk_alloc ?_ _)); exact BK569.out)) : gb570 ≠ gb569)); clear BK569; clear HB; have BK569 := n0_; have HB := n1_; have BK570 := n2_; have GW570 := n3_; have GE570 := n4_; have NB569_570 := n5_; have NB570_569 := n6_; clear n0_ n1_ n2_ n3_ n4_ n5_ n6_; clear hb hbox hg; have hnb16 := NB569_570.out; have hnc16 := NB570_569.out; have hcz17_0 : w15.cell? ⟨gb569, 0, none⟩ = some (.int .i64 a0_0) := (blk_cell BK569.out 0).trans rfl; have hcz17_1 : w15.cell? ⟨gb569, 1, none⟩ = some (.int .i64 a0_1) := (blk_cell BK569.out 1).trans rfl; have hfz17_0 := blk_frozen BK569.out 0; have hfz17_1 := blk_frozen BK569.out 1; have hcz18_0 : w15.cell? ⟨gb570, 0, none⟩ = some (.int .i64 a1_0) := (blk_cell BK570.out 0).trans rfl; have hcz18_1 : w15.cell? ⟨gb570, 1, none⟩ = some (.int .i64 a1_1) := (blk_cell BK570.out 1).trans rfl; have hfz18_0 := blk_frozen BK570.out 0; have hfz18_1 := blk_frozen BK570.out 1) | (go_at_call 71; (with_reducible refine (impl_served.calls a0_0 a0_1 a1_0 a1_1 false _ A3.out).mono ?_); rintro e w19 ⟨rfl, hb⟩; have n0_ := Aside0.mk (blk_below (g := gb569) (o := .cells #[.int .i64 a0_0, .int .i64 a0_1] 41 (0, 0)) (by (with_reducible repeat (first | refine blk_drewN ?_ _ | refine blk_drew ?_ | refine blk_alloc ?_ _)); exact BK569.out) hb); have n1_ := Aside0.mk (blk_below (g := gb570) (o := .cells #[.int .i64 a1_0, .int .i64 a1_1] 51 (0, 0)) (by (with_reducible repeat (first | refine blk_drewN ?_ _ | refine blk_drew ?_ | refine blk_alloc ?_ _)); exact BK570.out) hb); have n2_ := Aside0.mk (below_step (by repeat (first | (with_reducible first | exact HB.out | apply below_alloc | apply pw_below_drewN | apply below_drew1 | refine below_set ?_ GE569.out | refine below_set ?_ GE570.out) | exact HB.out)) hb); clear BK569; clear BK570; clear HB; have BK569 := n0_; have BK570 := n1_; have HB := n2_; clear n0_ n1_ n2_; (try clear hb); (try clear hb2); (try clear hk); (try clear hi)))
    repeat (go_quiet (first | ((with_reducible refine gate_dst (N := 2) rfl ?_); refine box_event ?hg (N := 2) ?hd (cs := #[.int .i64 a0_0, .int .i64 a0_1]) (t := 41) ?hr ?_; (case hd => rfl); (case hg => rfl); (case hr => first | (go_simp; done) | (go_simp; rfl)); intro gb569 hg w14 hbox hb; have n0_ := Aside0.mk (below_step (by repeat (first | (with_reducible first | exact HB.out | apply below_alloc | apply pw_below_drewN | apply below_drew1) | exact HB.out)) hb); have n1_ := Aside0.mk (hbox); have n2_ := Aside0.mk ((by rw [hg]; exact (below_size (by repeat (first | (with_reducible first | exact HB.out | apply below_alloc | apply pw_below_drewN | apply below_drew1) | exact HB.out))) : w.heap.size ≤ gb569)); have n3_ := Aside0.mk ((by rw [hg]; exact (below_size (by repeat (first | (with_reducible first | exact HB.out | apply below_alloc | apply pw_below_drewN | apply below_drew1) | exact HB.out))) : w.heap.size ≤ gb569)); clear HB; have HB := n0_; have BK569 := n1_; have GW569 := n2_; have GE569 := n3_; clear n0_ n1_ n2_ n3_; clear hb hbox hg) | ((with_reducible refine gate_dst (N := 3) rfl ?_); refine box_event ?hg (N := 3) ?hd (cs := #[.int .i64 a1_0, .int .i64 a1_1]) (t := 51) ?hr ?_; (case hd => rfl); (case hg => rfl); (case hr => first | (go_simp; done) | (go_simp; rfl)); intro gb570 hg w15 hbox hb; have n0_ := Aside0.mk (blk_below (g := gb569) (o := .cells #[.int .i64 a0_0, .int .i64 a0_1] 41 (0, 0)) (by (with_reducible repeat (first | refine blk_drewN ?_ _ | refine blk_drew ?_ | refine blk_alloc ?_ _)); exact BK569.out) hb); have n1_ := Aside0.mk (below_step (by repeat (first | (with_reducible first | exact HB.out | apply below_alloc | apply pw_below_drewN | apply below_drew1 | refine below_set ?_ GE569.out) | exact HB.out)) hb); have n2_ := Aside0.mk (hbox); have n3_ := Aside0.mk ((by rw [hg]; exact (below_size (by repeat (first | (with_reducible first | exact HB.out | apply below_alloc | apply pw_below_drewN | apply below_drew1 | refine below_set ?_ GE569.out) | exact HB.out))) : w.heap.size ≤ gb570)); have n4_ := Aside0.mk ((by rw [hg]; exact (below_size (by repeat (first | (with_reducible first | exact HB.out | apply below_alloc | apply pw_below_drewN | apply below_drew1 | refine below_set ?_ GE569.out) | exact HB.out))) : w.heap.size ≤ gb570)); have n5_ := Aside0.mk ((by rw [hg]; exact Nat.ne_of_lt (blk_lt (g := gb569) (o := .cells #[.int .i64 a0_0, .int .i64 a0_1] 41 (0, 0)) (by (with_reducible repeat (first | refine blk_drewN ?_ _ | refine blk_drew ?_ | refine blk_alloc ?_ _)); exact BK569.out)) : gb569 ≠ gb570)); have n6_ := Aside0.mk ((by rw [hg]; exact Nat.ne_of_gt (blk_lt (g := gb569) (o := .cells #[.int .i64 a0_0, .int .i64 a0_1] 41 (0, 0)) (by (with_reducible repeat (first | refine blk_drewN ?_ _ | refine blk_drew ?_ | refine blk_alloc ?_ _)); exact BK569.out)) : gb570 ≠ gb569)); clear BK569; clear HB; have BK569 := n0_; have HB := n1_; have BK570 := n2_; have GW570 := n3_; have GE570 := n4_; have NB569_570 := n5_; have NB570_569 := n6_; clear n0_ n1_ n2_ n3_ n4_ n5_ n6_; clear hb hbox hg; have hnb16 := NB569_570.out; have hnc16 := NB570_569.out; have hcz17_0 : w15.cell? ⟨gb569, 0, none⟩ = some (.int .i64 a0_0) := (blk_cell BK569.out 0).trans rfl; have hcz17_1 : w15.cell? ⟨gb569, 1, none⟩ = some (.int .i64 a0_1) := (blk_cell BK569.out 1).trans rfl; have hfz17_0 := blk_frozen BK569.out 0; have hfz17_1 := blk_frozen BK569.out 1; have hcz18_0 : w15.cell? ⟨gb570, 0, none⟩ = some (.int .i64 a1_0) := (blk_cell BK570.out 0).trans rfl; have hcz18_1 : w15.cell? ⟨gb570, 1, none⟩ = some (.int .i64 a1_1) := (blk_cell BK570.out 1).trans rfl; have hfz18_0 := blk_frozen BK570.out 0; have hfz18_1 := blk_frozen BK570.out 1) | (go_at_call 71; (with_reducible refine (impl_served.calls a0_0 a0_1 a1_0 a1_1 false _ A3.out).mono ?_); rintro e w19 ⟨rfl, hb⟩; have n0_ := Aside0.mk (blk_below (g := gb569) (o := .cells #[.int .i64 a0_0, .int .i64 a0_1] 41 (0, 0)) (by (with_reducible repeat (first | refine blk_drewN ?_ _ | refine blk_drew ?_ | refine blk_alloc ?_ _)); exact BK569.out) hb); have n1_ := Aside0.mk (blk_below (g := gb570) (o := .cells #[.int .i64 a1_0, .int .i64 a1_1] 51 (0, 0)) (by (with_reducible repeat (first | refine blk_drewN ?_ _ | refine blk_drew ?_ | refine blk_alloc ?_ _)); exact BK570.out) hb); have n2_ := Aside0.mk (below_step (by repeat (first | (with_reducible first | exact HB.out | apply below_alloc | apply pw_below_drewN | apply below_drew1 | refine below_set ?_ GE569.out | refine below_set ?_ GE570.out) | exact HB.out)) hb); clear BK569; clear BK570; clear HB; have BK569 := n0_; have BK570 := n1_; have HB := n2_; clear n0_ n1_ n2_; (try clear hb); (try clear hb2); (try clear hk); (try clear hi))); try go_wp2_with (first | ((with_reducible refine gate_dst (N := 2) rfl ?_); refine box_event ?hg (N := 2) ?hd (cs := #[.int .i64 a0_0, .int .i64 a0_1]) (t := 41) ?hr ?_; (case hd => rfl); (case hg => rfl); (case hr => first | (go_simp; done) | (go_simp; rfl)); intro gb569 hg w14 hbox hb; have n0_ := Aside0.mk (below_step (by repeat (first | (with_reducible first | exact HB.out | apply below_alloc | apply pw_below_drewN | apply below_drew1) | exact HB.out)) hb); have n1_ := Aside0.mk (hbox); have n2_ := Aside0.mk ((by rw [hg]; exact (below_size (by repeat (first | (with_reducible first | exact HB.out | apply below_alloc | apply pw_below_drewN | apply below_drew1) | exact HB.out))) : w.heap.size ≤ gb569)); have n3_ := Aside0.mk ((by rw [hg]; exact (below_size (by repeat (first | (with_reducible first | exact HB.out | apply below_alloc | apply pw_below_drewN | apply below_drew1) | exact HB.out))) : w.heap.size ≤ gb569)); clear HB; have HB := n0_; have BK569 := n1_; have GW569 := n2_; have GE569 := n3_; clear n0_ n1_ n2_ n3_; clear hb hbox hg) | ((with_reducible refine gate_dst (N := 3) rfl ?_); refine box_event ?hg (N := 3) ?hd (cs := #[.int .i64 a1_0, .int .i64 a1_1]) (t := 51) ?hr ?_; (case hd => rfl); (case hg => rfl); (case hr => first | (go_simp; done) | (go_simp; rfl)); intro gb570 hg w15 hbox hb; have n0_ := Aside0.mk (blk_below (g := gb569) (o := .cells #[.int .i64 a0_0, .int .i64 a0_1] 41 (0, 0)) (by (with_reducible repeat (first | refine blk_drewN ?_ _ | refine blk_drew ?_ | refine blk_alloc ?_ _)); exact BK569.out) hb); have n1_ := Aside0.mk (below_step (by repeat (first | (with_reducible first | exact HB.out | apply below_alloc | apply pw_below_drewN | apply below_drew1 | refine below_set ?_ GE569.out) | exact HB.out)) hb); have n2_ := Aside0.mk (hbox); have n3_ := Aside0.mk ((by rw [hg]; exact (below_size (by repeat (first | (with_reducible first | exact HB.out | apply below_alloc | apply pw_below_drewN | apply below_drew1 | refine below_set ?_ GE569.out) | exact HB.out))) : w.heap.size ≤ gb570)); have n4_ := Aside0.mk ((by rw [hg]; exact (below_size (by repeat (first | (with_reducible first | exact HB.out | apply below_alloc | apply pw_below_drewN | apply below_drew1 | refine below_set ?_ GE569.out) | exact HB.out))) : w.heap.size ≤ gb570)); have n5_ := Aside0.mk ((by rw [hg]; exact Nat.ne_of_lt (blk_lt (g := gb569) (o := .cells #[.int .i64 a0_0, .int .i64 a0_1] 41 (0, 0)) (by (with_reducible repeat (first | refine blk_drewN ?_ _ | refine blk_drew ?_ | refine blk_alloc ?_ _)); exact BK569.out)) : gb569 ≠ gb570)); have n6_ := Aside0.mk ((by rw [hg]; exact Nat.ne_of_gt (blk_lt (g := gb569) (o := .cells #[.int .i64 a0_0, .int .i64 a0_1] 41 (0, 0)) (by (with_reducible repeat (first | refine blk_drewN ?_ _ | refine blk_drew ?_ | refine blk_alloc ?_ _)); exact BK569.out)) : gb570 ≠ gb569)); clear BK569; clear HB; have BK569 := n0_; have HB := n1_; have BK570 := n2_; have GW570 := n3_; have GE570 := n4_; have NB569_570 := n5_; have NB570_569 := n6_; clear n0_ n1_ n2_ n3_ n4_ n5_ n6_; clear hb hbox hg; have hnb16 := NB569_570.out; have hnc16 := NB570_569.out; have hcz17_0 : w15.cell? ⟨gb569, 0, none⟩ = some (.int .i64 a0_0) := (blk_cell BK569.out 0).trans rfl; have hcz17_1 : w15.cell? ⟨gb569, 1, none⟩ = some (.int .i64 a0_1) := (blk_cell BK569.out 1).trans rfl; have hfz17_0 := blk_frozen BK569.out 0; have hfz17_1 := blk_frozen BK569.out 1; have hcz18_0 : w15.cell? ⟨gb570, 0, none⟩ = some (.int .i64 a1_0) := (blk_cell BK570.out 0).trans rfl; have hcz18_1 : w15.cell? ⟨gb570, 1, none⟩ = some (.int .i64 a1_1) := (blk_cell BK570.out 1).trans rfl; have hfz18_0 := blk_frozen BK570.out 0; have hfz18_1 := blk_frozen BK570.out 1) | (go_at_call 71; (with_reducible refine (impl_served.calls a0_0 a0_1 a1_0 a1_1 false _ A3.out).mono ?_); rintro e w19 ⟨rfl, hb⟩; have n0_ := Aside0.mk (blk_below (g := gb569) (o := .cells #[.int .i64 a0_0, .int .i64 a0_1] 41 (0, 0)) (by (with_reducible repeat (first | refine blk_drewN ?_ _ | refine blk_drew ?_ | refine blk_alloc ?_ _)); exact BK569.out) hb); have n1_ := Aside0.mk (blk_below (g := gb570) (o := .cells #[.int .i64 a1_0, .int .i64 a1_1] 51 (0, 0)) (by (with_reducible repeat (first | refine blk_drewN ?_ _ | refine blk_drew ?_ | refine blk_alloc ?_ _)); exact BK570.out) hb); have n2_ := Aside0.mk (below_step (by repeat (first | (with_reducible first | exact HB.out | apply below_alloc | apply pw_below_drewN | apply below_drew1 | refine below_set ?_ GE569.out | refine below_set ?_ GE570.out) | exact HB.out)) hb); clear BK569; clear BK570; clear HB; have BK569 := n0_; have BK570 := n1_; have HB := n2_; clear n0_ n1_ n2_; (try clear hb); (try clear hb2); (try clear hk); (try clear hi))))
    go_ret
    exact ⟨by first | rfl | (simp [errW_none, errW_some] <;> rfl) | (simp [*, errW_none, errW_some] <;> rfl), by repeat (first | (with_reducible first | exact HB.out | apply below_alloc | apply pw_below_drewN | apply below_drew1 | refine below_set ?_ GE569.out | refine below_set ?_ GE570.out) | exact HB.out)⟩

end Go.Proofs.Ytkmpcmhkfnoeiaa.P
/- The bounds of network calculus (the second seat has no more), each as a plain function. No condition. -/
namespace Go.Proofs.Ytkmpcmhkfnoeiaa.Net
open Go.RowKit Go.Proofs.Ytkmpcmhkfnoeiaa.P Go.Proofs.Ytkmpcmhkfnoeiaa.Base Go.Proofs.YtkmpcmhkfnoeiaaW.PrintWords Go.Proofs.YtkmpcmhkfnoeiaaW.PrintLast
def FV (a b : Int) : Prop := 0 ≤ a ∧ a ≤ 20 ∧ 0 ≤ b ∧ b ≤ 20
def LV (a b : Int) : Prop := 0 ≤ a ∧ a ≤ 20 ∧ 1 ≤ b ∧ b ≤ 20
instance (a b : Int) : Decidable (FV a b) := by unfold FV; infer_instance
instance (a b : Int) : Decidable (LV a b) := by unfold LV; infer_instance
theorem flow_f (a b : Int) : impl_FlowValid.f a b = some (decide (FV a b)) := by
  unfold impl_FlowValid.f
  rw [in_f, in_f]; simp only [Option.bind_some]
  rw [and_two]
  congr 1; rw [decide_eq_decide]; unfold FV; omega
theorem link_f (a b : Int) : impl_LinkValid.f a b = some (decide (LV a b)) := by
  unfold impl_LinkValid.f
  rw [in_f, in_f]; simp only [Option.bind_some]
  rw [and_two]
  congr 1; rw [decide_eq_decide]; unfold LV; omega
theorem sflow_f (a b : Int) : spec_FlowValid.f a b = some (decide (FV a b)) := by
  unfold spec_FlowValid.f
  rw [l1In_f, l1In_f]; simp only [Option.bind_some]
  rw [and_two]
  congr 1; rw [decide_eq_decide]; unfold FV; omega
theorem slink_f (a b : Int) : spec_LinkValid.f a b = some (decide (LV a b)) := by
  unfold spec_LinkValid.f
  rw [l1In_f, l1In_f]; simp only [Option.bind_some]
  rw [and_two]
  congr 1; rw [decide_eq_decide]; unfold LV; omega
theorem served_f (a b c d : Int) : impl_served.f a b c d = some (decide (FV a b ∧ LV c d ∧ b ≤ d)) := by
  unfold impl_served.f
  rw [flow_f, link_f, and_bind, and_bind]
  by_cases h1 : FV a b <;> by_cases h2 : LV c d <;> by_cases h3 : b ≤ d <;> simp [h1, h2, h3]
/-- What the backlog's and the delay's bounds are. -/
def bb (a b c d : Int) : Int := if FV a b ∧ LV c d ∧ b ≤ d then a + b * c else -1
def db (a b c d : Int) : Int := if FV a b ∧ LV c d ∧ b ≤ d then c + (a + d - 1) / d else -1
theorem bb_wrap {a b c d : Int} (h1 : FV a b) (h2 : LV c d) : wrap64 (a + wrap64 (b * c)) = a + b * c := by
  unfold FV at h1; unfold LV at h2
  have h := mul_bd (a := b) (b := c) (A := 20) (B := 20) (by omega) (by omega) (by omega) (by omega)
  rw [w64 (x := b * c) (by omega) (by omega), w64 (by omega) (by omega)]
theorem db_wrap {a b c d : Int} (h1 : FV a b) (h2 : LV c d) : wrap64 (c + wrap64 (Int.tdiv (wrap64 (wrap64 (a + d) - 1)) d)) = c + (a + d - 1) / d := by
  unfold FV at h1; unfold LV at h2
  rw [w64 (x := a + d) (by omega) (by omega), w64 (x := a + d - 1) (by omega) (by omega), Int.tdiv_eq_ediv_of_nonneg (by omega)]
  have e0 : 0 ≤ (a + d - 1) / d := Int.ediv_nonneg (by omega) (by omega)
  have e1 : (a + d - 1) / d ≤ a + d - 1 := Int.ediv_le_self _ (by omega)
  rw [w64 (x := (a + d - 1) / d) (by omega) (by omega), w64 (by omega) (by omega)]
theorem backlog_f (a b c d : Int) : impl_BacklogBound.f a b c d = some (bb a b c d) := by
  unfold impl_BacklogBound.f bb
  rw [served_f, and_bind]
  by_cases h : FV a b ∧ LV c d ∧ b ≤ d
  · rw [if_pos h, if_pos h, bb_wrap h.1 h.2.1]
  · rw [if_neg h, if_neg h]
theorem delay_f (a b c d : Int) : impl_DelayBound.f a b c d = some (db a b c d) := by
  unfold impl_DelayBound.f db impl_ceil.f
  rw [served_f, and_bind]
  by_cases h : FV a b ∧ LV c d ∧ b ≤ d
  · have h2 := h.2.1; unfold LV at h2
    rw [if_pos h, if_pos h, if_neg (by omega)]; simp only [Option.bind_some]; rw [db_wrap h.1 h.2.1]
  · rw [if_neg h, if_neg h]
end Go.Proofs.Ytkmpcmhkfnoeiaa.Net
/- Conforms, of the program and of the reference, is one test. No condition. -/
namespace Go.Proofs.Ytkmpcmhkfnoeiaa.Conf
open Go.RowKit Go.Proofs.Ytkmpcmhkfnoeiaa.P Go.Proofs.Ytkmpcmhkfnoeiaa.Base Go.Proofs.Ytkmpcmhkfnoeiaa.Net Go.Proofs.Ytkmpcmhkfnoeiaa.Gen Go.Proofs.YtkmpcmhkfnoeiaaW.PrintWords Go.Proofs.YtkmpcmhkfnoeiaaW.PrintLast
/-- The sum of n amounts from place j on. -/
def sm (l : List Int) (j : Nat) : Nat → Int
  | 0 => 0
  | n + 1 => sm l j n + l.getD (j + n) 0
/-- All amounts are in 0..1000. -/
def Am (l : List Int) : Prop := ∀ x ∈ l, 0 ≤ x ∧ x ≤ 1000
instance (l : List Int) : Decidable (Am l) := by unfold Am; infer_instance
theorem getD_bd {l : List Int} (h : Am l) (i : Nat) : 0 ≤ l.getD i 0 ∧ l.getD i 0 ≤ 1000 := by
  rw [List.getD_eq_getElem?_getD]
  rcases Nat.lt_or_ge i l.length with hi | hi
  · rw [List.getElem?_eq_getElem hi]; exact h _ (List.getElem_mem hi)
  · rw [List.getElem?_eq_none hi]; simp
theorem sm_bd {l : List Int} (h : Am l) (j n : Nat) : 0 ≤ sm l j n ∧ sm l j n ≤ 1000 * n := by
  induction n with
  | zero => simp [sm]
  | succ n ih => have := getD_bd h (j + n); simp only [sm]; push_cast; omega
def row (b r : Int) (l : List Int) (j : Nat) : Prop := ∀ n, n < 121 → 1 ≤ n → j + n ≤ l.length → sm l j n ≤ b + r * n
instance (b r : Int) (l : List Int) (j : Nat) : Decidable (row b r l j) := by unfold row; infer_instance
def rest (b r : Int) (l : List Int) (q : Nat) : Prop := ∀ j, j < 121 → q ≤ j → row b r l j
instance (b r : Int) (l : List Int) (q : Nat) : Decidable (rest b r l q) := by unfold rest; infer_instance
theorem rest_end {b r : Int} {l : List Int} {q : Nat} (h : l.length ≤ q) : rest b r l q := fun j _ h1 n _ h2 h3 => by omega
theorem rest_succ {b r : Int} {l : List Int} {q : Nat} (hq : q < 121) : rest b r l q ↔ row b r l q ∧ rest b r l (q + 1) := by
  constructor
  · exact fun h => ⟨h q hq (Nat.le_refl q), fun j h1 h2 => h j h1 (by omega)⟩
  · rintro ⟨h1, h2⟩ j h3 h4
    rcases Nat.lt_or_ge q j with h | h
    · exact h2 j h3 h
    · obtain rfl : j = q := by omega
      exact h1
section
variable (b r : Int) (l : List Int) (hf : FV b r) (hl : l.length ≤ 120) (ha : Am l)
include hf hl ha
omit hl ha in
theorem bnd (n : Nat) (hn : n ≤ 121) : 0 ≤ r * (n : Int) ∧ r * (n : Int) ≤ 2420 := by
  unfold FV at hf
  exact mul_bd (A := 20) (B := 121) (by omega) (by omega) (by omega) (by omega)
theorem spec_l1 (j : Nat) (R : Bool) (hR : row b r l j → Ev (fun k => spec_l23Conforms.l0 k l ((j : Int) + 1) b r) R) (hN : ¬ row b r l j → R = false) :
    ∀ d n, j + n + d = l.length → (∀ m, 1 ≤ m → m ≤ n → sm l j m ≤ b + r * m) → Ev (fun k => spec_l23Conforms.l1 k l j (sm l j n) ((j + n : Nat) : Int) b r) R := by
  intro d
  induction d with
  | zero =>
    intro n hn hm
    have hrow : row b r l j := fun m h1 h2 h3 => hm m h2 (by omega)
    refine Ev.step (f := fun k => spec_l23Conforms.l0 k l ((j : Int) + 1) b r) (fun k => ?_) (hR hrow)
    simp only [spec_l23Conforms.l1]
    rw [if_neg (by omega), w64 (by omega) (by omega)]
  | succ d ih =>
    intro n hn hm
    have hs := sm_bd ha j n
    have hg := getD_bd ha (j + n)
    have hb := bnd b r hf (n + 1) (by omega)
    have hf' := hf
    unfold FV at hf'
    have e1 : sm l j (n + 1) = sm l j n + l.getD (j + n) 0 := rfl
    have e2 : rd l ((j + n : Nat) : Int) = l.getD (j + n) 0 := rfl
    have e3 : ((j + n : Nat) : Int) - j + 1 = ((n + 1 : Nat) : Int) := by push_cast; omega
    by_cases hx : sm l j (n + 1) > b + r * ((n + 1 : Nat) : Int)
    · have hrow : ¬ row b r l j := fun h => by have := h (n + 1) (by omega) (by omega) (by omega); omega
      refine Ev.step (f := fun _ => some false) (fun k => ?_) (by rw [hN hrow]; exact Ev.now _)
      simp only [spec_l23Conforms.l1]
      rw [if_pos (by omega), if_pos (by omega), e2, w64 (x := ((j + n : Nat) : Int) - j) (by omega) (by omega), w64 (x := ((j + n : Nat) : Int) - j + 1) (by omega) (by omega), e3, w64 (x := r * ((n + 1 : Nat) : Int)) (by omega) (by omega), w64 (x := b + r * ((n + 1 : Nat) : Int)) (by omega) (by omega), w64 (x := sm l j n + l.getD (j + n) 0) (by omega) (by omega), if_pos (by omega)]
    · refine Ev.step (f := fun k => spec_l23Conforms.l1 k l j (sm l j (n + 1)) ((j + (n + 1) : Nat) : Int) b r) (fun k => ?_) (ih (n + 1) (by omega) (fun m h1 h2 => ?_))
      · simp only [spec_l23Conforms.l1]
        rw [if_pos (by omega), if_pos (by omega), e2, w64 (x := ((j + n : Nat) : Int) - j) (by omega) (by omega), w64 (x := ((j + n : Nat) : Int) - j + 1) (by omega) (by omega), e3, w64 (x := r * ((n + 1 : Nat) : Int)) (by omega) (by omega), w64 (x := b + r * ((n + 1 : Nat) : Int)) (by omega) (by omega), w64 (x := sm l j n + l.getD (j + n) 0) (by omega) (by omega), if_neg (by omega), w64 (x := ((j + n : Nat) : Int) + 1) (by omega) (by omega)]
        rfl
      · rcases Nat.lt_or_ge m (n + 1) with h | h
        · exact hm m h1 (by omega)
        · obtain rfl : m = n + 1 := by omega
          omega
theorem impl_l1 (j : Nat) (hj : j ≤ l.length) (R : Bool) (hR : row b r l j → Ev (fun k => impl_Conforms.l0 k l (l.length : Int) ((j : Int) + 1) b r) R) (hN : ¬ row b r l j → R = false) :
    ∀ d n, j + n + d = l.length → (∀ m, 1 ≤ m → m ≤ n → sm l j m ≤ b + r * m) → Ev (fun k => impl_Conforms.l1 k l (sm l j n) (l.length : Int) j (l.drop j) ((l.drop j).length : Int) (n : Int) b r) R := by
  intro d
  have hdl : (l.drop j).length = l.length - j := List.length_drop
  induction d with
  | zero =>
    intro n hn hm
    have hrow : row b r l j := fun m h1 h2 h3 => hm m h2 (by omega)
    refine Ev.step (f := fun k => impl_Conforms.l0 k l (l.length : Int) ((j : Int) + 1) b r) (fun k => ?_) (hR hrow)
    simp only [impl_Conforms.l1]
    rw [if_neg (by omega), w64 (by omega) (by omega)]
  | succ d ih =>
    intro n hn hm
    have hs := sm_bd ha j n
    have hg := getD_bd ha (j + n)
    have hb := bnd b r hf (n + 1) (by omega)
    have hf' := hf
    unfold FV at hf'
    have e1 : sm l j (n + 1) = sm l j n + l.getD (j + n) 0 := rfl
    have e2 : rd (l.drop j) (n : Int) = l.getD (j + n) 0 := by unfold rd; simp [List.getD_eq_getElem?_getD]
    have e3 : (n : Int) + 1 = ((n + 1 : Nat) : Int) := by push_cast; rfl
    by_cases hx : sm l j (n + 1) > b + r * ((n + 1 : Nat) : Int)
    · have hrow : ¬ row b r l j := fun h => by have := h (n + 1) (by omega) (by omega) (by omega); omega
      refine Ev.step (f := fun _ => some false) (fun k => ?_) (by rw [hN hrow]; exact Ev.now _)
      simp only [impl_Conforms.l1]
      rw [if_pos (by omega), if_pos (by omega), if_pos (by omega), e2, w64 (x := (n : Int) + 1) (by omega) (by omega), e3, w64 (x := r * ((n + 1 : Nat) : Int)) (by omega) (by omega), w64 (x := b + r * ((n + 1 : Nat) : Int)) (by omega) (by omega), w64 (x := sm l j n + l.getD (j + n) 0) (by omega) (by omega), if_pos (by omega)]
    · refine Ev.step (f := fun k => impl_Conforms.l1 k l (sm l j (n + 1)) (l.length : Int) j (l.drop j) ((l.drop j).length : Int) ((n + 1 : Nat) : Int) b r) (fun k => ?_) (ih (n + 1) (by omega) (fun m h1 h2 => ?_))
      · simp only [impl_Conforms.l1]
        rw [if_pos (by omega), if_pos (by omega), if_pos (by omega), e2, w64 (x := (n : Int) + 1) (by omega) (by omega), e3, w64 (x := r * ((n + 1 : Nat) : Int)) (by omega) (by omega), w64 (x := b + r * ((n + 1 : Nat) : Int)) (by omega) (by omega), w64 (x := sm l j n + l.getD (j + n) 0) (by omega) (by omega), if_neg (by omega)]
        rfl
      · rcases Nat.lt_or_ge m (n + 1) with h | h
        · exact hm m h1 (by omega)
        · obtain rfl : m = n + 1 := by omega
          omega
theorem spec_l0 : ∀ d j, j + d = l.length → Ev (fun k => spec_l23Conforms.l0 k l (j : Int) b r) (decide (rest b r l j)) := by
  intro d
  induction d with
  | zero =>
    intro j hj
    have hr : rest b r l j := rest_end (by omega)
    refine Ev.step (f := fun _ => some true) (fun k => ?_) (by simp only [hr, decide_true]; exact Ev.now _)
    simp only [spec_l23Conforms.l0]
    rw [if_neg (by omega)]
  | succ d ih =>
    intro j hj
    have hi := ih (j + 1) (by omega)
    have h0 := spec_l1 b r l hf hl ha j (decide (rest b r l j)) (fun hc => by
      have : decide (rest b r l j) = decide (rest b r l (j + 1)) := by rw [decide_eq_decide, rest_succ (by omega)]; exact ⟨fun h => h.2, fun h => ⟨hc, h⟩⟩
      rw [this]; exact hi) (fun hc => by simp only [decide_eq_false_iff_not]; exact fun h => hc ((rest_succ (by omega)).1 h).1) (d + 1) 0 (by omega) (fun m h1 h2 => by omega)
    refine Ev.step (fun k => ?_) h0
    simp only [spec_l23Conforms.l0]
    rw [if_pos (by omega)]
    rfl
theorem impl_l0 : ∀ d j, j + d = l.length → Ev (fun k => impl_Conforms.l0 k l (l.length : Int) (j : Int) b r) (decide (rest b r l j)) := by
  intro d
  induction d with
  | zero =>
    intro j hj
    have hr : rest b r l j := rest_end (by omega)
    refine Ev.step (f := fun _ => some true) (fun k => ?_) (by simp only [hr, decide_true]; exact Ev.now _)
    simp only [impl_Conforms.l0]
    rw [if_neg (by omega)]
  | succ d ih =>
    intro j hj
    have hi := ih (j + 1) (by omega)
    have h0 := impl_l1 b r l hf hl ha j (by omega) (decide (rest b r l j)) (fun hc => by
      have : decide (rest b r l j) = decide (rest b r l (j + 1)) := by rw [decide_eq_decide, rest_succ (by omega)]; exact ⟨fun h => h.2, fun h => ⟨hc, h⟩⟩
      rw [this]; exact hi) (fun hc => by simp only [decide_eq_false_iff_not]; exact fun h => hc ((rest_succ (by omega)).1 h).1) (d + 1) 0 (by omega) (fun m h1 h2 => by omega)
    refine Ev.step (fun k => ?_) h0
    simp only [impl_Conforms.l0]
    rw [if_pos (by omega), if_pos (by omega), if_pos (by omega), Int.toNat_natCast]
    rfl
end
/-- Conforms, as one test. -/
def CV (b r : Int) (l : List Int) : Prop := FV b r ∧ l.length ≤ 120 ∧ Am l ∧ rest b r l 0
instance (b r : Int) (l : List Int) : Decidable (CV b r l) := by unfold CV; infer_instance
def AmOk (l : List Int) : Prop := l.length ≤ 120 ∧ Am l
instance (l : List Int) : Decidable (AmOk l) := by unfold AmOk; infer_instance
theorem amounts_f (l : List Int) : impl_amounts.f l = some (decide (AmOk l)) := by
  have ea : any_amounts.f l = some (decide (¬ Am l)) := by
    unfold any_amounts.f
    congr 1
    rw [Bool.eq_iff_iff, List.any_eq_true]
    unfold Am
    simp only [any_amounts.bad, decide_eq_true_eq]
    constructor
    · rintro ⟨x, hx, h⟩ hh
      have := hh x hx
      simp at h
      omega
    · intro hh
      refine Classical.byContradiction fun hc => hh fun x hx => ?_
      refine Classical.byContradiction fun h2 => hc ⟨x, hx, ?_⟩
      simp; omega
  unfold impl_amounts.f
  by_cases h : (l.length : Int) ≤ 120
  · rw [if_pos h, ea]
    simp only [Option.bind_some]
    congr 1
    rw [Bool.eq_iff_iff]
    unfold AmOk
    have : l.length ≤ 120 := by omega
    simp [this]
  · rw [if_neg h]
    congr 1; symm; rw [decide_eq_false_iff_not]
    unfold AmOk; omega
theorem impl_conf (b r : Int) (l : List Int) : Ev (fun k => impl_Conforms.f k b r l) (decide (CV b r l)) := by
  have no : ¬ CV b r l → Ev (fun k => impl_Conforms.j0 k l true b r) (decide (CV b r l)) := by
    intro h
    rw [decide_eq_false h]
    exact Ev.step (f := fun _ => some false) (fun k => by simp [impl_Conforms.j0]) (Ev.now _)
  by_cases h1 : FV b r
  · by_cases h2 : AmOk l
    · have h := impl_l0 b r l h1 h2.1 h2.2 l.length 0 (by omega)
      have e : decide (CV b r l) = decide (rest b r l 0) := by rw [decide_eq_decide]; exact ⟨fun h => h.2.2.2, fun h => ⟨h1, h2.1, h2.2, h⟩⟩
      rw [e]
      have hs : Ev (fun k => impl_Conforms.j0 k l (!decide (AmOk l)) b r) (decide (rest b r l 0)) := by
        refine Ev.step (fun k => ?_) h
        simp only [impl_Conforms.j0]
        rw [if_neg (by simp [h2])]
        rfl
      refine Ev.congr (fun k => ?_) hs
      unfold impl_Conforms.f
      rw [flow_f, and_bind, if_pos h1, amounts_f]; rfl
    · refine Ev.congr (fun k => ?_) (no (fun h => h2 ⟨h.2.1, h.2.2.1⟩))
      unfold impl_Conforms.f
      rw [flow_f, and_bind, if_pos h1, amounts_f]
      simp [h2]
  · refine Ev.congr (fun k => ?_) (no (fun h => h1 h.1))
    unfold impl_Conforms.f
    rw [flow_f, and_bind, if_neg h1]
theorem spec_conf (b r : Int) (l : List Int) : Ev (fun k => spec_Conforms.f k b r l) (decide (CV b r l)) := by
  have no : ¬ CV b r l → Ev (fun k => spec_Conforms.j0 k l true b r) (decide (CV b r l)) := by
    intro h
    rw [decide_eq_false h]
    exact Ev.step (f := fun _ => some false) (fun k => by simp [spec_Conforms.j0]) (Ev.now _)
  by_cases h1 : FV b r
  · by_cases h2 : l.length ≤ 120
    · -- the amounts, one by one
      have loop : ∀ d j, j + d = l.length → (∀ i (h : i < l.length), i < j → 0 ≤ l[i] ∧ l[i] ≤ 1000) → Ev (fun k => spec_Conforms.l0 k l (j : Int) b r) (decide (CV b r l)) := by
        intro d
        induction d with
        | zero =>
          intro j hj hm
          have ha : Am l := by
            intro x hx
            obtain ⟨i, hi, rfl⟩ := List.getElem_of_mem hx
            exact hm i hi (by omega)
          have e : decide (CV b r l) = decide (rest b r l 0) := by rw [decide_eq_decide]; exact ⟨fun h => h.2.2.2, fun h => ⟨h1, h2, ha, h⟩⟩
          rw [e]
          have h := spec_l0 b r l h1 h2 ha l.length 0 (by omega)
          refine Ev.step (f := fun k => (spec_l23Conforms.f k b r l).bind fun t => some t) (fun k => ?_) ?_
          · simp only [spec_Conforms.l0]
            rw [if_neg (by omega)]
          · exact Ev.bind (f := fun _ t => some t) h (Ev.now _)
        | succ d ih =>
          intro j hj hm
          have hlt : j < l.length := by omega
          by_cases hx : 0 ≤ l[j] ∧ l[j] ≤ 1000
          · refine Ev.step (f := fun k => spec_Conforms.l0 k l ((j + 1 : Nat) : Int) b r) (fun k => ?_) (ih (j + 1) (by omega) (fun i h hi => ?_))
            · simp only [spec_Conforms.l0]
              rw [if_pos (by omega), if_pos (by omega), rd_at _ _ hlt, l1In_f, and_bind, if_pos hx, w64 (by omega) (by omega)]
              rfl
            · rcases Nat.lt_or_ge i j with h' | h'
              · exact hm i h h'
              · obtain rfl : i = j := by omega
                exact hx
          · have hno : ¬ CV b r l := fun h => hx (h.2.2.1 _ (List.getElem_mem hlt))
            rw [decide_eq_false hno]
            refine Ev.step (f := fun _ => some false) (fun k => ?_) (Ev.now _)
            simp only [spec_Conforms.l0]
            rw [if_pos (by omega), if_pos (by omega), rd_at _ _ hlt, l1In_f, and_bind, if_neg hx]
      have hs : Ev (fun k => spec_Conforms.j0 k l (decide ((l.length : Int) > 120)) b r) (decide (CV b r l)) := by
        refine Ev.step (fun k => ?_) (loop l.length 0 (by omega) (fun i h hi => by omega))
        simp only [spec_Conforms.j0]
        rw [if_neg (by simp; omega)]
        rfl
      refine Ev.congr (fun k => ?_) hs
      unfold spec_Conforms.f
      rw [sflow_f, and_bind, if_pos h1]
    · refine Ev.congr (fun k => ?_) (no (fun h => h2 h.2.1))
      unfold spec_Conforms.f
      rw [sflow_f, and_bind, if_pos h1, show decide ((l.length : Int) > 120) = true from decide_eq_true (by omega)]
  · refine Ev.congr (fun k => ?_) (no (fun h => h1 h.1))
    unfold spec_Conforms.f
    rw [sflow_f, and_bind, if_neg h1]
end Go.Proofs.Ytkmpcmhkfnoeiaa.Conf
-- Laid by a program of this work.
namespace Go.Proofs.Ytkmpcmhkfnoeiaa.P
open Go.RowKit Go.Proofs.YtkmpcmhkfnoeiaaW.PrintWords Go.Proofs.YtkmpcmhkfnoeiaaW.PrintLast Go.Proofs.YtkmpcmhkfnoeiaaW.PrintMore
attribute [local go_sem] max2_int min2_int max_two min_two max_three min_three max_four min_four   -- for this text's walks alone
set_option linter.unusedVariables false
set_option linter.unusedSimpArgs false

/-! ### spec_l20Link: function 70 -/
def spec_l20Link.f (k : Nat) (s0_0 : List Int) (s0_1 : Int) (a1 : Int) : Option (Int × Int × Int) := (spec_l20Rd_pick.f k s0_0 s0_1 9).bind fun bt468 => ((spec_l20Rd_pick.f k s0_0 bt468.2 9).bind fun bt470 => ((spec_l20Rd_odd.f k s0_0 bt470.2 a1).bind fun bt473 => (if bt473.1 = true then ((some (([(⟨0, 0⟩ : S51), (⟨(-1), 1⟩ : S51), (⟨21, 1⟩ : S51), (⟨0, 21⟩ : S51)] : List (S51)) : List (S51))).bind fun y475 => ((spec_l20Rd_pick.f k s0_0 bt473.2 4).bind fun bt478 => (if 0 ≤ bt478.1 then (if bt478.1 < (y475.length : Int) then (some ((rd_T51 y475 bt478.1).f0, (rd_T51 y475 bt478.1).f1, bt478.2)) else (none)) else (none)))) else (some (bt468.1, wrap64 (1 + bt470.1), bt473.2)))))
theorem spec_l20Link.mono : ∀ a0 a1 a2 k, LeO (spec_l20Link.f k a0 a1 a2) (spec_l20Link.f (k + 1) a0 a1 a2) := by
  intro a0 a1 a2 k
  unfold spec_l20Link.f
  repeat' first
      | (with_reducible exact spec_l20Rd_odd.mono _ _ _ _)
      | (with_reducible exact spec_l20Rd_pick.mono _ _ _ _)
      | (with_reducible exact LeO.refl _)
      | (with_reducible exact LeO.none _)
      | (with_reducible refine LeO.ite ?_ ?_)
      | (with_reducible refine LeO.bind ?_ (fun _ => ?_))
      | exact spec_l20Rd_odd.mono _ _ _ _
      | exact spec_l20Rd_pick.mono _ _ _ _
      | exact LeO.none _
      | refine LeO.ite ?_ ?_
      | refine LeO.bind ?_ (fun _ => ?_)
set_option maxHeartbeats 8000000 in
set_option maxRecDepth 100000 in
theorem spec_l20Link.calls (k : Nat) (g : Nat) (s0_0 : List Int) (s0_1 : Int) (a1 : Int) (r1 : Int) (r2 : Int) (r3 : Int) (w0 w : World) (hI : IsS92 w0 w g s0_0 s0_1) (hB : Below w0.heap.size w0 w) (h : spec_l20Link.f k s0_0 s0_1 a1 = some (r1, r2, r3)) :
    Calls Try.prog 70 #[.pointer (some ⟨g, 0, none⟩), .int .i64 a1] w fun e w' => e = .returned (.agg #[.int .i64 r1, .int .i64 r2]) ∧ IsS92 w0 w' g s0_0 r3 ∧ Below w0.heap.size w0 w' ∧ KeepBut w w' g none := by
  have hu51 := Try.underlying51
  have HI0 := Aside0.mk hI
  have HK := Aside0.mk (KeepBut.refl w g none)
  have HL := Aside0.mk hB.size
  clear hI
  have HW0 := Aside0.mk hB.size
  have HB := Aside0.mk hB
  clear hB
  have H : ((spec_l20Rd_pick.f k s0_0 s0_1 9).bind fun bt468 => ((spec_l20Rd_pick.f k s0_0 bt468.2 9).bind fun bt470 => ((spec_l20Rd_odd.f k s0_0 bt470.2 a1).bind fun bt473 => (if bt473.1 = true then ((some (([(⟨0, 0⟩ : S51), (⟨(-1), 1⟩ : S51), (⟨21, 1⟩ : S51), (⟨0, 21⟩ : S51)] : List (S51)) : List (S51))).bind fun y475 => ((spec_l20Rd_pick.f k s0_0 bt473.2 4).bind fun bt478 => (if 0 ≤ bt478.1 then (if bt478.1 < (y475.length : Int) then (some ((rd_T51 y475 bt478.1).f0, (rd_T51 y475 bt478.1).f1, bt478.2)) else (none)) else (none)))) else (some (bt468.1, wrap64 (1 + bt470.1), bt473.2)))))) = some (r1, r2, r3) := h
  clear h
  replace H := Option.bind_eq_some_iff.mp H
  obtain ⟨⟨t468, t469⟩, A30, H⟩ := H
  replace H : ((spec_l20Rd_pick.f k s0_0 t469 9).bind fun bt470 => ((spec_l20Rd_odd.f k s0_0 bt470.2 a1).bind fun bt473 => (if bt473.1 = true then ((some (([(⟨0, 0⟩ : S51), (⟨(-1), 1⟩ : S51), (⟨21, 1⟩ : S51), (⟨0, 21⟩ : S51)] : List (S51)) : List (S51))).bind fun y475 => ((spec_l20Rd_pick.f k s0_0 bt473.2 4).bind fun bt478 => (if 0 ≤ bt478.1 then (if bt478.1 < (y475.length : Int) then (some ((rd_T51 y475 bt478.1).f0, (rd_T51 y475 bt478.1).f1, bt478.2)) else (none)) else (none)))) else (some (t468, wrap64 (1 + bt470.1), bt473.2))))) = some (r1, r2, r3) := H
  have A3 := Aside0.mk A30
  clear A30
  replace H := Option.bind_eq_some_iff.mp H
  obtain ⟨⟨t470, t471⟩, A40, H⟩ := H
  replace H : ((spec_l20Rd_odd.f k s0_0 t471 a1).bind fun bt473 => (if bt473.1 = true then ((some (([(⟨0, 0⟩ : S51), (⟨(-1), 1⟩ : S51), (⟨21, 1⟩ : S51), (⟨0, 21⟩ : S51)] : List (S51)) : List (S51))).bind fun y475 => ((spec_l20Rd_pick.f k s0_0 bt473.2 4).bind fun bt478 => (if 0 ≤ bt478.1 then (if bt478.1 < (y475.length : Int) then (some ((rd_T51 y475 bt478.1).f0, (rd_T51 y475 bt478.1).f1, bt478.2)) else (none)) else (none)))) else (some (t468, wrap64 (1 + t470), bt473.2)))) = some (r1, r2, r3) := H
  have A4 := Aside0.mk A40
  clear A40
  replace H := Option.bind_eq_some_iff.mp H
  obtain ⟨⟨t473, t474⟩, A50, H⟩ := H
  replace H : (if t473 = true then ((some (([(⟨0, 0⟩ : S51), (⟨(-1), 1⟩ : S51), (⟨21, 1⟩ : S51), (⟨0, 21⟩ : S51)] : List (S51)) : List (S51))).bind fun y475 => ((spec_l20Rd_pick.f k s0_0 t474 4).bind fun bt478 => (if 0 ≤ bt478.1 then (if bt478.1 < (y475.length : Int) then (some ((rd_T51 y475 bt478.1).f0, (rd_T51 y475 bt478.1).f1, bt478.2)) else (none)) else (none)))) else (some (t468, wrap64 (1 + t470), t474))) = some (r1, r2, r3) := H
  have A5 := Aside0.mk A50
  clear A50
  by_cases c6 : t473 = true
  · subst c6
    have H1 : ((some (([(⟨0, 0⟩ : S51), (⟨(-1), 1⟩ : S51), (⟨21, 1⟩ : S51), (⟨0, 21⟩ : S51)] : List (S51)) : List (S51))).bind fun y475 => ((spec_l20Rd_pick.f k s0_0 t474 4).bind fun bt478 => (if 0 ≤ bt478.1 then (if bt478.1 < (y475.length : Int) then (some ((rd_T51 y475 bt478.1).f0, (rd_T51 y475 bt478.1).f1, bt478.2)) else (none)) else (none)))) = some (r1, r2, r3) := by rw [if_pos rfl] at H; exact H
    clear H
    have H := H1
    clear H1
    obtain ⟨y475, hy475⟩ : ∃ y_ : List (S51), y_ = (([(⟨0, 0⟩ : S51), (⟨(-1), 1⟩ : S51), (⟨21, 1⟩ : S51), (⟨0, 21⟩ : S51)] : List (S51))) := ⟨_, rfl⟩
    replace H : ((spec_l20Rd_pick.f k s0_0 t474 4).bind fun bt478 => (if 0 ≤ bt478.1 then (if bt478.1 < (y475.length : Int) then (some ((rd_T51 y475 bt478.1).f0, (rd_T51 y475 bt478.1).f1, bt478.2)) else (none)) else (none))) = some (r1, r2, r3) := by first | (rw [hy475]; with_reducible exact H) | (have H2_ := (Option.bind_some _ _).symm.trans H; rw [hy475]; with_reducible exact H2_) | (have H2_ := (Option.bind_some _ _).symm.trans H; with_reducible exact H2_) | with_reducible exact H | (rw [hy475]; exact H) | exact H
    have Ny475 := Aside0.mk hy475
    clear hy475
    replace H := Option.bind_eq_some_iff.mp H
    obtain ⟨⟨t478, t479⟩, A70, H⟩ := H
    replace H : (if 0 ≤ t478 then (if t478 < (y475.length : Int) then (some ((rd_T51 y475 t478).f0, (rd_T51 y475 t478).f1, t479)) else (none)) else (none)) = some (r1, r2, r3) := H
    have A7 := Aside0.mk A70
    clear A70
    by_cases c8 : 0 ≤ t478
    · rw [if_pos c8] at H
      have c8b0 : decide (0 ≤ t478) = true := decide_eq_true c8
      clear c8
      by_cases c9 : t478 < (y475.length : Int)
      · rw [if_pos c9] at H
        have c9b0 : decide (t478 < (y475.length : Int)) = true := decide_eq_true c9
        clear c9
        simp only [Option.some.injEq, Prod.mk.injEq] at H
        obtain ⟨rfl, rfl, rfl⟩ := H
        go_enter Try.func70, Try.ntmps70
        go_wp2_with (first | ((with_reducible refine gate_dst (N := 4) rfl ?_); refine box_event ?hg (N := 4) ?hd (cs := #[.int .i64 0, .int .i64 0]) (t := 51) ?hr ?_; (case hd => rfl); (case hg => rfl); (case hr => first | (go_simp; done) | (go_simp; rfl)); intro gb467 hg w10 hbox hb; have n0_ := Aside0.mk (IsS92.below (by repeat (first | (with_reducible first | exact HI0.out | apply IsS92.alloc | apply IsS92.drewN | apply IsS92.drew | apply IsS92.set_1) | exact HI0.out)) hb); have n1_ := Aside0.mk (KeepBut.trans (by repeat (first | (with_reducible first | exact HK.out | apply KeepBut.set_ | apply keep_drewN | apply keep_drew | apply keep_alloc) | exact HK.out)) (KeepBut.of_below hb g none) (.inl rfl)); have n2_ := Aside0.mk (below_step (by repeat (first | (with_reducible first | exact HB.out | apply below_alloc | apply pw_below_drewN | apply below_drew1 | refine below_set ?_ (IsS92.ge HI0.out)) | exact HB.out)) hb); have n3_ := Aside0.mk (hbox); have n4_ := Aside0.mk ((by rw [hg]; exact (keep_size (w := w) (g := g) (row := none) (by repeat (first | (with_reducible first | exact HK.out | apply KeepBut.set_ | apply keep_drewN | apply keep_drew | apply keep_alloc) | exact HK.out))) : w.heap.size ≤ gb467)); have n5_ := Aside0.mk ((Nat.le_trans HW0.out (by rw [hg]; exact (keep_size (w := w) (g := g) (row := none) (by repeat (first | (with_reducible first | exact HK.out | apply KeepBut.set_ | apply keep_drewN | apply keep_drew | apply keep_alloc) | exact HK.out))) : w.heap.size ≤ gb467) : w0.heap.size ≤ gb467)); have n6_ := Aside0.mk ((by rw [hg]; exact Nat.ne_of_lt (IsS92.lt (show IsS92 w0 _ g s0_0 s0_1 from by repeat (first | (with_reducible first | exact HI0.out | apply IsS92.alloc | apply IsS92.drewN | apply IsS92.drew | apply IsS92.set_1) | exact HI0.out))) : g ≠ gb467)); have n7_ := Aside0.mk ((by rw [hg]; exact Nat.ne_of_gt (IsS92.lt (show IsS92 w0 _ g s0_0 s0_1 from by repeat (first | (with_reducible first | exact HI0.out | apply IsS92.alloc | apply IsS92.drewN | apply IsS92.drew | apply IsS92.set_1) | exact HI0.out))) : gb467 ≠ g)); clear HI0; clear HK; clear HB; have HI0 := n0_; have HK := n1_; have HB := n2_; have BK467 := n3_; have GW467 := n4_; have GE467 := n5_; have NB0_467 := n6_; have NB467_0 := n7_; clear n0_ n1_ n2_ n3_ n4_ n5_ n6_ n7_; clear hb hbox hg) | ((with_reducible refine gate_callee (f := 60) rfl ?_); refine goesL_ (some 7) rfl rfl Try.func60 (by kernel_rfl) rfl #[.pointer (some ⟨g, 0, none⟩), .int .i64 9] rfl (by (try simp only [List.map_toArray, List.map_cons, List.map_nil]); first | done | rfl | (simp only [List.length_drop, List.length_take]; rfl)) ?_; (with_reducible refine (spec_l20Rd_pick.calls k g s0_0 s0_1 9 t468 t469 w0 _ ?side1 ?side2 A3.out).mono ?_); (case side1 => repeat (first | (with_reducible first | exact HI0.out | apply IsS92.alloc | apply IsS92.drewN | apply IsS92.drew | apply IsS92.set_1 | refine IsS92.far ?_ NB0_467.out _) | exact HI0.out)); (case side2 => repeat (first | (with_reducible first | exact HB.out | apply below_alloc | apply pw_below_drewN | apply below_drew1 | refine below_set ?_ (IsS92.ge HI0.out) | refine below_set ?_ GE467.out) | exact HB.out)); rintro e w11 ⟨rfl, hi, hb, hk⟩; refine ⟨_, rfl, ?_⟩; have n0_ := Aside0.mk (KeepBut.blk hk (g' := gb467) (o := .cells #[.int .i64 0, .int .i64 0] 51 (0, 0)) (by (with_reducible repeat (first | refine blk_drewN ?_ _ | refine blk_drew ?_ | refine blk_alloc ?_ _)); exact BK467.out) NB467_0.out (by simp)); have n1_ := Aside0.mk (KeepBut.trans (by repeat (first | (with_reducible first | exact HK.out | apply KeepBut.set_ | apply keep_drewN | apply keep_drew | apply keep_alloc | refine keep_far ?_ GW467.out _) | exact HK.out)) hk (.inl rfl)); have n2_ := Aside0.mk (hb); have n3_ := Aside0.mk (hi); clear BK467; clear HK; clear HB; clear HI0; have BK467 := n0_; have HK := n1_; have HB := n2_; have HI0 := n3_; clear n0_ n1_ n2_ n3_; (try clear hb); (try clear hb2); (try clear hk); (try clear hi)) | ((with_reducible refine gate_callee (f := 60) rfl ?_); refine goesL_ (some 9) rfl rfl Try.func60 (by kernel_rfl) rfl #[.pointer (some ⟨g, 0, none⟩), .int .i64 9] rfl (by (try simp only [List.map_toArray, List.map_cons, List.map_nil]); first | done | rfl | (simp only [List.length_drop, List.length_take]; rfl)) ?_; (with_reducible refine (spec_l20Rd_pick.calls k g s0_0 t469 9 t470 t471 w0 _ ?side1 ?side2 A4.out).mono ?_); (case side1 => repeat (first | (with_reducible first | exact HI0.out | apply IsS92.alloc | apply IsS92.drewN | apply IsS92.drew | apply IsS92.set_1 | refine IsS92.far ?_ NB0_467.out _) | exact HI0.out)); (case side2 => repeat (first | (with_reducible first | exact HB.out | apply below_alloc | apply pw_below_drewN | apply below_drew1 | refine below_set ?_ (IsS92.ge HI0.out) | refine below_set ?_ GE467.out) | exact HB.out)); rintro e w12 ⟨rfl, hi, hb, hk⟩; refine ⟨_, rfl, ?_⟩; have n0_ := Aside0.mk (KeepBut.blk hk (g' := gb467) (o := .cells #[.int .i64 0, .int .i64 0] 51 (0, 0)) (by (with_reducible repeat (first | refine blk_drewN ?_ _ | refine blk_drew ?_ | refine blk_alloc ?_ _)); exact BK467.out) NB467_0.out (by simp)); have n1_ := Aside0.mk (KeepBut.trans (by repeat (first | (with_reducible first | exact HK.out | apply KeepBut.set_ | apply keep_drewN | apply keep_drew | apply keep_alloc | refine keep_far ?_ GW467.out _) | exact HK.out)) hk (.inl rfl)); have n2_ := Aside0.mk (hb); have n3_ := Aside0.mk (hi); clear BK467; clear HK; clear HB; clear HI0; have BK467 := n0_; have HK := n1_; have HB := n2_; have HI0 := n3_; clear n0_ n1_ n2_ n3_; (try clear hb); (try clear hb2); (try clear hk); (try clear hi)) | ((with_reducible refine gate_dst (N := 5) rfl ?_); refine box_event ?hg (N := 5) ?hd (cs := #[.int .i64 0, .int .i64 0]) (t := 51) ?hr ?_; (case hd => rfl); (case hg => rfl); (case hr => first | (go_simp; done) | (go_simp; rfl)); intro gb472 hg w13 hbox hb; have n0_ := Aside0.mk (IsS92.below (by repeat (first | (with_reducible first | exact HI0.out | apply IsS92.alloc | apply IsS92.drewN | apply IsS92.drew | apply IsS92.set_1 | refine IsS92.far ?_ NB0_467.out _) | exact HI0.out)) hb); have n1_ := Aside0.mk (blk_below (g := gb467) (o := .cells #[.int .i64 0, .int .i64 0] 51 (0, 0)) (by (with_reducible repeat (first | refine blk_drewN ?_ _ | refine blk_drew ?_ | refine blk_alloc ?_ _)); exact BK467.out) hb); have n2_ := Aside0.mk (KeepBut.trans (by repeat (first | (with_reducible first | exact HK.out | apply KeepBut.set_ | apply keep_drewN | apply keep_drew | apply keep_alloc | refine keep_far ?_ GW467.out _) | exact HK.out)) (KeepBut.of_below hb g none) (.inl rfl)); have n3_ := Aside0.mk (below_step (by repeat (first | (with_reducible first | exact HB.out | apply below_alloc | apply pw_below_drewN | apply below_drew1 | refine below_set ?_ (IsS92.ge HI0.out) | refine below_set ?_ GE467.out) | exact HB.out)) hb); have n4_ := Aside0.mk (hbox); have n5_ := Aside0.mk ((by rw [hg]; exact (keep_size (w := w) (g := g) (row := none) (by repeat (first | (with_reducible first | exact HK.out | apply KeepBut.set_ | apply keep_drewN | apply keep_drew | apply keep_alloc | refine keep_far ?_ GW467.out _) | exact HK.out))) : w.heap.size ≤ gb472)); have n6_ := Aside0.mk ((Nat.le_trans HW0.out (by rw [hg]; exact (keep_size (w := w) (g := g) (row := none) (by repeat (first | (with_reducible first | exact HK.out | apply KeepBut.set_ | apply keep_drewN | apply keep_drew | apply keep_alloc | refine keep_far ?_ GW467.out _) | exact HK.out))) : w.heap.size ≤ gb472) : w0.heap.size ≤ gb472)); have n7_ := Aside0.mk ((by rw [hg]; exact Nat.ne_of_lt (blk_lt (g := gb467) (o := .cells #[.int .i64 0, .int .i64 0] 51 (0, 0)) (by (with_reducible repeat (first | refine blk_drewN ?_ _ | refine blk_drew ?_ | refine blk_alloc ?_ _)); exact BK467.out)) : gb467 ≠ gb472)); have n8_ := Aside0.mk ((by rw [hg]; exact Nat.ne_of_gt (blk_lt (g := gb467) (o := .cells #[.int .i64 0, .int .i64 0] 51 (0, 0)) (by (with_reducible repeat (first | refine blk_drewN ?_ _ | refine blk_drew ?_ | refine blk_alloc ?_ _)); exact BK467.out)) : gb472 ≠ gb467)); have n9_ := Aside0.mk ((by rw [hg]; exact Nat.ne_of_lt (IsS92.lt (show IsS92 w0 _ g s0_0 t471 from by repeat (first | (with_reducible first | exact HI0.out | apply IsS92.alloc | apply IsS92.drewN | apply IsS92.drew | apply IsS92.set_1 | refine IsS92.far ?_ NB0_467.out _) | exact HI0.out))) : g ≠ gb472)); have n10_ := Aside0.mk ((by rw [hg]; exact Nat.ne_of_gt (IsS92.lt (show IsS92 w0 _ g s0_0 t471 from by repeat (first | (with_reducible first | exact HI0.out | apply IsS92.alloc | apply IsS92.drewN | apply IsS92.drew | apply IsS92.set_1 | refine IsS92.far ?_ NB0_467.out _) | exact HI0.out))) : gb472 ≠ g)); clear HI0; clear BK467; clear HK; clear HB; have HI0 := n0_; have BK467 := n1_; have HK := n2_; have HB := n3_; have BK472 := n4_; have GW472 := n5_; have GE472 := n6_; have NB467_472 := n7_; have NB472_467 := n8_; have NB0_472 := n9_; have NB472_0 := n10_; clear n0_ n1_ n2_ n3_ n4_ n5_ n6_ n7_ n8_ n9_ n10_; clear hb hbox hg; have hnb14 := NB472_467.out; have hnc14 := NB467_472.out; have hnb15 := NB472_0.out; have hnc15 := NB0_472.out; have hcz16_0 : w13.cell? ⟨gb472, 0, none⟩ = some (.int .i64 0) := (blk_cell BK472.out 0).trans rfl; have hcz16_1 : w13.cell? ⟨gb472, 1, none⟩ = some (.int .i64 0) := (blk_cell BK472.out 1).trans rfl; have hfz16_0 := blk_frozen BK472.out 0; have hfz16_1 := blk_frozen BK472.out 1) | ((with_reducible refine gate_callee (f := 84) rfl ?_); refine goesL_ (some 14) rfl rfl Try.func84 (by kernel_rfl) rfl #[.pointer (some ⟨g, 0, none⟩), .int .i64 a1] rfl (by (try simp only [List.map_toArray, List.map_cons, List.map_nil]); first | done | rfl | (simp only [List.length_drop, List.length_take]; rfl)) ?_; (with_reducible refine (spec_l20Rd_odd.calls k g s0_0 t471 a1 true t474 w0 _ ?side1 ?side2 A5.out).mono ?_); (case side1 => repeat (first | (with_reducible first | exact HI0.out | apply IsS92.alloc | apply IsS92.drewN | apply IsS92.drew | apply IsS92.set_1 | refine IsS92.far ?_ NB0_467.out _ | refine IsS92.far ?_ NB0_472.out _) | exact HI0.out)); (case side2 => repeat (first | (with_reducible first | exact HB.out | apply below_alloc | apply pw_below_drewN | apply below_drew1 | refine below_set ?_ (IsS92.ge HI0.out) | refine below_set ?_ GE467.out | refine below_set ?_ GE472.out) | exact HB.out)); rintro e w17 ⟨rfl, hi, hb, hk⟩; refine ⟨_, rfl, ?_⟩; have n0_ := Aside0.mk (KeepBut.blk hk (g' := gb467) (o := .cells #[.int .i64 0, .int .i64 0] 51 (0, 0)) (by (with_reducible repeat (first | refine blk_drewN ?_ _ | refine blk_drew ?_ | refine blk_alloc ?_ _)); refine blk_far ?_ NB467_472.out _; (with_reducible repeat (first | refine blk_drewN ?_ _ | refine blk_drew ?_ | refine blk_alloc ?_ _)); refine blk_far ?_ NB467_472.out _; (with_reducible repeat (first | refine blk_drewN ?_ _ | refine blk_drew ?_ | refine blk_alloc ?_ _)); exact BK467.out) NB467_0.out (by simp)); have n1_ := Aside0.mk (KeepBut.blk hk (g' := gb472) (o := .cells #[.int .i64 t468, .int .i64 (wrap64 (1 + t470))] 51 (0, 0)) (by (with_reducible repeat (first | refine blk_drewN ?_ _ | refine blk_drew ?_ | refine blk_alloc ?_ _)); refine blk_put (cs := #[.int .i64 t468, .int .i64 0]) ?_ 1 _ rfl; (with_reducible repeat (first | refine blk_drewN ?_ _ | refine blk_drew ?_ | refine blk_alloc ?_ _)); refine blk_put (cs := #[.int .i64 0, .int .i64 0]) ?_ 0 _ rfl; (with_reducible repeat (first | refine blk_drewN ?_ _ | refine blk_drew ?_ | refine blk_alloc ?_ _)); exact BK472.out) NB472_0.out (by simp)); have n2_ := Aside0.mk (KeepBut.trans (by repeat (first | (with_reducible first | exact HK.out | apply KeepBut.set_ | apply keep_drewN | apply keep_drew | apply keep_alloc | refine keep_far ?_ GW467.out _ | refine keep_far ?_ GW472.out _) | exact HK.out)) hk (.inl rfl)); have n3_ := Aside0.mk (hb); have n4_ := Aside0.mk (hi); clear BK467; clear BK472; clear HK; clear HB; clear HI0; have BK467 := n0_; have BK472 := n1_; have HK := n2_; have HB := n3_; have HI0 := n4_; clear n0_ n1_ n2_ n3_ n4_; (try clear hb); (try clear hb2); (try clear hk); (try clear hi)) | ((with_reducible refine gate_dst (N := 19) rfl ?_); refine Kd.R_lit k51 _ 51 ?hg (N := 19) ?hd (xs := ([(⟨0, 0⟩ : S51), (⟨(-1), 1⟩ : S51), (⟨21, 1⟩ : S51), (⟨0, 21⟩ : S51)] : List (S51))) (inner := [.int .i64 0, .int .i64 0, .int .i64 (-1), .int .i64 1, .int .i64 21, .int .i64 1, .int .i64 0, .int .i64 21]) (ok := fun _ => True) (okp := fun _ => True) ?hr ?hp (fun _ hk => hk) trivial (Below.refl _ _) (Nat.le_refl _) (by simp) ?_; (case hd => rfl); (case hg => rfl); (case hr => first | (go_simp; done) | (go_simp; rfl)); (case hp => exact (Reps.c2 (show Kd.M k51 _ _ _ (⟨0, 0⟩ : S51) [.int .i64 0, .int .i64 0] from (k51_mkM _ _ _ (⟨0, 0⟩ : S51) )) (Reps.c2 (show Kd.M k51 _ _ _ (⟨(-1), 1⟩ : S51) [.int .i64 (-1), .int .i64 1] from (k51_mkM _ _ _ (⟨(-1), 1⟩ : S51) )) (Reps.c2 (show Kd.M k51 _ _ _ (⟨21, 1⟩ : S51) [.int .i64 21, .int .i64 1] from (k51_mkM _ _ _ (⟨21, 1⟩ : S51) )) (Reps.c2 (show Kd.M k51 _ _ _ (⟨0, 21⟩ : S51) [.int .i64 0, .int .i64 21] from (k51_mkM _ _ _ (⟨0, 21⟩ : S51) )) (Reps.none _ _)))))); intro v476 w18 ho19 hb hg_ hnew_; clear hg_ hnew_; (first | rw [← Ny475.out] at ho19 | (simp only [Int.reduceToNat] at ho19; rw [← Ny475.out] at ho19)); have n0_ := Aside0.mk (Kd.R_lower (Kd.R_newB (Kd.R_newB ho19 (g := gb467) (o := .cells #[.int .i64 0, .int .i64 0] 51 (0, 0)) (by (with_reducible repeat (first | refine blk_drewN ?_ _ | refine blk_drew ?_ | refine blk_alloc ?_ _)); exact BK467.out)) (g := gb472) (o := .cells #[.int .i64 t468, .int .i64 (wrap64 (1 + t470))] 51 (0, 0)) (by (with_reducible repeat (first | refine blk_drewN ?_ _ | refine blk_drew ?_ | refine blk_alloc ?_ _)); exact BK472.out)) (keep_size (w := w) (g := g) (row := none) (by repeat (first | (with_reducible first | exact HK.out | apply KeepBut.set_ | apply keep_drewN | apply keep_drew | apply keep_alloc | refine keep_far ?_ GW467.out _ | refine keep_far ?_ GW472.out _) | exact HK.out)))); have n1_ := Aside0.mk (IsS92.below (by repeat (first | (with_reducible first | exact HI0.out | apply IsS92.alloc | apply IsS92.drewN | apply IsS92.drew | apply IsS92.set_1 | refine IsS92.far ?_ NB0_467.out _ | refine IsS92.far ?_ NB0_472.out _) | exact HI0.out)) hb); have n2_ := Aside0.mk (blk_below (g := gb467) (o := .cells #[.int .i64 0, .int .i64 0] 51 (0, 0)) (by (with_reducible repeat (first | refine blk_drewN ?_ _ | refine blk_drew ?_ | refine blk_alloc ?_ _)); exact BK467.out) hb); have n3_ := Aside0.mk (blk_below (g := gb472) (o := .cells #[.int .i64 t468, .int .i64 (wrap64 (1 + t470))] 51 (0, 0)) (by (with_reducible repeat (first | refine blk_drewN ?_ _ | refine blk_drew ?_ | refine blk_alloc ?_ _)); exact BK472.out) hb); have n4_ := Aside0.mk (KeepBut.trans (by repeat (first | (with_reducible first | exact HK.out | apply KeepBut.set_ | apply keep_drewN | apply keep_drew | apply keep_alloc | refine keep_far ?_ GW467.out _ | refine keep_far ?_ GW472.out _) | exact HK.out)) (KeepBut.of_below hb g none) (.inl rfl)); have n5_ := Aside0.mk (below_step (by repeat (first | (with_reducible first | exact HB.out | apply below_alloc | apply pw_below_drewN | apply below_drew1 | refine below_set ?_ (IsS92.ge HI0.out) | refine below_set ?_ GE467.out | refine below_set ?_ GE472.out) | exact HB.out)) hb); clear HI0; clear BK467; clear BK472; clear HK; clear HB; have HO477 := n0_; have HI0 := n1_; have BK467 := n2_; have BK472 := n3_; have HK := n4_; have HB := n5_; clear n0_ n1_ n2_ n3_ n4_ n5_; clear hb ho19) | ((with_reducible refine gate_callee (f := 60) rfl ?_); refine goesL_ (some 21) rfl rfl Try.func60 (by kernel_rfl) rfl #[.pointer (some ⟨g, 0, none⟩), .int .i64 4] rfl (by (try simp only [List.map_toArray, List.map_cons, List.map_nil]); first | done | rfl | (simp only [List.length_drop, List.length_take]; rfl)) ?_; (with_reducible refine (spec_l20Rd_pick.calls k g s0_0 t474 4 t478 t479 w0 _ ?side1 ?side2 A7.out).mono ?_); (case side1 => repeat (first | (with_reducible first | exact HI0.out | apply IsS92.alloc | apply IsS92.drewN | apply IsS92.drew | apply IsS92.set_1 | refine IsS92.far ?_ NB0_467.out _ | refine IsS92.far ?_ NB0_472.out _) | exact HI0.out)); (case side2 => repeat (first | (with_reducible first | exact HB.out | apply below_alloc | apply pw_below_drewN | apply below_drew1 | refine below_set ?_ (IsS92.ge HI0.out) | refine below_set ?_ GE467.out | refine below_set ?_ GE472.out) | exact HB.out)); rintro e w20 ⟨rfl, hi, hb, hk⟩; refine ⟨_, rfl, ?_⟩; have n0_ := Aside0.mk (KeepBut.blk hk (g' := gb467) (o := .cells #[.int .i64 0, .int .i64 0] 51 (0, 0)) (by (with_reducible repeat (first | refine blk_drewN ?_ _ | refine blk_drew ?_ | refine blk_alloc ?_ _)); exact BK467.out) NB467_0.out (by simp)); have n1_ := Aside0.mk (KeepBut.blk hk (g' := gb472) (o := .cells #[.int .i64 t468, .int .i64 (wrap64 (1 + t470))] 51 (0, 0)) (by (with_reducible repeat (first | refine blk_drewN ?_ _ | refine blk_drew ?_ | refine blk_alloc ?_ _)); exact BK472.out) NB472_0.out (by simp)); have n2_ := Aside0.mk (Kd.R_mono (Kd.R_keep (IsS92.apart (show IsS92 w0 _ g s0_0 t474 from by repeat (first | (with_reducible first | exact HI0.out | apply IsS92.alloc | apply IsS92.drewN | apply IsS92.drew | apply IsS92.set_1 | refine IsS92.far ?_ NB0_467.out _ | refine IsS92.far ?_ NB0_472.out _) | exact HI0.out)) (by (with_reducible repeat (first | apply Kd.R_alloc | apply Kd.R_drewN | apply Kd.R_drew)); exact HO477.out) (by decide)) hk (fun _ h => h.2)) (fun _ h => h.1)); have n3_ := Aside0.mk (KeepBut.trans (by repeat (first | (with_reducible first | exact HK.out | apply KeepBut.set_ | apply keep_drewN | apply keep_drew | apply keep_alloc | refine keep_far ?_ GW467.out _ | refine keep_far ?_ GW472.out _) | exact HK.out)) hk (.inl rfl)); have n4_ := Aside0.mk (hb); have n5_ := Aside0.mk (hi); clear BK467; clear BK472; clear HO477; clear HK; clear HB; clear HI0; have BK467 := n0_; have BK472 := n1_; have HO477 := n2_; have HK := n3_; have HB := n4_; have HI0 := n5_; clear n0_ n1_ n2_ n3_ n4_ n5_; (try clear hb); (try clear hb2); (try clear hk); (try clear hi); obtain ⟨Ao21, co21, eo21⟩ := Kd.R_slice HO477.out; subst eo21; have p480 : 0 ≤ (t478 : Int) := of_decide_eq_true (by first | (with_reducible assumption) | assumption); have q480 : t478 < (y475.length : Int) := of_decide_eq_true (by first | (with_reducible assumption) | assumption); obtain ⟨ad480, e480, hx480_0, hx480_1⟩ := at_T51 (Kd.R_reads' HO477.out).2.2 t478 p480 q480; cases e480; replace p480 := eq_true p480; replace q480 := eq_true q480; have hnb22 := NB467_0.out; have hnc22 := NB0_467.out; have hcz23_0 : w20.cell? ⟨gb467, 0, none⟩ = some (.int .i64 0) := (blk_cell BK467.out 0).trans rfl; have hcz23_1 : w20.cell? ⟨gb467, 1, none⟩ = some (.int .i64 0) := (blk_cell BK467.out 1).trans rfl; have hfz23_0 := blk_frozen BK467.out 0; have hfz23_1 := blk_frozen BK467.out 1))
        refine bodyPost_ret (results_cell_row rfl _ _ gb467 51 #[.int .i64 ((rd_T51 y475 t478).f0), .int .i64 ((rd_T51 y475 t478).f1)] (0, 0) _ rfl (by (with_reducible repeat (first | refine blk_drewN ?_ _ | refine blk_drew ?_ | refine blk_alloc ?_ _)); refine blk_put (cs := #[.int .i64 ((rd_T51 y475 t478).f0), .int .i64 0]) ?_ 1 _ rfl; (with_reducible repeat (first | refine blk_drewN ?_ _ | refine blk_drew ?_ | refine blk_alloc ?_ _)); refine blk_put (cs := #[.int .i64 0, .int .i64 0]) ?_ 0 _ rfl; (with_reducible repeat (first | refine blk_drewN ?_ _ | refine blk_drew ?_ | refine blk_alloc ?_ _)); exact BK467.out) Try.underlying51 rfl (by kernel_rfl)) rfl ?_
        exact ⟨by first | rfl | (simp [errW_none, errW_some] <;> rfl) | (simp [*, errW_none, errW_some] <;> rfl), by repeat (first | (with_reducible first | exact HI0.out | apply IsS92.alloc | apply IsS92.drewN | apply IsS92.drew | apply IsS92.set_1 | refine IsS92.far ?_ NB0_467.out _ | refine IsS92.far ?_ NB0_472.out _) | exact HI0.out), by repeat (first | (with_reducible first | exact HB.out | apply below_alloc | apply pw_below_drewN | apply below_drew1 | refine below_set ?_ (IsS92.ge HI0.out) | refine below_set ?_ GE467.out | refine below_set ?_ GE472.out) | exact HB.out), by repeat (first | (with_reducible first | exact HK.out | apply KeepBut.set_ | apply keep_drewN | apply keep_drew | apply keep_alloc | refine keep_far ?_ GW467.out _ | refine keep_far ?_ GW472.out _) | exact HK.out)⟩
      · rw [if_neg c9] at H
        exact absurd H (by simp)
    · rw [if_neg c8] at H
      exact absurd H (by simp)
  · replace c6 := Bool.eq_false_iff.mpr c6
    subst c6
    have H1 : (some (t468, wrap64 (1 + t470), t474)) = some (r1, r2, r3) := by rw [if_neg (show ¬ (false = true) by decide)] at H; exact H
    clear H
    have H := H1
    clear H1
    simp only [Option.some.injEq, Prod.mk.injEq] at H
    obtain ⟨rfl, rfl, rfl⟩ := H
    go_enter Try.func70, Try.ntmps70
    go_wp2_with (first | ((with_reducible refine gate_dst (N := 4) rfl ?_); refine box_event ?hg (N := 4) ?hd (cs := #[.int .i64 0, .int .i64 0]) (t := 51) ?hr ?_; (case hd => rfl); (case hg => rfl); (case hr => first | (go_simp; done) | (go_simp; rfl)); intro gb467 hg w24 hbox hb; have n0_ := Aside0.mk (IsS92.below (by repeat (first | (with_reducible first | exact HI0.out | apply IsS92.alloc | apply IsS92.drewN | apply IsS92.drew | apply IsS92.set_1) | exact HI0.out)) hb); have n1_ := Aside0.mk (KeepBut.trans (by repeat (first | (with_reducible first | exact HK.out | apply KeepBut.set_ | apply keep_drewN | apply keep_drew | apply keep_alloc) | exact HK.out)) (KeepBut.of_below hb g none) (.inl rfl)); have n2_ := Aside0.mk (below_step (by repeat (first | (with_reducible first | exact HB.out | apply below_alloc | apply pw_below_drewN | apply below_drew1 | refine below_set ?_ (IsS92.ge HI0.out)) | exact HB.out)) hb); have n3_ := Aside0.mk (hbox); have n4_ := Aside0.mk ((by rw [hg]; exact (keep_size (w := w) (g := g) (row := none) (by repeat (first | (with_reducible first | exact HK.out | apply KeepBut.set_ | apply keep_drewN | apply keep_drew | apply keep_alloc) | exact HK.out))) : w.heap.size ≤ gb467)); have n5_ := Aside0.mk ((Nat.le_trans HW0.out (by rw [hg]; exact (keep_size (w := w) (g := g) (row := none) (by repeat (first | (with_reducible first | exact HK.out | apply KeepBut.set_ | apply keep_drewN | apply keep_drew | apply keep_alloc) | exact HK.out))) : w.heap.size ≤ gb467) : w0.heap.size ≤ gb467)); have n6_ := Aside0.mk ((by rw [hg]; exact Nat.ne_of_lt (IsS92.lt (show IsS92 w0 _ g s0_0 s0_1 from by repeat (first | (with_reducible first | exact HI0.out | apply IsS92.alloc | apply IsS92.drewN | apply IsS92.drew | apply IsS92.set_1) | exact HI0.out))) : g ≠ gb467)); have n7_ := Aside0.mk ((by rw [hg]; exact Nat.ne_of_gt (IsS92.lt (show IsS92 w0 _ g s0_0 s0_1 from by repeat (first | (with_reducible first | exact HI0.out | apply IsS92.alloc | apply IsS92.drewN | apply IsS92.drew | apply IsS92.set_1) | exact HI0.out))) : gb467 ≠ g)); clear HI0; clear HK; clear HB; have HI0 := n0_; have HK := n1_; have HB := n2_; have BK467 := n3_; have GW467 := n4_; have GE467 := n5_; have NB0_467 := n6_; have NB467_0 := n7_; clear n0_ n1_ n2_ n3_ n4_ n5_ n6_ n7_; clear hb hbox hg) | ((with_reducible refine gate_callee (f := 60) rfl ?_); refine goesL_ (some 7) rfl rfl Try.func60 (by kernel_rfl) rfl #[.pointer (some ⟨g, 0, none⟩), .int .i64 9] rfl (by (try simp only [List.map_toArray, List.map_cons, List.map_nil]); first | done | rfl | (simp only [List.length_drop, List.length_take]; rfl)) ?_; (with_reducible refine (spec_l20Rd_pick.calls k g s0_0 s0_1 9 t468 t469 w0 _ ?side1 ?side2 A3.out).mono ?_); (case side1 => repeat (first | (with_reducible first | exact HI0.out | apply IsS92.alloc | apply IsS92.drewN | apply IsS92.drew | apply IsS92.set_1 | refine IsS92.far ?_ NB0_467.out _) | exact HI0.out)); (case side2 => repeat (first | (with_reducible first | exact HB.out | apply below_alloc | apply pw_below_drewN | apply below_drew1 | refine below_set ?_ (IsS92.ge HI0.out) | refine below_set ?_ GE467.out) | exact HB.out)); rintro e w25 ⟨rfl, hi, hb, hk⟩; refine ⟨_, rfl, ?_⟩; have n0_ := Aside0.mk (KeepBut.blk hk (g' := gb467) (o := .cells #[.int .i64 0, .int .i64 0] 51 (0, 0)) (by (with_reducible repeat (first | refine blk_drewN ?_ _ | refine blk_drew ?_ | refine blk_alloc ?_ _)); exact BK467.out) NB467_0.out (by simp)); have n1_ := Aside0.mk (KeepBut.trans (by repeat (first | (with_reducible first | exact HK.out | apply KeepBut.set_ | apply keep_drewN | apply keep_drew | apply keep_alloc | refine keep_far ?_ GW467.out _) | exact HK.out)) hk (.inl rfl)); have n2_ := Aside0.mk (hb); have n3_ := Aside0.mk (hi); clear BK467; clear HK; clear HB; clear HI0; have BK467 := n0_; have HK := n1_; have HB := n2_; have HI0 := n3_; clear n0_ n1_ n2_ n3_; (try clear hb); (try clear hb2); (try clear hk); (try clear hi)) | ((with_reducible refine gate_callee (f := 60) rfl ?_); refine goesL_ (some 9) rfl rfl Try.func60 (by kernel_rfl) rfl #[.pointer (some ⟨g, 0, none⟩), .int .i64 9] rfl (by (try simp only [List.map_toArray, List.map_cons, List.map_nil]); first | done | rfl | (simp only [List.length_drop, List.length_take]; rfl)) ?_; (with_reducible refine (spec_l20Rd_pick.calls k g s0_0 t469 9 t470 t471 w0 _ ?side1 ?side2 A4.out).mono ?_); (case side1 => repeat (first | (with_reducible first | exact HI0.out | apply IsS92.alloc | apply IsS92.drewN | apply IsS92.drew | apply IsS92.set_1 | refine IsS92.far ?_ NB0_467.out _) | exact HI0.out)); (case side2 => repeat (first | (with_reducible first | exact HB.out | apply below_alloc | apply pw_below_drewN | apply below_drew1 | refine below_set ?_ (IsS92.ge HI0.out) | refine below_set ?_ GE467.out) | exact HB.out)); rintro e w26 ⟨rfl, hi, hb, hk⟩; refine ⟨_, rfl, ?_⟩; have n0_ := Aside0.mk (KeepBut.blk hk (g' := gb467) (o := .cells #[.int .i64 0, .int .i64 0] 51 (0, 0)) (by (with_reducible repeat (first | refine blk_drewN ?_ _ | refine blk_drew ?_ | refine blk_alloc ?_ _)); exact BK467.out) NB467_0.out (by simp)); have n1_ := Aside0.mk (KeepBut.trans (by repeat (first | (with_reducible first | exact HK.out | apply KeepBut.set_ | apply keep_drewN | apply keep_drew | apply keep_alloc | refine keep_far ?_ GW467.out _) | exact HK.out)) hk (.inl rfl)); have n2_ := Aside0.mk (hb); have n3_ := Aside0.mk (hi); clear BK467; clear HK; clear HB; clear HI0; have BK467 := n0_; have HK := n1_; have HB := n2_; have HI0 := n3_; clear n0_ n1_ n2_ n3_; (try clear hb); (try clear hb2); (try clear hk); (try clear hi)) | ((with_reducible refine gate_dst (N := 5) rfl ?_); refine box_event ?hg (N := 5) ?hd (cs := #[.int .i64 0, .int .i64 0]) (t := 51) ?hr ?_; (case hd => rfl); (case hg => rfl); (case hr => first | (go_simp; done) | (go_simp; rfl)); intro gb472 hg w27 hbox hb; have n0_ := Aside0.mk (IsS92.below (by repeat (first | (with_reducible first | exact HI0.out | apply IsS92.alloc | apply IsS92.drewN | apply IsS92.drew | apply IsS92.set_1 | refine IsS92.far ?_ NB0_467.out _) | exact HI0.out)) hb); have n1_ := Aside0.mk (blk_below (g := gb467) (o := .cells #[.int .i64 0, .int .i64 0] 51 (0, 0)) (by (with_reducible repeat (first | refine blk_drewN ?_ _ | refine blk_drew ?_ | refine blk_alloc ?_ _)); exact BK467.out) hb); have n2_ := Aside0.mk (KeepBut.trans (by repeat (first | (with_reducible first | exact HK.out | apply KeepBut.set_ | apply keep_drewN | apply keep_drew | apply keep_alloc | refine keep_far ?_ GW467.out _) | exact HK.out)) (KeepBut.of_below hb g none) (.inl rfl)); have n3_ := Aside0.mk (below_step (by repeat (first | (with_reducible first | exact HB.out | apply below_alloc | apply pw_below_drewN | apply below_drew1 | refine below_set ?_ (IsS92.ge HI0.out) | refine below_set ?_ GE467.out) | exact HB.out)) hb); have n4_ := Aside0.mk (hbox); have n5_ := Aside0.mk ((by rw [hg]; exact (keep_size (w := w) (g := g) (row := none) (by repeat (first | (with_reducible first | exact HK.out | apply KeepBut.set_ | apply keep_drewN | apply keep_drew | apply keep_alloc | refine keep_far ?_ GW467.out _) | exact HK.out))) : w.heap.size ≤ gb472)); have n6_ := Aside0.mk ((Nat.le_trans HW0.out (by rw [hg]; exact (keep_size (w := w) (g := g) (row := none) (by repeat (first | (with_reducible first | exact HK.out | apply KeepBut.set_ | apply keep_drewN | apply keep_drew | apply keep_alloc | refine keep_far ?_ GW467.out _) | exact HK.out))) : w.heap.size ≤ gb472) : w0.heap.size ≤ gb472)); have n7_ := Aside0.mk ((by rw [hg]; exact Nat.ne_of_lt (blk_lt (g := gb467) (o := .cells #[.int .i64 0, .int .i64 0] 51 (0, 0)) (by (with_reducible repeat (first | refine blk_drewN ?_ _ | refine blk_drew ?_ | refine blk_alloc ?_ _)); exact BK467.out)) : gb467 ≠ gb472)); have n8_ := Aside0.mk ((by rw [hg]; exact Nat.ne_of_gt (blk_lt (g := gb467) (o := .cells #[.int .i64 0, .int .i64 0] 51 (0, 0)) (by (with_reducible repeat (first | refine blk_drewN ?_ _ | refine blk_drew ?_ | refine blk_alloc ?_ _)); exact BK467.out)) : gb472 ≠ gb467)); have n9_ := Aside0.mk ((by rw [hg]; exact Nat.ne_of_lt (IsS92.lt (show IsS92 w0 _ g s0_0 t471 from by repeat (first | (with_reducible first | exact HI0.out | apply IsS92.alloc | apply IsS92.drewN | apply IsS92.drew | apply IsS92.set_1 | refine IsS92.far ?_ NB0_467.out _) | exact HI0.out))) : g ≠ gb472)); have n10_ := Aside0.mk ((by rw [hg]; exact Nat.ne_of_gt (IsS92.lt (show IsS92 w0 _ g s0_0 t471 from by repeat (first | (with_reducible first | exact HI0.out | apply IsS92.alloc | apply IsS92.drewN | apply IsS92.drew | apply IsS92.set_1 | refine IsS92.far ?_ NB0_467.out _) | exact HI0.out))) : gb472 ≠ g)); clear HI0; clear BK467; clear HK; clear HB; have HI0 := n0_; have BK467 := n1_; have HK := n2_; have HB := n3_; have BK472 := n4_; have GW472 := n5_; have GE472 := n6_; have NB467_472 := n7_; have NB472_467 := n8_; have NB0_472 := n9_; have NB472_0 := n10_; clear n0_ n1_ n2_ n3_ n4_ n5_ n6_ n7_ n8_ n9_ n10_; clear hb hbox hg; have hnb28 := NB472_467.out; have hnc28 := NB467_472.out; have hnb29 := NB472_0.out; have hnc29 := NB0_472.out; have hcz30_0 : w27.cell? ⟨gb472, 0, none⟩ = some (.int .i64 0) := (blk_cell BK472.out 0).trans rfl; have hcz30_1 : w27.cell? ⟨gb472, 1, none⟩ = some (.int .i64 0) := (blk_cell BK472.out 1).trans rfl; have hfz30_0 := blk_frozen BK472.out 0; have hfz30_1 := blk_frozen BK472.out 1) | ((with_reducible refine gate_callee (f := 84) rfl ?_); refine goesL_ (some 14) rfl rfl Try.func84 (by kernel_rfl) rfl #[.pointer (some ⟨g, 0, none⟩), .int .i64 a1] rfl (by (try simp only [List.map_toArray, List.map_cons, List.map_nil]); first | done | rfl | (simp only [List.length_drop, List.length_take]; rfl)) ?_; (with_reducible refine (spec_l20Rd_odd.calls k g s0_0 t471 a1 false t474 w0 _ ?side1 ?side2 A5.out).mono ?_); (case side1 => repeat (first | (with_reducible first | exact HI0.out | apply IsS92.alloc | apply IsS92.drewN | apply IsS92.drew | apply IsS92.set_1 | refine IsS92.far ?_ NB0_467.out _ | refine IsS92.far ?_ NB0_472.out _) | exact HI0.out)); (case side2 => repeat (first | (with_reducible first | exact HB.out | apply below_alloc | apply pw_below_drewN | apply below_drew1 | refine below_set ?_ (IsS92.ge HI0.out) | refine below_set ?_ GE467.out | refine below_set ?_ GE472.out) | exact HB.out)); rintro e w31 ⟨rfl, hi, hb, hk⟩; refine ⟨_, rfl, ?_⟩; have n0_ := Aside0.mk (KeepBut.blk hk (g' := gb467) (o := .cells #[.int .i64 0, .int .i64 0] 51 (0, 0)) (by (with_reducible repeat (first | refine blk_drewN ?_ _ | refine blk_drew ?_ | refine blk_alloc ?_ _)); refine blk_far ?_ NB467_472.out _; (with_reducible repeat (first | refine blk_drewN ?_ _ | refine blk_drew ?_ | refine blk_alloc ?_ _)); refine blk_far ?_ NB467_472.out _; (with_reducible repeat (first | refine blk_drewN ?_ _ | refine blk_drew ?_ | refine blk_alloc ?_ _)); exact BK467.out) NB467_0.out (by simp)); have n1_ := Aside0.mk (KeepBut.blk hk (g' := gb472) (o := .cells #[.int .i64 t468, .int .i64 (wrap64 (1 + t470))] 51 (0, 0)) (by (with_reducible repeat (first | refine blk_drewN ?_ _ | refine blk_drew ?_ | refine blk_alloc ?_ _)); refine blk_put (cs := #[.int .i64 t468, .int .i64 0]) ?_ 1 _ rfl; (with_reducible repeat (first | refine blk_drewN ?_ _ | refine blk_drew ?_ | refine blk_alloc ?_ _)); refine blk_put (cs := #[.int .i64 0, .int .i64 0]) ?_ 0 _ rfl; (with_reducible repeat (first | refine blk_drewN ?_ _ | refine blk_drew ?_ | refine blk_alloc ?_ _)); exact BK472.out) NB472_0.out (by simp)); have n2_ := Aside0.mk (KeepBut.trans (by repeat (first | (with_reducible first | exact HK.out | apply KeepBut.set_ | apply keep_drewN | apply keep_drew | apply keep_alloc | refine keep_far ?_ GW467.out _ | refine keep_far ?_ GW472.out _) | exact HK.out)) hk (.inl rfl)); have n3_ := Aside0.mk (hb); have n4_ := Aside0.mk (hi); clear BK467; clear BK472; clear HK; clear HB; clear HI0; have BK467 := n0_; have BK472 := n1_; have HK := n2_; have HB := n3_; have HI0 := n4_; clear n0_ n1_ n2_ n3_ n4_; (try clear hb); (try clear hb2); (try clear hk); (try clear hi); have hcz32_0 : w31.cell? ⟨gb472, 0, none⟩ = some (.int .i64 t468) := (blk_cell BK472.out 0).trans rfl; have hcz32_1 : w31.cell? ⟨gb472, 1, none⟩ = some (.int .i64 (wrap64 (1 + t470))) := (blk_cell BK472.out 1).trans rfl; have hfz32_0 := blk_frozen BK472.out 0; have hfz32_1 := blk_frozen BK472.out 1; have hnb33 := NB467_0.out; have hnc33 := NB0_467.out; have hcz34_0 : w31.cell? ⟨gb467, 0, none⟩ = some (.int .i64 0) := (blk_cell BK467.out 0).trans rfl; have hcz34_1 : w31.cell? ⟨gb467, 1, none⟩ = some (.int .i64 0) := (blk_cell BK467.out 1).trans rfl; have hfz34_0 := blk_frozen BK467.out 0; have hfz34_1 := blk_frozen BK467.out 1))
    refine bodyPost_ret (results_cell_row rfl _ _ gb467 51 #[.int .i64 t468, .int .i64 (wrap64 (1 + t470))] (0, 0) _ rfl (by (with_reducible repeat (first | refine blk_drewN ?_ _ | refine blk_drew ?_ | refine blk_alloc ?_ _)); refine blk_put (cs := #[.int .i64 t468, .int .i64 0]) ?_ 1 _ rfl; (with_reducible repeat (first | refine blk_drewN ?_ _ | refine blk_drew ?_ | refine blk_alloc ?_ _)); refine blk_put (cs := #[.int .i64 0, .int .i64 0]) ?_ 0 _ rfl; (with_reducible repeat (first | refine blk_drewN ?_ _ | refine blk_drew ?_ | refine blk_alloc ?_ _)); exact BK467.out) Try.underlying51 rfl (by kernel_rfl)) rfl ?_
    exact ⟨by first | rfl | (simp [errW_none, errW_some] <;> rfl) | (simp [*, errW_none, errW_some] <;> rfl), by repeat (first | (with_reducible first | exact HI0.out | apply IsS92.alloc | apply IsS92.drewN | apply IsS92.drew | apply IsS92.set_1 | refine IsS92.far ?_ NB0_467.out _ | refine IsS92.far ?_ NB0_472.out _) | exact HI0.out), by repeat (first | (with_reducible first | exact HB.out | apply below_alloc | apply pw_below_drewN | apply below_drew1 | refine below_set ?_ (IsS92.ge HI0.out) | refine below_set ?_ GE467.out | refine below_set ?_ GE472.out) | exact HB.out), by repeat (first | (with_reducible first | exact HK.out | apply KeepBut.set_ | apply keep_drewN | apply keep_drew | apply keep_alloc | refine keep_far ?_ GW467.out _ | refine keep_far ?_ GW472.out _) | exact HK.out)⟩

end Go.Proofs.Ytkmpcmhkfnoeiaa.P
/- The draws of flows, links and amounts end. Conditions: as the reader's. -/
namespace Go.Proofs.Ytkmpcmhkfnoeiaa.DrTraf
open Go.RowKit Go.Proofs.Ytkmpcmhkfnoeiaa.P Go.Proofs.Ytkmpcmhkfnoeiaa.Base Go.Proofs.Ytkmpcmhkfnoeiaa.Gen Go.Proofs.Ytkmpcmhkfnoeiaa.Pb Go.Proofs.YtkmpcmhkfnoeiaaW.PrintWords Go.Proofs.YtkmpcmhkfnoeiaaW.PrintLast
section
variable (s : List Int) (p n : Int) (hs : Bytes s) (hp : 0 ≤ p) (hp2 : p ≤ 900000000)
include hs hp hp2
theorem flow_tot : Tot (fun k => spec_l20Flow.f k s p n) (fun r => (p ≤ r.2.2 ∧ r.2.2 ≤ p + 4) ∧ -1 ≤ r.1 ∧ r.1 ≤ 21 ∧ -1 ≤ r.2.1 ∧ r.2.1 ≤ 21) := by
  unfold spec_l20Flow.f
  refine Tot.bind (pick_tot s p 21 hs hp (by omega)) ?_
  rintro ⟨a, q⟩ ⟨h, h3, h4⟩
  simp only at h h3 h4 ⊢; subst h
  have h5 := h4 (by omega)
  refine Tot.bind (pick_tot s (p + 1) 7 hs (by omega) (by omega)) ?_
  rintro ⟨b, q⟩ ⟨h, h6, h7⟩
  simp only at h h6 h7 ⊢; subst h
  have h8 := h7 (by omega)
  refine Tot.bind (odd_tot s (p + 1 + 1) n hs (by omega) (by omega)) ?_
  rintro ⟨c, q⟩ ⟨h1, h2⟩
  simp only at h1 h2 ⊢
  refine Tot.ite (fun _ => ?_) (fun _ => Tot.ret _ (by simp only; omega))
  refine some_bind _ ?_
  refine Tot.bind (pick_tot s q 4 hs (by omega) (by omega)) ?_
  rintro ⟨d, q'⟩ ⟨h, h3, h4⟩
  simp only at h h3 h4 ⊢; subst h
  have h9 : d = 0 ∨ d = 1 ∨ d = 2 ∨ d = 3 := by omega
  rcases h9 with rfl | rfl | rfl | rfl
  all_goals exact Tot.yes (by omega) (Tot.yes (by simp) (Tot.ret _ ⟨⟨by show p ≤ q + 1; omega, by show q + 1 ≤ p + 4; omega⟩, by dsimp only; decide, by dsimp only; decide, by dsimp only; decide, by dsimp only; decide⟩))
theorem link_tot : Tot (fun k => spec_l20Link.f k s p n) (fun r => p ≤ r.2.2 ∧ r.2.2 ≤ p + 4) := by
  unfold spec_l20Link.f
  refine Tot.bind (pick_tot s p 9 hs hp (by omega)) ?_
  rintro ⟨a, q⟩ ⟨h, _, _⟩
  simp only at h ⊢; subst h
  refine Tot.bind (pick_tot s (p + 1) 9 hs (by omega) (by omega)) ?_
  rintro ⟨b, q⟩ ⟨h, _, _⟩
  simp only at h ⊢; subst h
  refine Tot.bind (odd_tot s (p + 1 + 1) n hs (by omega) (by omega)) ?_
  rintro ⟨c, q⟩ ⟨h1, h2⟩
  simp only at h1 h2 ⊢
  refine Tot.ite (fun _ => ?_) (fun _ => Tot.ret _ (by simp only; omega))
  refine some_bind _ ?_
  refine Tot.bind (pick_tot s q 4 hs (by omega) (by omega)) ?_
  rintro ⟨d, q'⟩ ⟨h, h3, h4⟩
  simp only at h h3 h4 ⊢; subst h
  refine Tot.yes h3 (Tot.yes (by simp; omega) (Tot.ret _ (by simp only; omega)))
/-- The amounts: a row of 10 to 59 of them. -/
theorem amounts_tot (b r m : Int) : Tot (fun k => spec_l20Amounts.f k s p b r m) (fun _ => True) := by
  unfold spec_l20Amounts.f
  refine Tot.bind (pick_tot s p 50 hs hp (by omega)) ?_
  rintro ⟨a, q⟩ ⟨h, h3, h4⟩
  simp only at h h3 h4 ⊢; subst h
  have h5 := h4 (by omega)
  rw [w64 (x := 10 + a) (by omega) (by omega)]
  have key : ∀ (d : Nat) (x : List Int) (lev q : Int), d ≤ 60 → x.length + d ≤ 100 → 1 ≤ x.length + d → 0 ≤ q → q + 2 * d ≤ 900000300 → Tot (fun k => spec_l20Amounts.l0 k m x lev (d : Int) s q b r) (fun _ => True) := by
    intro d
    induction d with
    | zero =>
      intro x lev q _ hx hx1 hq hq2
      refine Tot.step (fun k => by rw [spec_l20Amounts.l0]) ?_
      refine Tot.no (by omega) ?_
      refine Tot.bind (odd_tot s q m hs hq (by omega)) ?_
      rintro ⟨c, q'⟩ ⟨h1, h2⟩
      simp only at h1 h2 ⊢
      refine Tot.ite (fun _ => ?_) (fun _ => Tot.ret _ trivial)
      refine Tot.bind (pick_tot s q' _ hs (by omega) (by omega)) ?_
      rintro ⟨e, q''⟩ ⟨h, h6, h7⟩
      simp only at h h6 h7 ⊢; subst h
      have h8 := h7 (by omega)
      refine some_bind _ ?_
      refine Tot.bind (pick_tot s (q' + 1) 3 hs (by omega) (by omega)) ?_
      rintro ⟨g, q''⟩ ⟨h, h9, h10⟩
      simp only at h h9 h10 ⊢; subst h
      exact Tot.yes h9 (Tot.yes (by simp; omega) (Tot.yes h6 (Tot.yes h8 (Tot.ret _ trivial))))
    | succ d ih =>
      intro x lev q hd hx hx1 hq hq2
      refine Tot.step (fun k => by rw [spec_l20Amounts.l0]) ?_
      refine Tot.yes (by omega) ?_
      refine Tot.bind (pick_tot s q _ hs hq (by omega)) ?_
      rintro ⟨e, q''⟩ ⟨h, h6, h7⟩
      simp only at h h6 h7 ⊢; subst h
      refine some_bind _ ?_
      refine Tot.bind (pick_tot s (q + 1) 3 hs (by omega) (by omega)) ?_
      rintro ⟨g, q''⟩ ⟨h, h9, h10⟩
      simp only at h h9 h10 ⊢; subst h
      refine Tot.yes h9 (Tot.yes (by simp; omega) (Tot.yes (by omega) ?_))
      rw [w64 (x := ((d + 1 : Nat) : Int) - 1) (by omega) (by omega), show ((d + 1 : Nat) : Int) - 1 = (d : Int) by omega]
      exact ih _ _ _ (by omega) (by simp; omega) (by simp; omega) (by omega) (by omega)
  have h := key (10 + a).toNat [] b (p + 1) (by omega) (by simp; omega) (by omega) (by omega) (by omega)
  rw [show (((10 + a).toNat : Nat) : Int) = 10 + a by omega] at h
  exact h
end
end Go.Proofs.Ytkmpcmhkfnoeiaa.DrTraf
/- Parts of a row that conforms conform. No condition. -/
namespace Go.Proofs.Ytkmpcmhkfnoeiaa.Pure
open Go.RowKit Go.Proofs.Ytkmpcmhkfnoeiaa.P Go.Proofs.Ytkmpcmhkfnoeiaa.Base Go.Proofs.Ytkmpcmhkfnoeiaa.Gen Go.Proofs.YtkmpcmhkfnoeiaaW.PrintWords Go.Proofs.YtkmpcmhkfnoeiaaW.PrintLast
open Go.Proofs.Ytkmpcmhkfnoeiaa.Base Go.Proofs.Ytkmpcmhkfnoeiaa.Gen Go.Proofs.Ytkmpcmhkfnoeiaa.Pb Go.Proofs.Ytkmpcmhkfnoeiaa.Alive Go.Proofs.Ytkmpcmhkfnoeiaa.Net Go.Proofs.Ytkmpcmhkfnoeiaa.Conf Go.Proofs.Ytkmpcmhkfnoeiaa.DrTraf 
theorem draw (l0 : List Int) (hl : ∀ x ∈ l0, (Lit.int .u8 x).wf = true) : Tot (fun k => spec_DrawConforms.f k l0) (fun _ => True) := by
  unfold spec_DrawConforms.f
  refine open_tot l0 hl (fun s hs => ?_)
  refine Tot.bind (flow_tot s 0 12 hs (by omega) (by omega)) ?_
  rintro ⟨b, r, q⟩ ⟨⟨h1, h2⟩, _⟩
  simp only at h1 h2 ⊢
  refine Tot.bind (amounts_tot s q hs (by omega) (by omega) b r 3) ?_
  rintro ⟨x, q'⟩ _
  exact Tot.ret _ trivial
/-- Windows of a part are windows of the whole. -/
theorem sm_take (l : List Int) (m j n : Nat) (h : j + n ≤ m) : sm (l.take m) j n = sm l j n := by
  induction n with
  | zero => rfl
  | succ n ih =>
    simp only [sm]
    rw [ih (by omega), List.getD_eq_getElem?_getD, List.getD_eq_getElem?_getD, List.getElem?_take, if_pos (by omega)]
theorem sm_drop (l : List Int) (m j n : Nat) : sm (l.drop m) j n = sm l (m + j) n := by
  induction n with
  | zero => rfl
  | succ n ih =>
    simp only [sm]
    rw [ih, List.getD_eq_getElem?_getD, List.getD_eq_getElem?_getD, List.getElem?_drop, Nat.add_assoc]
theorem sm_set (l : List Int) (h : Am l) (m j n : Nat) : sm (l.set m 0) j n ≤ sm l j n := by
  induction n with
  | zero => exact Int.le_refl _
  | succ n ih =>
    simp only [sm]
    have hg := getD_bd h (j + n)
    have : (l.set m 0).getD (j + n) 0 ≤ l.getD (j + n) 0 := by
      rw [List.getD_eq_getElem?_getD, List.getElem?_set]
      by_cases h1 : m = j + n
      · rw [if_pos h1]
        have e : (if m < l.length then some (0 : Int) else none).getD 0 = 0 := by split <;> rfl
        rw [e]; omega
      · rw [if_neg h1, ← List.getD_eq_getElem?_getD]; exact Int.le_refl _
    omega
theorem cv_take {b r : Int} {l : List Int} (h : CV b r l) (m : Nat) : CV b r (l.take m) := by
  refine ⟨h.1, by rw [List.length_take]; have := h.2.1; omega, fun x hx => h.2.2.1 x (List.mem_of_mem_take hx), fun j hj _ n h1 h2 h3 => ?_⟩
  rw [List.length_take] at h3
  rw [sm_take _ _ _ _ (by omega)]
  exact h.2.2.2 j hj (Nat.zero_le _) n h1 h2 (by omega)
theorem cv_drop {b r : Int} {l : List Int} (h : CV b r l) (m : Nat) : CV b r (l.drop m) := by
  have hl := h.2.1
  refine ⟨h.1, by rw [List.length_drop]; omega, fun x hx => h.2.2.1 x (List.mem_of_mem_drop hx), fun j hj _ n h1 h2 h3 => ?_⟩
  rw [List.length_drop] at h3
  rw [sm_drop]
  exact h.2.2.2 (m + j) (by omega) (Nat.zero_le _) n h1 h2 (by omega)
theorem cv_set {b r : Int} {l : List Int} (h : CV b r l) (m : Nat) : CV b r (l.set m 0) := by
  refine ⟨h.1, by rw [List.length_set]; exact h.2.1, fun x hx => ?_, fun j hj _ n h1 h2 h3 => ?_⟩
  · rcases List.mem_or_eq_of_mem_set hx with h1 | rfl
    · exact h.2.2.1 x h1
    · omega
  · rw [List.length_set] at h3
    have := h.2.2.2 j hj (Nat.zero_le _) n h1 h2 h3
    have := sm_set l h.2.2.1 m j n
    omega
theorem FnConforms : laws_FnConforms.Pure := by
  intro l0 _ hl
  apply Tot.rounds
  unfold laws_FnConforms.f
  refine Tot.ite (fun _ => Tot.ret _ rfl) (fun _ => ?_)
  refine Tot.bind (draw l0 hl.2) ?_
  rintro ⟨b, r, l⟩ _
  simp only
  refine Tot.bind (Tot.val (impl_conf b r _)) ?_
  rintro _ rfl
  refine Tot.bind (Tot.val (spec_conf b r _)) ?_
  rintro _ rfl
  refine Tot.no (by simp) ?_
  have bad : Tot (fun k => laws_FnConforms.j0 k l0 l true b r) (fun r => r = true) :=
    Tot.step (fun k => by rw [laws_FnConforms.j0]) (Tot.yes rfl (Tot.bind0 alive_f (Tot.ret _ rfl)))
  refine Tot.ite (fun hc => ?_) (fun _ => bad)
  have hc := of_decide_eq_true hc
  by_cases h0 : (l.length : Int) = 0
  · rw [show ((l.length : Int) == 0) = true by simpa using h0]; exact bad
  rw [show ((l.length : Int) == 0) = false by simpa using h0]
  have hlen := hc.2.1
  have hmod := Int.emod_lt_of_pos (l0.length : Int) (show 0 < (l.length : Int) by omega)
  have hmod0 := Int.emod_nonneg (l0.length : Int) h0
  refine Tot.step (fun k => by rw [laws_FnConforms.j0]) (Tot.no (by simp) (Tot.no h0 ?_))
  refine some_bind _ (Tot.yes (by simp; omega) (some_bind _ (Tot.yes hmod0 (Tot.yes (by simpa using hmod) (Tot.yes (by omega) ?_)))))
  refine Tot.bind (Tot.val (impl_conf b r _)) ?_
  rintro _ rfl
  refine Tot.yes (decide_eq_true (cv_take hc _)) ?_
  refine Tot.bind (Tot.val (impl_conf b r _)) ?_
  rintro _ rfl
  refine Tot.yes (decide_eq_true (cv_drop hc _)) ?_
  refine Tot.bind (Tot.val (impl_conf b r _)) ?_
  rintro _ rfl
  exact Tot.ret _ (decide_eq_true (cv_set hc _))
end Go.Proofs.Ytkmpcmhkfnoeiaa.Pure
/- Arguments of a law laid open: whatever reads as data of a type reads as a value of its kind.
   No condition. -/
namespace Go.Proofs.Ytkmpcmhkfnoeiaa.Opn
open Go.ChangeShapes Go.WideShapes Go.Deep Go.RowKit Go.Proofs.YtkmpcmhkfnoeiaaW.PrintWords
section
variable {H : Type} {enc : TypeId × Value → H} {P : Program} {W : World} {base : Nat} {spare : Nat → Bool} {held : Bool}

/-- Whatever reads as data of type t reads as a value of the kind d that is good. -/
def Opens {α : Type} (enc : TypeId × Value → H) (P : Program) (W : World) (base : Nat) (spare : Nat → Bool) (held : Bool) (t : TypeId) (d : Kd α) (G : α → Prop) : Prop :=
  ∀ (fuel : Nat) (cs : List Value) (x : DataW H × List MemPlace), DataW.trod enc P W base spare held fuel t cs = some x → ∃ a, d.K W a cs ∧ G a

theorem opens_int {t : TypeId} {k : IntKind} (hu : P.underlying t = some (.int k)) : Opens enc P W base spare held t (Kd.int k) (fun x => (Lit.int k x).wf = true) := by
  intro fuel cs x h
  obtain ⟨n, hc, _, hw⟩ := DataW.trod_int hu h
  exact ⟨n, hc, hw⟩
theorem opens_bool {t : TypeId} (hu : P.underlying t = some .bool) : Opens enc P W base spare held t Kd.bool (fun _ => True) := by
  intro fuel cs x h
  obtain ⟨n, hc, _⟩ := DataW.trod_bool hu h
  exact ⟨n, hc, trivial⟩

theorem list_of {α : Type} (m : Nat) (R : Nat → α → Prop) (h : ∀ i, i < m → ∃ a, R i a) : ∃ xs : List α, xs.length = m ∧ ∀ i a, xs[i]? = some a → R i a := by
  induction m with
  | zero => exact ⟨[], rfl, fun i a ha => by simp at ha⟩
  | succ m ih =>
    obtain ⟨xs, hl, hx⟩ := ih (fun i hi => h i (by omega))
    obtain ⟨a, ha⟩ := h m (by omega)
    refine ⟨xs ++ [a], by simp [hl], fun i b hb => ?_⟩
    rcases Nat.lt_or_ge i m with hi | hi
    · rw [List.getElem?_append_left (by omega)] at hb
      exact hx i b hb
    · have hi' : i = m := by
        have := (List.getElem?_eq_some_iff.1 hb).1
        simp at this
        omega
      subst hi'
      have : a = b := by simpa [hl] using hb
      subst this
      exact ha

/-- A slice of what opens. -/
theorem slice_row {α : Type} {t e : TypeId} {d : Kd α} {G : α → Prop} (hu : P.underlying t = some (.slice e)) (hC : P.cellsOf e = d.sz) (he : Opens enc P W base spare held e d G)
    {fuel : Nat} {A : Option Addr} {n cap : Nat} {x : DataW H × List MemPlace} (h : DataW.trod enc P W base spare held fuel t [.slice A n cap] = some x) :
    ∃ xs : List α, xs.length = n ∧ n ≤ cap ∧ n ≤ maxLen ∧ d.C W A xs.length xs ∧ ∀ y ∈ xs, G y := by
  rcases open_slice hu h with ⟨h0, _⟩ | ⟨a, len, c, m, k, D, Pl, hcs, _, hl, hm, hmm, _, hel⟩
  · simp only [List.cons.injEq, Value.slice.injEq, and_true] at h0
    obtain ⟨rfl, rfl, rfl⟩ := h0
    exact ⟨[], rfl, Nat.le_refl _, by simp [maxLen], Kd.C_nil d W, fun y hy => by simp at hy⟩
  · simp only [List.cons.injEq, Value.slice.injEq, and_true] at hcs
    obtain ⟨rfl, rfl, rfl⟩ := hcs
    have hle : n ≤ m := by rw [hmm]; split <;> omega
    obtain ⟨xs, hxl, hx⟩ := list_of (α := α) n (fun i y => G y ∧ ∃ cs', d.K W y cs' ∧ cs'.length = d.sz ∧ ∀ j, j < d.sz → W.cell? ((a.add (i * d.sz)).add j) = cs'[j]?) (by
      intro i hi
      obtain ⟨cs', hc, ht⟩ := hel i (by omega)
      obtain ⟨y, hK, hG⟩ := he _ _ _ ht
      rw [hC] at hc
      obtain ⟨_, hcl, hcc⟩ := World.cells?_some hc
      exact ⟨y, hG, cs', hK, hcl, hcc⟩)
    refine ⟨xs, hxl, hl, by omega, ⟨rfl, by simp only [maxLen] at hm; omega, fun hp => ⟨a, rfl, fun j p hj => ?_⟩⟩, fun y hy => ?_⟩
    · obtain ⟨_, cs', hK, hcl, hcc⟩ := hx j p hj
      refine ⟨cs', hcl, hK, fun i u hi => ?_⟩
      have hlt : i < d.sz := by
        have := (List.getElem?_eq_some_iff.1 hi).1
        omega
      rw [← Go.Deep.add_add, hcc i hlt, hi]
    · obtain ⟨i, hi, rfl⟩ := List.getElem_of_mem hy
      exact (hx i _ (List.getElem?_eq_getElem hi)).1
theorem opens_slice {α : Type} {t e : TypeId} {d : Kd α} {G : α → Prop} (hu : P.underlying t = some (.slice e)) (hC : P.cellsOf e = d.sz) (he : Opens enc P W base spare held e d G) :
    Opens enc P W base spare held t (Kd.slice e d) (fun xs => xs.length ≤ maxLen ∧ ∀ y ∈ xs, G y) := by
  intro fuel cs x h
  have hform : ∃ A n c, cs = [.slice A n c] := by
    rcases open_slice hu h with ⟨h0, _⟩ | ⟨a, len, c, m, k, D, Pl, hcs, _⟩
    · exact ⟨_, _, _, h0⟩
    · exact ⟨_, _, _, hcs⟩
  obtain ⟨A, n, c, rfl⟩ := hform
  obtain ⟨xs, rfl, hc, hm, hC', hG⟩ := slice_row hu hC he h
  exact ⟨xs, ⟨A, c, rfl, hc, hC'⟩, hm, hG⟩

/-- A struct of whole numbers. -/
theorem trod_ints {t : TypeId} {fs : Array Field} (hs : P.underlying t = some (.struct fs)) (hC : P.cellsOf t = fs.size) (hf : ∀ (j : Nat) (f : Field), fs[j]? = some f → f.offset = j ∧ P.cellsOf f.type = 1 ∧ P.underlying f.type = some (.int .i64))
    {fuel : Nat} {cs : List Value} {x : DataW H × List MemPlace} (h : DataW.trod enc P W base spare held fuel t cs = some x) :
    ∃ xs : List Int, xs.length = fs.size ∧ cs = xs.map (Value.int .i64) ∧ ∀ y ∈ xs, (Lit.int .i64 y).wf = true := by
  obtain ⟨ys, n, _, _, hl, hyl, hy⟩ := DataW.trod_struct hs h
  obtain ⟨xs, hxl, hx⟩ := list_of (α := Int) fs.size (fun j y => cs[j]? = some (.int .i64 y) ∧ (Lit.int .i64 y).wf = true) (by
    intro j hj
    have hfj : fs[j]? = some fs[j] := Array.getElem?_eq_getElem hj
    obtain ⟨ho, hk, hi⟩ := hf j _ hfj
    have h1 := hy j _ hfj
    rw [ho, hk] at h1
    have hjl : j < cs.length := by omega
    have e1 : (cs.drop j).take 1 = [cs[j]'hjl] := by
      rw [List.drop_eq_getElem_cons hjl]
      rfl
    rw [e1, List.getElem?_eq_getElem (by omega)] at h1
    obtain ⟨y, hc, _, hw⟩ := DataW.trod_int hi h1
    refine ⟨y, ?_, hw⟩
    rw [List.getElem?_eq_getElem hjl]
    simpa using hc)
  refine ⟨xs, hxl, ?_, fun y hy' => ?_⟩
  · apply List.ext_getElem?
    intro j
    rcases Nat.lt_or_ge j fs.size with hj | hj
    · rw [List.getElem?_map]
      have e := List.getElem?_eq_getElem (l := xs) (i := j) (by omega)
      rw [e, (hx j _ e).1]
      rfl
    · rw [List.getElem?_eq_none (by omega), List.getElem?_eq_none (by simp; omega)]
  · obtain ⟨i, hi, rfl⟩ := List.getElem_of_mem hy'
    exact (hx i _ (List.getElem?_eq_getElem hi)).2
theorem one2 {xs : List Int} (h : xs.length = 2) : ∃ a b, xs = [a, b] := by
  match xs, h with
  | [a, b], _ => exact ⟨a, b, rfl⟩
theorem one3 {xs : List Int} (h : xs.length = 3) : ∃ a b c, xs = [a, b, c] := by
  match xs, h with
  | [a, b, c], _ => exact ⟨a, b, c, rfl⟩
theorem one4 {xs : List Int} (h : xs.length = 4) : ∃ a b c d, xs = [a, b, c, d] := by
  match xs, h with
  | [a, b, c, d], _ => exact ⟨a, b, c, d, rfl⟩
theorem agg_cells (cs : Array Value) : (Value.agg cs).cells.toList = cs.toList := rfl
/-- The weight of a slice bounds its length. -/
theorem sized_row {t e : TypeId} {A : Option Addr} {n cap : Nat} {d : DataW H} {ps : List MemPlace} {ts : List TypeId} {ds : List (DataW H)} {j : Nat}
    (hsz : (DataW.weightsEach P ts ds).all (· ≤ reachBytes) = true) (ht : ts[j]? = some t) (hd : ds[j]? = some d) (hu : P.underlying t = some (.slice e)) {B : Nat} (hB : P.bytesOf e = B)
    (h : DataW.Trod enc P W base spare held t (.slice A n cap) d ps) : n * B ≤ 140737488351232 := by
  obtain ⟨fuel, hf⟩ := h
  have hf' : DataW.trod enc P W base spare held fuel t [.slice A n cap] = some (d, ps) := hf
  rcases open_slice hu hf' with ⟨h0, _⟩ | ⟨a, len, c, m, k, D, Pl, hcs, _, hl, hm, hmm, hx, hel⟩
  · simp only [List.cons.injEq, Value.slice.injEq, and_true] at h0
    obtain ⟨rfl, rfl, rfl⟩ := h0
    simp
  · simp only [List.cons.injEq, Value.slice.injEq, and_true] at hcs
    obtain ⟨rfl, rfl, rfl⟩ := hcs
    obtain ⟨hx, _⟩ := Prod.mk.inj hx
    subst hx
    have z := sized_slice hsz ht hd hu
    rw [hB] at z
    simp only [List.length_map, List.length_range] at z
    exact Nat.le_trans (Nat.mul_le_mul_right _ (by omega)) z
end
end Go.Proofs.Ytkmpcmhkfnoeiaa.Opn
/- The head of the translation: a cut, with nothing lifted. No condition. -/
namespace Go.Proofs.Ytkmpcmhkfnoeiaa.Head
open Go
def chars (l : List Nat) : List Char := l.map Char.ofNat
def w1 : List Nat := [104, 97, 114, 110, 101, 115, 115]
def w2 : List Nat := [98, 51, 101, 57, 53, 99, 48, 99, 53, 99, 48, 102, 56, 101, 53, 99, 99, 102, 102, 51, 56, 51, 55, 99, 98, 54, 57, 51, 102, 99, 102, 99, 56, 55, 101, 57, 99, 51, 54, 55, 51, 54, 57, 97, 98, 97, 48, 56, 49, 99, 55, 50, 51, 97, 97, 50, 55, 48, 99, 53, 49, 99, 55, 54]
def w3 : List Nat := [99, 117, 116]
def w4 : List Nat := [97, 116, 32, 108, 111, 111, 112, 46, 101, 120, 97, 109, 112, 108, 101, 47, 100, 101, 97, 100, 108, 105, 110, 101, 115, 99, 104, 101, 100, 117, 108, 101, 114, 47, 108, 97, 119, 115, 46, 70, 110, 69, 120, 97, 99, 116, 83, 117, 98, 116, 97, 115, 107, 87, 105, 110, 100, 111, 119, 32, 108, 111, 111, 112, 46, 101, 120, 97, 109, 112, 108, 101, 47, 100, 101, 97, 100, 108, 105, 110, 101, 115, 99, 104, 101, 100, 117, 108, 101, 114, 47, 108, 97, 119, 115, 46, 70, 110, 83, 117, 98, 116, 97, 115, 107, 87, 105, 110, 100, 111, 119, 32, 108, 111, 111, 112, 46, 101, 120, 97, 109, 112, 108, 101, 47, 100, 101, 97, 100, 108, 105, 110, 101, 115, 99, 104, 101, 100, 117, 108, 101, 114, 47, 108, 97, 119, 115, 46, 70, 110, 69, 120, 97, 99, 116, 67, 111, 110, 102, 111, 114, 109, 115, 32, 108, 111, 111, 112, 46, 101, 120, 97, 109, 112, 108, 101, 47, 100, 101, 97, 100, 108, 105, 110, 101, 115, 99, 104, 101, 100, 117, 108, 101, 114, 47, 108, 97, 119, 115, 46, 70, 110, 67, 111, 110, 102, 111, 114, 109, 115, 32, 108, 111, 111, 112, 46, 101, 120, 97, 109, 112, 108, 101, 47, 100, 101, 97, 100, 108, 105, 110, 101, 115, 99, 104, 101, 100, 117, 108, 101, 114, 47, 108, 97, 119, 115, 46, 70, 110, 69, 120, 97, 99, 116, 66, 97, 99, 107, 108, 111, 103, 115, 32, 108, 111, 111, 112, 46, 101, 120, 97, 109, 112, 108, 101, 47, 100, 101, 97, 100, 108, 105, 110, 101, 115, 99, 104, 101, 100, 117, 108, 101, 114, 47, 108, 97, 119, 115, 46, 70, 110, 66, 97, 99, 107, 108, 111, 103, 115, 32, 108, 111, 111, 112, 46, 101, 120, 97, 109, 112, 108, 101, 47, 100, 101, 97, 100, 108, 105, 110, 101, 115, 99, 104, 101, 100, 117, 108, 101, 114, 47, 108, 97, 119, 115, 46, 70, 110, 66, 97, 99, 107, 108, 111, 103, 83, 97, 102, 101, 32, 108, 111, 111, 112, 46, 101, 120, 97, 109, 112, 108, 101, 47, 100, 101, 97, 100, 108, 105, 110, 101, 115, 99, 104, 101, 100, 117, 108, 101, 114, 47, 108, 97, 119, 115, 46, 70, 110, 68, 101, 108, 97, 121, 83, 97, 102, 101, 32, 108, 111, 111, 112, 46, 101, 120, 97, 109, 112, 108, 101, 47, 100, 101, 97, 100, 108, 105, 110, 101, 115, 99, 104, 101, 100, 117, 108, 101, 114, 47, 108, 97, 119, 115, 46, 70, 110, 69, 120, 97, 99, 116, 71, 114, 97, 112, 104, 86, 97, 108, 105, 100, 32, 108, 111, 111, 112, 46, 101, 120, 97, 109, 112, 108, 101, 47, 100, 101, 97, 100, 108, 105, 110, 101, 115, 99, 104, 101, 100, 117, 108, 101, 114, 47, 108, 97, 119, 115, 46, 70, 110, 71, 114, 97, 112, 104, 86, 97, 108, 105, 100, 32, 108, 111, 111, 112, 46, 101, 120, 97, 109, 112, 108, 101, 47, 100, 101, 97, 100, 108, 105, 110, 101, 115, 99, 104, 101, 100, 117, 108, 101, 114, 47, 108, 97, 119, 115, 46, 70, 110, 69, 120, 97, 99, 116, 86, 111, 108, 117, 109, 101, 32, 108, 111, 111, 112, 46, 101, 120, 97, 109, 112, 108, 101, 47, 100, 101, 97, 100, 108, 105, 110, 101, 115, 99, 104, 101, 100, 117, 108, 101, 114, 47, 108, 97, 119, 115, 46, 70, 110, 69, 120, 97, 99, 116, 67, 114, 105, 116, 105, 99, 97, 108, 80, 97, 116, 104, 32, 108, 111, 111, 112, 46, 101, 120, 97, 109, 112, 108, 101, 47, 100, 101, 97, 100, 108, 105, 110, 101, 115, 99, 104, 101, 100, 117, 108, 101, 114, 47, 108, 97, 119, 115, 46, 70, 110, 67, 114, 105, 116, 105, 99, 97, 108, 80, 97, 116, 104, 32, 108, 111, 111, 112, 46, 101, 120, 97, 109, 112, 108, 101, 47, 100, 101, 97, 100, 108, 105, 110, 101, 115, 99, 104, 101, 100, 117, 108, 101, 114, 47, 108, 97, 119, 115, 46, 70, 110, 69, 120, 97, 99, 116, 77, 97, 107, 101, 115, 112, 97, 110, 66, 111, 117, 110, 100]
theorem io_eq : Try.prog.initOrder = String.ofList (chars (w1 ++ 32 :: (w2 ++ 32 :: (w3 ++ 32 :: w4)))) := by kernel_rfl
theorem io_list : Try.prog.initOrder.toList = chars (w1 ++ 32 :: (w2 ++ 32 :: (w3 ++ 32 :: w4))) := by rw [io_eq, String.toList_ofList]
theorem ws_one (c : Char) (r w : List Char) (ws : List (List Char)) (hc : c ≠ Char.ofNat 32) (h : wordsSigns r = w :: ws) : wordsSigns (c :: r) = (c :: w) :: ws := by
  have e : wordsSigns (c :: r) = match wordsSigns r with
    | w :: ws => (c :: w) :: ws
    | [] => [[c]] := by
    rw [wordsSigns]
    · rfl
    · exact hc
  rw [e, h]
theorem ws_word (w : List Char) (h : ∀ c ∈ w, c ≠ Char.ofNat 32) (r : List Char) : wordsSigns (w ++ Char.ofNat 32 :: r) = w :: wordsSigns r := by
  induction w with
  | nil => rfl
  | cons c w ih => exact ws_one _ _ _ _ (h c (by simp)) (ih (fun x hx => h x (by simp [hx])))
theorem ws_nat (w r : List Nat) (h : w.all (fun n => !(Char.ofNat n == Char.ofNat 32)) = true) : wordsSigns (chars (w ++ 32 :: r)) = chars w :: wordsSigns (chars r) := by
  have e : chars (w ++ 32 :: r) = chars w ++ Char.ofNat 32 :: chars r := by simp [chars]
  rw [e]
  refine ws_word _ (fun c hc => ?_) _
  obtain ⟨n, hn, rfl⟩ := List.mem_map.1 hc
  have := List.all_eq_true.1 h n hn
  simpa using this
theorem io_words : behindMainWord (wordsSigns Try.prog.initOrder.toList) = chars w3 :: wordsSigns (chars w4) := by
  rw [io_list, ws_nat _ _ (by kernel_rfl), ws_nat _ _ (by kernel_rfl), ws_nat _ _ (by kernel_rfl)]
  generalize wordsSigns (chars w4) = R
  kernel_rfl
theorem make_gen (P : Program) (c : List Char) (R : List (List Char)) (h : behindMainWord (wordsSigns P.initOrder.toList) = c :: R) (h1 : (c == "gc".toList || c == "spec".toList) = false) (h2 : (c == "cut".toList) = true) : P.make = some .cut := by
  unfold Program.make
  rw [h]
  simp only [h1, h2, Bool.true_or, if_true, Bool.false_eq_true, if_false]
theorem make : Try.prog.make = some .cut := make_gen _ _ _ io_words (by kernel_rfl) (by kernel_rfl)
theorem enter_gen (P : Program) (c : List Char) (R : List (List Char)) (h : behindMainWord (wordsSigns P.initOrder.toList) = c :: R) (h1 : ∀ R, stripLifts liftWords (c :: R) = ([], c :: R)) (h2 : (some c == some "cut".toList) = true)
    (h3 : P.laysLater = false) (h4 : P.bearsReflect = false) (h5 : P.doorFits [] = true) : P.mayEnter = true := by
  unfold Program.mayEnter
  rw [h]
  simp only [h1, h2, h3, h4, h5, List.head?_cons, Bool.not_false, Bool.or_true, Bool.and_true, List.contains_nil]
theorem enter : Try.prog.mayEnter = true := enter_gen _ _ _ io_words (fun R => by kernel_rfl) (by kernel_rfl) (by kernel_rfl) (by kernel_rfl) (by kernel_rfl)
theorem lifts : Try.prog.liftsFinal = false := by
  unfold Program.liftsFinal Program.headLifts
  simp only [io_words]
  generalize wordsSigns (chars w4) = R
  kernel_rfl
end Go.Proofs.Ytkmpcmhkfnoeiaa.Head
/- The law FnConforms, proved: for every input the call returns true and each argument reads as it did. No condition. -/
namespace Go.Proofs.Ytkmpcmhkfnoeiaa.fnConforms
open Go.ChangeShapes Go.WideShapes Go.ChangeAt Go.RowKit Go.Proofs.YtkmpcmhkfnoeiaaW.PrintWords Go.Proofs.Ytkmpcmhkfnoeiaa.P
open Go.ChangeMaps (open_string shut_string)
theorem own : ownKnob Try.prog.godebug = none := by kernel_rfl
theorem laidOut : laidOutB Try.prog = true := by kernel_rfl
set_option maxRecDepth 100000 in
theorem lifted (os : Os) (started : os.Started) (H : Type) (enc : TypeId × Value → H) :
    ReturnsInHanded {} Try.checked os 6 .any (Rows.fnConformsSpec.pre6 enc Try.prog Try.f6 Rows.fnConformsRow.domain false) (Rows.fnConformsSpec.post enc Try.prog Try.f6 false true false false) := by
  refine returnsInHanded_of_change_sized (C := Try.checked) own started (by kernel_rfl) Try.func6
    (ChangeSpec.witness6 (enc := enc) (C := Try.checked) false ⟨#[], #[.slice none 0 0], []⟩ 8 (by kernel_rfl) (by kernel_rfl) (by kernel_rfl) (by kernel_rfl)) ?_
  intro W base args ds gs before hval0 hW hcnd hsz0 _
  have hsz : (DataW.weightsEach Try.prog (Try.f6.params.toList ++ Rows.fnConformsSpec.plain.varTypes Try.prog) (ds ++ gs)).all (· ≤ reachBytes) = true := hsz0
  have hval : ∀ (j : Nat) t v, Try.f6.params[j]? = some t → args[j]? = some v → Value.okWide Try.prog W .any base t v := hval0
  have hW' := hW
  obtain ⟨p, q, hA0, hV, rfl, hfz, hnd⟩ := hW
  have hA : DataW.TrodAll enc Try.prog W 0 (fun _ => true) true Try.f6.params.toList args.toList ds p := hA0
  rw [Try.params6] at hA hval hsz
  obtain ⟨v0, vs0, d0, ds0, p0, q0, hargs, rfl, rfl, h0, r0⟩ := trodAll_cons hA
  obtain ⟨rfl, rfl, rfl⟩ := trodAll_nil r0
  obtain rfl : args = #[v0] := by cases args; simp_all
  obtain ⟨rfl, rfl⟩ := trodVars_none hV
  have k0 := h0
  have lt0 : ∀ x ∈ p0, x.block < W.heap.size := by obtain ⟨m, hm⟩ := k0; exact DataW.trod_lt m _ _ _ hm
  obtain ⟨A0, n0, c0, rfl⟩ := okWide_slice Try.underlying31 (hval 0 31 v0 rfl rfl)
  have y0 : n0 * 1 ≤ 140737488351232 := Opn.sized_row hsz (j := 0) (t := 31) rfl rfl Try.underlying31 (by kernel_rfl) h0
  obtain ⟨l0, rfl, hc0, hm0, hr0, hg0⟩ : ∃ xs : List (Int), xs.length = n0 ∧ n0 ≤ c0 ∧ n0 ≤ maxLen ∧ Kd.C (Kd.int .u8) W A0 xs.length xs ∧ ∀ y0 ∈ xs, (Lit.int .u8 y0).wf = true := by
    obtain ⟨fuel, hf⟩ := h0
    exact Opn.slice_row Try.underlying31 (by kernel_rfl) (Opn.opens_int Try.underlying5) hf
  obtain ⟨k, hk⟩ := Pure.FnConforms l0 y0 ⟨hm0, hg0⟩
  clear hA0 hval0 hsz0 hsz
  refine (laws_FnConforms.calls k A0 c0 l0 true W hr0 hc0 hk).mono fun e W' ⟨he, hd⟩ => ?_
  have bel := hd
  subst he
  exact ⟨_, rfl, _, _, _, [], _, [], hW', trodAll_mk1 (shut_bool Try.underlying4 _), (trodAll_cons_mk (Below.trod laidOut (by kernel_rfl) (of_decide_eq_true (by kernel_rfl)) k0 bel lt0) trodAll_mk0), rfl, bel.frame _, fun h => by cases h⟩
theorem closed : joinedFacts Try.prog 6 Try.f6 Rows.fnConformsSpec Rows.fnConformsRow = true := by
  simp only [joinedFacts, Head.enter, Head.lifts, Head.make]
  kernel_rfl
theorem named : Try.prog.funcNamed Rows.fnConformsRow.func = some 6 := by kernel_rfl
theorem wrapped : Try.f6.isWrapper Try.prog Rows.fnConformsRow.wrapper Rows.fnConformsRow.mainSum := by unfold Func.isWrapper; first | (rw [if_pos (by decide +kernel)]; kernel_rfl) | (rw [if_neg (by decide +kernel)]; exact ⟨rfl, rfl⟩)
theorem over : Rows.fnConformsRow.holds Try.pinned (OpenSpec.ofChange Rows.fnConformsSpec) :=
  OpenClaim.holds_of_wide 6 Try.f6 rfl rfl rfl rfl rfl rfl rfl ⟨rfl, rfl, rfl, rfl, rfl⟩ rfl rfl rfl rfl rfl named Try.func6 closed
    (of_decide_eq_true (by kernel_rfl)) wrapped
    (fun os started H enc _ => lifted os started H enc)
theorem proved : Rows.FnConformsSaid := over
#print axioms proved
end Go.Proofs.Ytkmpcmhkfnoeiaa.fnConforms
namespace Go.Proofs.Ytkmpcmhkfnoeiaa
/-- The row, under a short name, for the claim. -/
theorem fnConforms_holds : Rows.FnConformsSaid := fnConforms.proved
end Go.Proofs.Ytkmpcmhkfnoeiaa
