-- Laid by a program of this work.
import Derived.Test.YtooabmmnbifclaaPx0
namespace Go.Proofs.Ytooabmmnbifclaa.P
open Go.RowKit Go.Proofs.YtooabmmnbifclaaW.PrintWords Go.Proofs.YtooabmmnbifclaaW.PrintLast Go.Proofs.YtooabmmnbifclaaW.PrintMore
attribute [local go_sem] max2_int min2_int max_two min_two max_three min_three max_four min_four   -- for this text's walks alone
set_option linter.unusedVariables false
set_option linter.unusedSimpArgs false

/-! ### spec_l22Bound: function 51 -/
def spec_l22Bound.f (a0_0 : Int) (a0_1 : Int) (a1 : Int) : Option (Int) := if a1 ≤ (wrap64 (2 * (wrap64 (a0_1 - a0_0)))) then (some (mx 0 (mn a0_0 (wrap64 (a1 - (wrap64 (2 * (wrap64 (a0_1 - a0_0))))))))) else (if a0_1 = 0 then (none) else (some (wrap64 ((wrap64 ((wrap64 (Int.tdiv (wrap64 (a1 - (wrap64 (a0_1 - a0_0)))) a0_1)) * a0_0)) + (mx 0 (mn a0_0 (wrap64 ((wrap64 ((wrap64 (a1 - (wrap64 (a0_1 - a0_0)))) - (wrap64 ((wrap64 (Int.tdiv (wrap64 (a1 - (wrap64 (a0_1 - a0_0)))) a0_1)) * a0_1)))) - (wrap64 (a0_1 - a0_0))))))))))
set_option maxHeartbeats 8000000 in
set_option maxRecDepth 100000 in
theorem spec_l22Bound.calls (a0_0 : Int) (a0_1 : Int) (a1 : Int) (r : Int) (w : World) (h : spec_l22Bound.f a0_0 a0_1 a1 = some r) :
    Calls Try.prog 51 #[.agg #[.int .i64 a0_0, .int .i64 a0_1], .int .i64 a1] w fun e w' => e = .returned (.int .i64 r) ∧ Below w.heap.size w w' := by
  have hu37 := Try.underlying37
  have HB := Aside0.mk (Below.refl w.heap.size w)
  have H : (if a1 ≤ (wrap64 (2 * (wrap64 (a0_1 - a0_0)))) then (some (mx 0 (mn a0_0 (wrap64 (a1 - (wrap64 (2 * (wrap64 (a0_1 - a0_0))))))))) else (if a0_1 = 0 then (none) else (some (wrap64 ((wrap64 ((wrap64 (Int.tdiv (wrap64 (a1 - (wrap64 (a0_1 - a0_0)))) a0_1)) * a0_0)) + (mx 0 (mn a0_0 (wrap64 ((wrap64 ((wrap64 (a1 - (wrap64 (a0_1 - a0_0)))) - (wrap64 ((wrap64 (Int.tdiv (wrap64 (a1 - (wrap64 (a0_1 - a0_0)))) a0_1)) * a0_1)))) - (wrap64 (a0_1 - a0_0))))))))))) = some r := h
  clear h
  by_cases c3 : a1 ≤ (wrap64 (2 * (wrap64 (a0_1 - a0_0))))
  · rw [if_pos c3] at H
    have c3b0 : decide (a1 ≤ (wrap64 (2 * (wrap64 (a0_1 - a0_0))))) = true := decide_eq_true c3
    clear c3
    obtain ⟨ji4, hji4⟩ : ∃ j_ : Int, (mn a0_0 (wrap64 (a1 - (wrap64 (2 * (wrap64 (a0_1 - a0_0))))))) = j_ := ⟨_, rfl⟩
    replace H : (some (mx 0 (ji4))) = some r := by first | (rw [hji4] at H; exact H) | (simp only [hji4] at H ⊢; exact H)
    have hji4_ : (if (wrap64 (a1 - (wrap64 (2 * (wrap64 (a0_1 - a0_0)))))) < a0_0 then (wrap64 (a1 - (wrap64 (2 * (wrap64 (a0_1 - a0_0)))))) else a0_0) = ji4 := hji4
    obtain ⟨ji5, hji5⟩ : ∃ j_ : Int, (mx 0 (ji4)) = j_ := ⟨_, rfl⟩
    replace H : (some ji5) = some r := by first | (rw [hji5] at H; exact H) | (simp only [hji5] at H ⊢; exact H)
    have hji5_ : (if 0 < (ji4) then (ji4) else 0) = ji5 := hji5
    obtain rfl := Option.some.inj H
    go_enter Try.func51, Try.ntmps51
    go_wp2_with (first | ((with_reducible refine gate_dst (N := 2) rfl ?_); refine box_event ?hg (N := 2) ?hd (cs := #[.int .i64 a0_0, .int .i64 a0_1]) (t := 37) ?hr ?_; (case hd => rfl); (case hg => rfl); (case hr => first | (go_simp; done) | (go_simp; rfl)); intro gb220 hg w6 hbox hb; have n0_ := Aside0.mk (below_step (by repeat (first | (with_reducible first | exact HB.out | apply below_alloc | apply pw_below_drewN | apply below_drew1) | exact HB.out)) hb); have n1_ := Aside0.mk (hbox); have n2_ := Aside0.mk ((by rw [hg]; exact (below_size (by repeat (first | (with_reducible first | exact HB.out | apply below_alloc | apply pw_below_drewN | apply below_drew1) | exact HB.out))) : w.heap.size ≤ gb220)); have n3_ := Aside0.mk ((by rw [hg]; exact (below_size (by repeat (first | (with_reducible first | exact HB.out | apply below_alloc | apply pw_below_drewN | apply below_drew1) | exact HB.out))) : w.heap.size ≤ gb220)); clear HB; have HB := n0_; have BK220 := n1_; have GW220 := n2_; have GE220 := n3_; clear n0_ n1_ n2_ n3_; clear hb hbox hg; have hcz7_0 : w6.cell? ⟨gb220, 0, none⟩ = some (.int .i64 a0_0) := (blk_cell BK220.out 0).trans rfl; have hcz7_1 : w6.cell? ⟨gb220, 1, none⟩ = some (.int .i64 a0_1) := (blk_cell BK220.out 1).trans rfl; have hfz7_0 := blk_frozen BK220.out 0; have hfz7_1 := blk_frozen BK220.out 1))
    go_ret
    exact ⟨by first | rfl | (simp [errW_none, errW_some] <;> rfl) | (simp only [← hji4, ← hji5]; first | rfl | (simp [errW_none, errW_some] <;> rfl)) | (simp [*, errW_none, errW_some] <;> rfl), by repeat (first | (with_reducible first | exact HB.out | apply below_alloc | apply pw_below_drewN | apply below_drew1 | refine below_set ?_ GE220.out) | exact HB.out)⟩
  · rw [if_neg c3] at H
    have c3b0 : decide (a1 ≤ (wrap64 (2 * (wrap64 (a0_1 - a0_0))))) = false := decide_eq_false c3
    clear c3
    by_cases c8 : a0_1 = 0
    · rw [if_pos c8] at H
      exact absurd H (by simp)
    · rw [if_neg c8] at H
      have c8b0 : (a0_1 == 0) = false := beq_eq_false_iff_ne.mpr c8
      have c8b1 : (a0_1 != 0) = true := bne_iff_ne.mpr c8
      obtain ⟨ji9, hji9⟩ : ∃ j_ : Int, (mn a0_0 (wrap64 ((wrap64 ((wrap64 (a1 - (wrap64 (a0_1 - a0_0)))) - (wrap64 ((wrap64 (Int.tdiv (wrap64 (a1 - (wrap64 (a0_1 - a0_0)))) a0_1)) * a0_1)))) - (wrap64 (a0_1 - a0_0))))) = j_ := ⟨_, rfl⟩
      replace H : (some (wrap64 ((wrap64 ((wrap64 (Int.tdiv (wrap64 (a1 - (wrap64 (a0_1 - a0_0)))) a0_1)) * a0_0)) + (mx 0 (ji9))))) = some r := by first | (rw [hji9] at H; exact H) | (simp only [hji9] at H ⊢; exact H)
      have hji9_ : (if (wrap64 ((wrap64 ((wrap64 (a1 - (wrap64 (a0_1 - a0_0)))) - (wrap64 ((wrap64 (Int.tdiv (wrap64 (a1 - (wrap64 (a0_1 - a0_0)))) a0_1)) * a0_1)))) - (wrap64 (a0_1 - a0_0)))) < a0_0 then (wrap64 ((wrap64 ((wrap64 (a1 - (wrap64 (a0_1 - a0_0)))) - (wrap64 ((wrap64 (Int.tdiv (wrap64 (a1 - (wrap64 (a0_1 - a0_0)))) a0_1)) * a0_1)))) - (wrap64 (a0_1 - a0_0)))) else a0_0) = ji9 := hji9
      obtain ⟨ji10, hji10⟩ : ∃ j_ : Int, (mx 0 (ji9)) = j_ := ⟨_, rfl⟩
      replace H : (some (wrap64 ((wrap64 ((wrap64 (Int.tdiv (wrap64 (a1 - (wrap64 (a0_1 - a0_0)))) a0_1)) * a0_0)) + (ji10)))) = some r := by first | (rw [hji10] at H; exact H) | (simp only [hji10] at H ⊢; exact H)
      have hji10_ : (if 0 < (ji9) then (ji9) else 0) = ji10 := hji10
      obtain rfl := Option.some.inj H
      go_enter Try.func51, Try.ntmps51
      go_wp2_with (first | ((with_reducible refine gate_dst (N := 2) rfl ?_); refine box_event ?hg (N := 2) ?hd (cs := #[.int .i64 a0_0, .int .i64 a0_1]) (t := 37) ?hr ?_; (case hd => rfl); (case hg => rfl); (case hr => first | (go_simp; done) | (go_simp; rfl)); intro gb220 hg w11 hbox hb; have n0_ := Aside0.mk (below_step (by repeat (first | (with_reducible first | exact HB.out | apply below_alloc | apply pw_below_drewN | apply below_drew1) | exact HB.out)) hb); have n1_ := Aside0.mk (hbox); have n2_ := Aside0.mk ((by rw [hg]; exact (below_size (by repeat (first | (with_reducible first | exact HB.out | apply below_alloc | apply pw_below_drewN | apply below_drew1) | exact HB.out))) : w.heap.size ≤ gb220)); have n3_ := Aside0.mk ((by rw [hg]; exact (below_size (by repeat (first | (with_reducible first | exact HB.out | apply below_alloc | apply pw_below_drewN | apply below_drew1) | exact HB.out))) : w.heap.size ≤ gb220)); clear HB; have HB := n0_; have BK220 := n1_; have GW220 := n2_; have GE220 := n3_; clear n0_ n1_ n2_ n3_; clear hb hbox hg; have hcz12_0 : w11.cell? ⟨gb220, 0, none⟩ = some (.int .i64 a0_0) := (blk_cell BK220.out 0).trans rfl; have hcz12_1 : w11.cell? ⟨gb220, 1, none⟩ = some (.int .i64 a0_1) := (blk_cell BK220.out 1).trans rfl; have hfz12_0 := blk_frozen BK220.out 0; have hfz12_1 := blk_frozen BK220.out 1))
      go_ret
      exact ⟨by first | rfl | (simp [errW_none, errW_some] <;> rfl) | (simp only [← hji9, ← hji10]; first | rfl | (simp [errW_none, errW_some] <;> rfl)) | (simp [*, errW_none, errW_some] <;> rfl), by repeat (first | (with_reducible first | exact HB.out | apply below_alloc | apply pw_below_drewN | apply below_drew1 | refine below_set ?_ GE220.out) | exact HB.out)⟩

end Go.Proofs.Ytooabmmnbifclaa.P
