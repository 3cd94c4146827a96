/- The law FnHarmonic for every input, part 2 of its proof: what the program's functions answer, and the plain law. No condition. -/
import Derived.Test.YtgcjadhmkhpbnaaMFnHarmonic1
-- Laid by a program of this work.
namespace Go.Proofs.Ytgcjadhmkhpbnaa.P
open Go.RowKit Go.Proofs.YtgcjadhmkhpbnaaW.PrintWords Go.Proofs.YtgcjadhmkhpbnaaW.PrintLast Go.Proofs.YtgcjadhmkhpbnaaW.PrintMore
attribute [local go_sem] max2_int min2_int max_two min_two max_three min_three max_four min_four   -- for this text's walks alone
set_option linter.unusedVariables false
set_option linter.unusedSimpArgs false

/-! ### impl_OrderValid: function 57 -/
def impl_OrderValid.l0 : Nat → List (S56) → List Int → List Int → Int → Int → Option (Bool)
  | 0, _, _, _, _, _ => none
  | k + 1, x0, x1, x7, x8, x9 => if x9 < x8 then (if 0 ≤ x9 then (if x9 < (x7.length : Int) then ((impl_in.f (rd x7 x9) 0 (wrap64 ((x0.length : Int) - 1))).bind fun t197 => (if t197 = true then ((slices_Index_int_int.f k x1 (rd x7 x9)).bind fun t198 => (if t198 = x9 then (impl_OrderValid.l0 k x0 x1 x7 x8 (wrap64 (x9 + 1))) else (some false))) else (some false))) else (none)) else (none)) else ((impl_SetValid.f x0).bind fun t195 => (if t195 = true then (some ((x1.length : Int) == (x0.length : Int))) else (some false)))
def impl_OrderValid.f (k : Nat) (l0 : List (S56)) (l1 : List Int) : Option (Bool) := impl_OrderValid.l0 k l0 l1 l1 (l1.length : Int) 0
theorem impl_OrderValid.mono_l : ∀ k, (∀ y0 y1 y2 y3 y4, LeO (impl_OrderValid.l0 k y0 y1 y2 y3 y4) (impl_OrderValid.l0 (k + 1) y0 y1 y2 y3 y4))
  | 0 => fun _ _ _ _ _ r h => by simp [impl_OrderValid.l0] at h
  | k + 1 => by
    have ih0 := impl_OrderValid.mono_l k
    · intro y0 y1 y2 y3 y4
      unfold impl_OrderValid.l0
      repeat' first
      | (with_reducible exact ih0 _ _ _ _ _)
      | (with_reducible exact slices_Index_int_int.mono _ _ _)
      | (with_reducible exact LeO.refl _)
      | (with_reducible exact LeO.none _)
      | (with_reducible refine LeO.ite ?_ ?_)
      | (with_reducible refine LeO.bind ?_ (fun _ => ?_))
      | exact ih0 _ _ _ _ _
      | exact slices_Index_int_int.mono _ _ _
      | exact LeO.none _
      | refine LeO.ite ?_ ?_
      | refine LeO.bind ?_ (fun _ => ?_)
theorem impl_OrderValid.mono : ∀ a0 a1 k, LeO (impl_OrderValid.f k a0 a1) (impl_OrderValid.f (k + 1) a0 a1) := by
  intro a0 a1 k
  have ih0 := impl_OrderValid.mono_l k
  unfold impl_OrderValid.f
  repeat' first
      | (with_reducible exact ih0 _ _ _ _ _)
      | (with_reducible exact slices_Index_int_int.mono _ _ _)
      | (with_reducible exact LeO.refl _)
      | (with_reducible exact LeO.none _)
      | (with_reducible refine LeO.ite ?_ ?_)
      | (with_reducible refine LeO.bind ?_ (fun _ => ?_))
      | exact ih0 _ _ _ _ _
      | exact slices_Index_int_int.mono _ _ _
      | exact LeO.none _
      | refine LeO.ite ?_ ?_
      | refine LeO.bind ?_ (fun _ => ?_)
set_option maxHeartbeats 8000000 in
set_option maxRecDepth 100000 in
theorem impl_OrderValid.calls (k : Nat) (A0 : Option Addr) (c0 : Nat) (l0 : List (S56)) (A1 : Option Addr) (c1 : Nat) (l1 : List Int) (r : Bool) (w : World) (hr0 : Kd.C k56 w A0 l0.length l0) (hc0 : l0.length ≤ c0) (hr1 : Kd.C (Kd.int .i64) w A1 l1.length l1) (hc1 : l1.length ≤ c1) (h : impl_OrderValid.f k l0 l1 = some r) :
    Calls Try.prog 57 #[.slice A0 l0.length c0, .slice A1 l1.length c1] w fun e w' => e = .returned (.bool r) ∧ Below w.heap.size w w' := by
  have HR0 := Aside0.mk hr0
  have HC0 := Aside0.mk hc0
  clear hr0 hc0
  have HR1 := Aside0.mk hr1
  have HC1 := Aside0.mk hc1
  clear hr1 hc1
  have HB := Aside0.mk (Below.refl w.heap.size w)
  have H : (impl_OrderValid.l0 k l0 l1 l1 (l1.length : Int) 0) = some r := h
  clear h
  have H' := Aside0.mk H
  clear H
  go_enter Try.func57, Try.ntmps57
  go_wp2
  go_loopg [9] k (fun kq v9 w' => ∃ (x9_1 : Int), v9 = .int .i64 x9_1 ∧ Aside0 (impl_OrderValid.l0 kq l0 l1 l1 (l1.length : Int) x9_1 = some r) ∧ Aside0 (kq ≤ k) ∧ Aside0 (Below w.heap.size w w'))
  case atStart => exact ⟨(0), (by first | rfl | (simp; done) | (simp [*]; done)), H', ⟨Nat.le_refl _⟩, ⟨by repeat (first | (with_reducible first | exact HB.out | apply below_alloc | apply pw_below_drewN | apply below_drew1) | exact HB.out)⟩⟩
  case round =>
    clear H'
    try clear c1
    try clear p2
    obtain ⟨x9_1, rfl, HA, HK1, HB⟩ := hrel
    cases gk with
    | zero => exact absurd HA.out (by simp [impl_OrderValid.l0])
    | succ k1 =>
      have H := HA.out
      clear HA
      simp only [impl_OrderValid.l0] at H
      by_cases c3 : x9_1 < (l1.length : Int)
      · rw [if_pos c3] at H
        have c3b0 : decide (x9_1 < (l1.length : Int)) = true := decide_eq_true c3
        clear c3
        by_cases c4 : 0 ≤ x9_1
        · rw [if_pos c4] at H
          have c4b0 : decide (0 ≤ x9_1) = true := decide_eq_true c4
          clear c4
          by_cases c5 : x9_1 < (l1.length : Int)
          · rw [if_pos c5] at H
            have c5b0 : decide (x9_1 < (l1.length : Int)) = true := decide_eq_true c5
            clear c5
            replace H := Option.bind_eq_some_iff.mp H
            obtain ⟨t197, A60, H⟩ := H
            replace H : (if t197 = true then ((slices_Index_int_int.f k1 l1 (rd l1 x9_1)).bind fun t198 => (if t198 = x9_1 then (impl_OrderValid.l0 k1 l0 l1 l1 (l1.length : Int) (wrap64 (x9_1 + 1))) else (some false))) else (some false)) = some r := H
            have A6 := Aside0.mk A60
            clear A60
            by_cases c7 : t197 = true
            · subst c7
              have H1 : ((slices_Index_int_int.f k1 l1 (rd l1 x9_1)).bind fun t198 => (if t198 = x9_1 then (impl_OrderValid.l0 k1 l0 l1 l1 (l1.length : Int) (wrap64 (x9_1 + 1))) else (some false))) = some r := by rw [if_pos rfl] at H; exact H
              clear H
              have H := H1
              clear H1
              replace H := Option.bind_eq_some_iff.mp H
              obtain ⟨t198, A80, H⟩ := H
              replace H : (if t198 = x9_1 then (impl_OrderValid.l0 k1 l0 l1 l1 (l1.length : Int) (wrap64 (x9_1 + 1))) else (some false)) = some r := H
              have A8 := Aside0.mk A80
              clear A80
              by_cases c9 : t198 = x9_1
              · rw [if_pos c9] at H
                have c9b0 : (t198 == x9_1) = true := beq_iff_eq.mpr c9
                have c9b1 : (t198 != x9_1) = false := bne_eq_false_iff_eq.mpr c9
                clear c9
                have H' := Aside0.mk H
                clear H
                have p196 : 0 ≤ (x9_1 : Int) := of_decide_eq_true (by first | (with_reducible assumption) | assumption)
                have q196 : x9_1 < (l1.length : Int) := of_decide_eq_true (by first | (with_reducible assumption) | assumption)
                obtain ⟨ad196, e196, hx196_0⟩ := Kd.at_int HR1.out x9_1 p196 q196
                cases e196
                replace hx196_0 := (HB.out.cell (World.block_lt_of_cell? w _ hx196_0)).trans hx196_0
                replace p196 := eq_true p196
                replace q196 := eq_true q196
                go_wp2_with (first | ((with_reducible refine gate_callee (f := 58) rfl ?_); refine goesL_ (some 18) rfl rfl Try.func58 (by kernel_rfl) rfl #[.int .i64 (rd l1 x9_1), .int .i64 0, .int .i64 (wrap64 ((l0.length : Int) - 1))] rfl (by (try simp only [List.map_toArray, List.map_cons, List.map_nil]); first | done | rfl | (simp only [List.length_drop, List.length_take]; rfl)) ?_; (with_reducible refine (impl_in.calls (rd l1 x9_1) 0 (wrap64 ((l0.length : Int) - 1)) true _ A6.out).mono ?_); rintro e w' ⟨rfl, ⟨nd, rfl⟩⟩; refine ⟨_, rfl, ?_⟩) | (go_at_call 98; (with_reducible refine (slices_Index_int_int.calls k1 _ _ l1 (rd l1 x9_1) t198 _ ?side1 ?side2 A8.out).mono ?_); (case side1 => repeat (first | exact (Kd.C_below HR1.out (by repeat (first | (with_reducible first | exact HB.out | apply below_alloc | apply pw_below_drewN | apply below_drew1) | exact HB.out))) | (with_reducible refine Kd.C_alloc ?_ _) | (with_reducible refine Kd.C_drewN ?_ _) | (with_reducible refine Kd.C_drew ?_))); (case side2 => exact HC1.out); rintro e w' ⟨rfl, ⟨nd, rfl⟩⟩))
                go_roundg k1
                case measure => have := HK1.out; omega
                case rel => exact ⟨(wrap64 (x9_1 + 1)), (by first | rfl | (simp; done) | (simp [*]; done)), H', ⟨by have := HK1.out; omega⟩, ⟨by repeat (first | (with_reducible first | exact HB.out | apply below_alloc | apply pw_below_drewN | apply below_drew1) | exact HB.out)⟩⟩
              · rw [if_neg c9] at H
                have c9b0 : (t198 == x9_1) = false := beq_eq_false_iff_ne.mpr c9
                have c9b1 : (t198 != x9_1) = true := bne_iff_ne.mpr c9
                obtain rfl := Option.some.inj H
                have p196 : 0 ≤ (x9_1 : Int) := of_decide_eq_true (by first | (with_reducible assumption) | assumption)
                have q196 : x9_1 < (l1.length : Int) := of_decide_eq_true (by first | (with_reducible assumption) | assumption)
                obtain ⟨ad196, e196, hx196_0⟩ := Kd.at_int HR1.out x9_1 p196 q196
                cases e196
                replace hx196_0 := (HB.out.cell (World.block_lt_of_cell? w _ hx196_0)).trans hx196_0
                replace p196 := eq_true p196
                replace q196 := eq_true q196
                go_wp2_with (first | ((with_reducible refine gate_callee (f := 58) rfl ?_); refine goesL_ (some 18) rfl rfl Try.func58 (by kernel_rfl) rfl #[.int .i64 (rd l1 x9_1), .int .i64 0, .int .i64 (wrap64 ((l0.length : Int) - 1))] rfl (by (try simp only [List.map_toArray, List.map_cons, List.map_nil]); first | done | rfl | (simp only [List.length_drop, List.length_take]; rfl)) ?_; (with_reducible refine (impl_in.calls (rd l1 x9_1) 0 (wrap64 ((l0.length : Int) - 1)) true _ A6.out).mono ?_); rintro e w' ⟨rfl, ⟨nd, rfl⟩⟩; refine ⟨_, rfl, ?_⟩) | (go_at_call 98; (with_reducible refine (slices_Index_int_int.calls k1 _ _ l1 (rd l1 x9_1) t198 _ ?side1 ?side2 A8.out).mono ?_); (case side1 => repeat (first | exact (Kd.C_below HR1.out (by repeat (first | (with_reducible first | exact HB.out | apply below_alloc | apply pw_below_drewN | apply below_drew1) | exact HB.out))) | (with_reducible refine Kd.C_alloc ?_ _) | (with_reducible refine Kd.C_drewN ?_ _) | (with_reducible refine Kd.C_drew ?_))); (case side2 => exact HC1.out); rintro e w' ⟨rfl, ⟨nd, rfl⟩⟩))
                go_ret
                exact ⟨by first | rfl | (simp [errW_none, errW_some] <;> rfl) | (simp [*, errW_none, errW_some] <;> rfl), by repeat (first | (with_reducible first | exact HB.out | apply below_alloc | apply pw_below_drewN | apply below_drew1) | exact HB.out)⟩
            · replace c7 := Bool.eq_false_iff.mpr c7
              subst c7
              have H1 : (some false) = some r := by rw [if_neg (show ¬ (false = true) by decide)] at H; exact H
              clear H
              have H := H1
              clear H1
              obtain rfl := Option.some.inj H
              have p196 : 0 ≤ (x9_1 : Int) := of_decide_eq_true (by first | (with_reducible assumption) | assumption)
              have q196 : x9_1 < (l1.length : Int) := of_decide_eq_true (by first | (with_reducible assumption) | assumption)
              obtain ⟨ad196, e196, hx196_0⟩ := Kd.at_int HR1.out x9_1 p196 q196
              cases e196
              replace hx196_0 := (HB.out.cell (World.block_lt_of_cell? w _ hx196_0)).trans hx196_0
              replace p196 := eq_true p196
              replace q196 := eq_true q196
              go_wp2_with (first | ((with_reducible refine gate_callee (f := 58) rfl ?_); refine goesL_ (some 18) rfl rfl Try.func58 (by kernel_rfl) rfl #[.int .i64 (rd l1 x9_1), .int .i64 0, .int .i64 (wrap64 ((l0.length : Int) - 1))] rfl (by (try simp only [List.map_toArray, List.map_cons, List.map_nil]); first | done | rfl | (simp only [List.length_drop, List.length_take]; rfl)) ?_; (with_reducible refine (impl_in.calls (rd l1 x9_1) 0 (wrap64 ((l0.length : Int) - 1)) false _ A6.out).mono ?_); rintro e w' ⟨rfl, ⟨nd, rfl⟩⟩; refine ⟨_, rfl, ?_⟩))
              go_ret
              exact ⟨by first | rfl | (simp [errW_none, errW_some] <;> rfl) | (simp [*, errW_none, errW_some] <;> rfl), by repeat (first | (with_reducible first | exact HB.out | apply below_alloc | apply pw_below_drewN | apply below_drew1) | exact HB.out)⟩
          · rw [if_neg c5] at H
            exact absurd H (by simp)
        · rw [if_neg c4] at H
          exact absurd H (by simp)
      · rw [if_neg c3] at H
        have c3b0 : decide (x9_1 < (l1.length : Int)) = false := decide_eq_false c3
        clear c3
        replace H := Option.bind_eq_some_iff.mp H
        obtain ⟨t195, A100, H⟩ := H
        replace H : (if t195 = true then (some ((l1.length : Int) == (l0.length : Int))) else (some false)) = some r := H
        have A10 := Aside0.mk A100
        clear A100
        by_cases c11 : t195 = true
        · subst c11
          have H1 : (some ((l1.length : Int) == (l0.length : Int))) = some r := by rw [if_pos rfl] at H; exact H
          clear H
          have H := H1
          clear H1
          obtain rfl := Option.some.inj H
          go_wp2_with (first | ((with_reducible refine gate_callee (f := 52) rfl ?_); refine goesL_ (some 29) rfl rfl Try.func52 (by kernel_rfl) rfl #[.slice A0 l0.length c0] rfl (by (try simp only [List.map_toArray, List.map_cons, List.map_nil]); first | done | rfl | (simp only [List.length_drop, List.length_take]; rfl)) ?_; (with_reducible refine (impl_SetValid.calls _ _ l0 true _ ?side1 ?side2 A10.out).mono ?_); (case side1 => repeat (first | exact (Kd.C_below HR0.out HB.out) | (with_reducible refine Kd.C_alloc ?_ _) | (with_reducible refine Kd.C_drewN ?_ _) | (with_reducible refine Kd.C_drew ?_))); (case side2 => exact HC0.out); rintro e w12 ⟨rfl, hb⟩; refine ⟨_, rfl, ?_⟩; have n0_ := Aside0.mk (below_step (by repeat (first | (with_reducible first | exact HB.out | apply below_alloc | apply pw_below_drewN | apply below_drew1) | exact HB.out)) hb); clear HB; have HB := n0_; clear n0_; (try clear hb); (try clear hb2); (try clear hk); (try clear hi)))
          go_ret
          exact ⟨by first | rfl | (simp [errW_none, errW_some] <;> rfl) | (simp [*, errW_none, errW_some] <;> rfl), by repeat (first | (with_reducible first | exact HB.out | apply below_alloc | apply pw_below_drewN | apply below_drew1) | exact HB.out)⟩
        · replace c11 := Bool.eq_false_iff.mpr c11
          subst c11
          have H1 : (some false) = some r := by rw [if_neg (show ¬ (false = true) by decide)] at H; exact H
          clear H
          have H := H1
          clear H1
          obtain rfl := Option.some.inj H
          go_wp2_with (first | ((with_reducible refine gate_callee (f := 52) rfl ?_); refine goesL_ (some 29) rfl rfl Try.func52 (by kernel_rfl) rfl #[.slice A0 l0.length c0] rfl (by (try simp only [List.map_toArray, List.map_cons, List.map_nil]); first | done | rfl | (simp only [List.length_drop, List.length_take]; rfl)) ?_; (with_reducible refine (impl_SetValid.calls _ _ l0 false _ ?side1 ?side2 A10.out).mono ?_); (case side1 => repeat (first | exact (Kd.C_below HR0.out HB.out) | (with_reducible refine Kd.C_alloc ?_ _) | (with_reducible refine Kd.C_drewN ?_ _) | (with_reducible refine Kd.C_drew ?_))); (case side2 => exact HC0.out); rintro e w13 ⟨rfl, hb⟩; refine ⟨_, rfl, ?_⟩; have n0_ := Aside0.mk (below_step (by repeat (first | (with_reducible first | exact HB.out | apply below_alloc | apply pw_below_drewN | apply below_drew1) | exact HB.out)) hb); clear HB; have HB := n0_; clear n0_; (try clear hb); (try clear hb2); (try clear hk); (try clear hi)))
          go_ret
          exact ⟨by first | rfl | (simp [errW_none, errW_some] <;> rfl) | (simp [*, errW_none, errW_some] <;> rfl), by repeat (first | (with_reducible first | exact HB.out | apply below_alloc | apply pw_below_drewN | apply below_drew1) | exact HB.out)⟩

end Go.Proofs.Ytgcjadhmkhpbnaa.P
-- Laid by a program of this work.
namespace Go.Proofs.Ytgcjadhmkhpbnaa.P
open Go.RowKit Go.Proofs.YtgcjadhmkhpbnaaW.PrintWords Go.Proofs.YtgcjadhmkhpbnaaW.PrintLast Go.Proofs.YtgcjadhmkhpbnaaW.PrintMore
attribute [local go_sem] max2_int min2_int max_two min_two max_three min_three max_four min_four   -- for this text's walks alone
set_option linter.unusedVariables false
set_option linter.unusedSimpArgs false

/-! ### impl_ceil: function 106 -/
def impl_ceil.f (a0 : Int) (a1 : Int) : Option (Int) := if a1 = 0 then (none) else (some (wrap64 (Int.tdiv (wrap64 ((wrap64 (a0 + a1)) - 1)) a1)))
set_option maxHeartbeats 8000000 in
set_option maxRecDepth 100000 in
theorem impl_ceil.calls (a0 : Int) (a1 : Int) (r : Int) (w : World) (h : impl_ceil.f a0 a1 = some r) :
    Calls Try.prog 106 #[.int .i64 a0, .int .i64 a1] w fun e w' => e = .returned (.int .i64 r) ∧ Drawn0 w w' := by
  have H : (if a1 = 0 then (none) else (some (wrap64 (Int.tdiv (wrap64 ((wrap64 (a0 + a1)) - 1)) a1)))) = some r := h
  clear h
  by_cases c3 : a1 = 0
  · rw [if_pos c3] at H
    exact absurd H (by simp)
  · rw [if_neg c3] at H
    have c3b0 : (a1 == 0) = false := beq_eq_false_iff_ne.mpr c3
    have c3b1 : (a1 != 0) = true := bne_iff_ne.mpr c3
    obtain rfl := Option.some.inj H
    go_enter Try.func106, Try.ntmps106
    go_wp2
    go_ret
    exact ⟨by first | rfl | (simp; done) | (simp [*]; done), by repeat (first | exact Drawn0.refl _ | apply Drawn0.step)⟩

end Go.Proofs.Ytgcjadhmkhpbnaa.P
-- Laid by a program of this work.
namespace Go.Proofs.Ytgcjadhmkhpbnaa.P
open Go.RowKit Go.Proofs.YtgcjadhmkhpbnaaW.PrintWords Go.Proofs.YtgcjadhmkhpbnaaW.PrintLast Go.Proofs.YtgcjadhmkhpbnaaW.PrintMore
attribute [local go_sem] max2_int min2_int max_two min_two max_three min_three max_four min_four   -- for this text's walks alone
set_option linter.unusedVariables false
set_option linter.unusedSimpArgs false

/-! ### impl_response: function 91 -/
mutual
def impl_response.l0 : Nat → List (S56) → List Int → Int → List Int → Int → Option (Int)
  | 0, _, _, _, _, _ => none
  | k + 1, x0, x1, x2, x3, x9 => if 0 ≤ x2 then (if x2 < (x1.length : Int) then (if x2 < (x0.length : Int) then (if (wrap64 (x9 + (rd x1 x2))) ≤ ((rd_T56 x0 x2).f1) then (impl_response.l1 k x0 x1 x2 x3 x9 ((rd_T56 x0 x2).f0) x3 (x3.length : Int) 0) else (some (-1))) else (none)) else (none)) else (none)
def impl_response.l1 : Nat → List (S56) → List Int → Int → List Int → Int → Int → List Int → Int → Int → Option (Int)
  | 0, _, _, _, _, _, _, _, _, _ => none
  | k + 1, x0, x1, x2, x3, x9, x10, x35, x36, x37 => if x37 < x36 then (if 0 ≤ x37 then (if x37 < (x35.length : Int) then (if 0 ≤ (rd x35 x37) then (if (rd x35 x37) < (x1.length : Int) then (if (rd x35 x37) < (x0.length : Int) then ((impl_ceil.f (wrap64 (x9 + (rd x1 (rd x35 x37)))) ((rd_T56 x0 (rd x35 x37)).f2)).bind fun t586 => (impl_response.l1 k x0 x1 x2 x3 x9 (wrap64 (x10 + (wrap64 (t586 * ((rd_T56 x0 (rd x35 x37)).f0))))) x35 x36 (wrap64 (x37 + 1)))) else (none)) else (none)) else (none)) else (none)) else (none)) else (if x10 = x9 then (if 0 ≤ x2 then (if x2 < (x1.length : Int) then (some (wrap64 (x9 + (rd x1 x2)))) else (none)) else (none)) else (impl_response.l0 k x0 x1 x2 x3 x10))
end
def impl_response.f (k : Nat) (l0 : List (S56)) (l1 : List Int) (a2 : Int) (l3 : List Int) : Option (Int) := if 0 ≤ a2 then (if a2 < (l0.length : Int) then (impl_response.l0 k l0 l1 a2 l3 ((rd_T56 l0 a2).f0)) else (none)) else (none)
theorem impl_response.mono_l : ∀ k, (∀ y0 y1 y2 y3 y4, LeO (impl_response.l0 k y0 y1 y2 y3 y4) (impl_response.l0 (k + 1) y0 y1 y2 y3 y4)) ∧ (∀ y0 y1 y2 y3 y4 y5 y6 y7 y8, LeO (impl_response.l1 k y0 y1 y2 y3 y4 y5 y6 y7 y8) (impl_response.l1 (k + 1) y0 y1 y2 y3 y4 y5 y6 y7 y8))
  | 0 => ⟨fun _ _ _ _ _ r h => by simp [impl_response.l0] at h, fun _ _ _ _ _ _ _ _ _ r h => by simp [impl_response.l1] at h⟩
  | k + 1 => by
    obtain ⟨ih0, ih1⟩ := impl_response.mono_l k
    refine ⟨?_, ?_⟩
    · intro y0 y1 y2 y3 y4
      unfold impl_response.l0
      repeat' first
      | (with_reducible exact ih0 _ _ _ _ _)
      | (with_reducible exact ih1 _ _ _ _ _ _ _ _ _)
      | (with_reducible exact LeO.refl _)
      | (with_reducible exact LeO.none _)
      | (with_reducible refine LeO.ite ?_ ?_)
      | (with_reducible refine LeO.bind ?_ (fun _ => ?_))
      | exact ih0 _ _ _ _ _
      | exact ih1 _ _ _ _ _ _ _ _ _
      | exact LeO.none _
      | refine LeO.ite ?_ ?_
      | refine LeO.bind ?_ (fun _ => ?_)
    · intro y0 y1 y2 y3 y4 y5 y6 y7 y8
      unfold impl_response.l1
      repeat' first
      | (with_reducible exact ih0 _ _ _ _ _)
      | (with_reducible exact ih1 _ _ _ _ _ _ _ _ _)
      | (with_reducible exact LeO.refl _)
      | (with_reducible exact LeO.none _)
      | (with_reducible refine LeO.ite ?_ ?_)
      | (with_reducible refine LeO.bind ?_ (fun _ => ?_))
      | exact ih0 _ _ _ _ _
      | exact ih1 _ _ _ _ _ _ _ _ _
      | exact LeO.none _
      | refine LeO.ite ?_ ?_
      | refine LeO.bind ?_ (fun _ => ?_)
theorem impl_response.mono : ∀ a0 a1 a2 a3 k, LeO (impl_response.f k a0 a1 a2 a3) (impl_response.f (k + 1) a0 a1 a2 a3) := by
  intro a0 a1 a2 a3 k
  obtain ⟨ih0, ih1⟩ := impl_response.mono_l k
  unfold impl_response.f
  repeat' first
      | (with_reducible exact ih0 _ _ _ _ _)
      | (with_reducible exact ih1 _ _ _ _ _ _ _ _ _)
      | (with_reducible exact LeO.refl _)
      | (with_reducible exact LeO.none _)
      | (with_reducible refine LeO.ite ?_ ?_)
      | (with_reducible refine LeO.bind ?_ (fun _ => ?_))
      | exact ih0 _ _ _ _ _
      | exact ih1 _ _ _ _ _ _ _ _ _
      | exact LeO.none _
      | refine LeO.ite ?_ ?_
      | refine LeO.bind ?_ (fun _ => ?_)
set_option maxHeartbeats 8000000 in
set_option maxRecDepth 100000 in
theorem impl_response.calls (k : Nat) (A0 : Option Addr) (c0 : Nat) (l0 : List (S56)) (A1 : Option Addr) (c1 : Nat) (l1 : List Int) (a2 : Int) (A3 : Option Addr) (c3 : Nat) (l3 : List Int) (r : Int) (w : World) (hr0 : Kd.C k56 w A0 l0.length l0) (hc0 : l0.length ≤ c0) (hr1 : Kd.C (Kd.int .i64) w A1 l1.length l1) (hc1 : l1.length ≤ c1) (hr3 : Kd.C (Kd.int .i64) w A3 l3.length l3) (hc3 : l3.length ≤ c3) (h : impl_response.f k l0 l1 a2 l3 = some r) :
    Calls Try.prog 91 #[.slice A0 l0.length c0, .slice A1 l1.length c1, .int .i64 a2, .slice A3 l3.length c3] w fun e w' => e = .returned (.int .i64 r) ∧ Drawn0 w w' := by
  have HR0 := Aside0.mk hr0
  have HC0 := Aside0.mk hc0
  clear hr0 hc0
  have HR1 := Aside0.mk hr1
  have HC1 := Aside0.mk hc1
  clear hr1 hc1
  have HR3 := Aside0.mk hr3
  have HC3 := Aside0.mk hc3
  clear hr3 hc3
  have H : (if 0 ≤ a2 then (if a2 < (l0.length : Int) then (impl_response.l0 k l0 l1 a2 l3 ((rd_T56 l0 a2).f0)) else (none)) else (none)) = some r := h
  clear h
  by_cases c5 : 0 ≤ a2
  · rw [if_pos c5] at H
    have c5b0 : decide (0 ≤ a2) = true := decide_eq_true c5
    clear c5
    by_cases c6 : a2 < (l0.length : Int)
    · rw [if_pos c6] at H
      have c6b0 : decide (a2 < (l0.length : Int)) = true := decide_eq_true c6
      clear c6
      have H' := Aside0.mk H
      clear H
      have p579 : 0 ≤ (a2 : Int) := of_decide_eq_true (by first | (with_reducible assumption) | assumption)
      have q579 : a2 < (l0.length : Int) := of_decide_eq_true (by first | (with_reducible assumption) | assumption)
      obtain ⟨ad579, e579, hx579_0, hx579_1, hx579_2⟩ := at_T56 HR0.out a2 p579 q579
      cases e579
      replace p579 := eq_true p579
      replace q579 := eq_true q579
      go_enter Try.func91, Try.ntmps91
      go_wp2
      repeat (go_quiet (fail); try go_wp2)
      go_loopg [9] k (fun kq v9 w' => ∃ (x9_1 : Int), v9 = .int .i64 x9_1 ∧ Aside0 (impl_response.l0 kq l0 l1 a2 l3 x9_1 = some r) ∧ Aside0 (kq ≤ k) ∧ Drawn0 w w')
      case atStart => exact ⟨((rd_T56 l0 a2).f0), (by first | rfl | (simp; done) | (simp [*]; done)), H', ⟨Nat.le_refl _⟩, by repeat (first | exact Drawn0.refl _ | apply Drawn0.step)⟩
      case round =>
        clear H'
        try clear c1
        try clear p2
        try clear c3
        try clear c5
        try clear c5b0
        try clear p5
        try clear q5
        try clear hx5
        try clear c6
        try clear c6b0
        try clear hx579_0
        try clear hx579_1
        try clear hx579_2
        try clear p579
        try clear q579
        obtain ⟨x9_1, rfl, HA, HK1, ⟨m1, rfl⟩⟩ := hrel
        cases gk with
        | zero => exact absurd HA.out (by simp [impl_response.l0])
        | succ k1 =>
          have H := HA.out
          clear HA
          simp only [impl_response.l0] at H
          by_cases c7 : 0 ≤ a2
          · rw [if_pos c7] at H
            have c7b0 : decide (0 ≤ a2) = true := decide_eq_true c7
            clear c7
            by_cases c8 : a2 < (l1.length : Int)
            · rw [if_pos c8] at H
              have c8b0 : decide (a2 < (l1.length : Int)) = true := decide_eq_true c8
              clear c8
              by_cases c9 : a2 < (l0.length : Int)
              · rw [if_pos c9] at H
                have c9b0 : decide (a2 < (l0.length : Int)) = true := decide_eq_true c9
                clear c9
                by_cases c10 : (wrap64 (x9_1 + (rd l1 a2))) ≤ ((rd_T56 l0 a2).f1)
                · rw [if_pos c10] at H
                  have c10b0 : decide ((wrap64 (x9_1 + (rd l1 a2))) ≤ ((rd_T56 l0 a2).f1)) = true := decide_eq_true c10
                  clear c10
                  have H' := Aside0.mk H
                  clear H
                  have p580 : 0 ≤ (a2 : Int) := of_decide_eq_true (by first | (with_reducible assumption) | assumption)
                  have q580 : a2 < (l1.length : Int) := of_decide_eq_true (by first | (with_reducible assumption) | assumption)
                  obtain ⟨ad580, e580, hx580_0⟩ := Kd.at_int HR1.out a2 p580 q580
                  cases e580
                  replace p580 := eq_true p580
                  replace q580 := eq_true q580
                  have p581 : 0 ≤ (a2 : Int) := of_decide_eq_true (by first | (with_reducible assumption) | assumption)
                  have q581 : a2 < (l0.length : Int) := of_decide_eq_true (by first | (with_reducible assumption) | assumption)
                  obtain ⟨ad581, e581, hx581_0, hx581_1, hx581_2⟩ := at_T56 HR0.out a2 p581 q581
                  obtain rfl : ad579 = ad581 := (by injection e581)
                  replace p581 := eq_true p581
                  replace q581 := eq_true q581
                  have p582 : 0 ≤ (a2 : Int) := of_decide_eq_true (by first | (with_reducible assumption) | assumption)
                  have q582 : a2 < (l0.length : Int) := of_decide_eq_true (by first | (with_reducible assumption) | assumption)
                  obtain ⟨ad582, e582, hx582_0, hx582_1, hx582_2⟩ := at_T56 HR0.out a2 p582 q582
                  obtain rfl : ad579 = ad582 := (by injection e582)
                  replace p582 := eq_true p582
                  replace q582 := eq_true q582
                  go_wp2
                  repeat (go_quiet (fail); try go_wp2)
                  go_loopg [10, 37] k1 (fun kq v10 v37 w' => ∃ (x10_2 : Int) (x37_2 : Int), v10 = .int .i64 x10_2 ∧ v37 = .int .i64 x37_2 ∧ Aside0 (impl_response.l1 kq l0 l1 a2 l3 x9_1 x10_2 l3 (l3.length : Int) x37_2 = some r) ∧ Aside0 (kq ≤ k1) ∧ Drawn0 w w')
                  case atStart => exact ⟨((rd_T56 l0 a2).f0), (0), (by first | rfl | (simp; done) | (simp [*]; done)), (by first | rfl | (simp; done) | (simp [*]; done)), H', ⟨Nat.le_refl _⟩, by repeat (first | exact Drawn0.refl _ | apply Drawn0.step)⟩
                  case round =>
                    clear H'
                    try clear c1
                    try clear p2
                    try clear c3
                    try clear c5
                    try clear c5b0
                    try clear p5
                    try clear q5
                    try clear hx5
                    try clear c6
                    try clear c6b0
                    try clear p6
                    try clear c7
                    try clear c7b0
                    try clear c8
                    try clear c8b0
                    try clear c9
                    try clear c9b0
                    try clear c10
                    try clear c10b0
                    try clear hx579_0
                    try clear hx579_1
                    try clear hx579_2
                    try clear hx580_0
                    try clear hx581_0
                    try clear hx581_1
                    try clear hx581_2
                    try clear hx582_0
                    try clear hx582_1
                    try clear hx582_2
                    try clear p2
                    try clear p5
                    try clear p579
                    try clear p580
                    try clear p581
                    try clear p582
                    try clear q5
                    try clear q579
                    try clear q580
                    try clear q581
                    try clear q582
                    obtain ⟨x10_2, x37_2, rfl, rfl, HA, HK2, ⟨m2, rfl⟩⟩ := hrel
                    cases gk with
                    | zero => exact absurd HA.out (by simp [impl_response.l1])
                    | succ k2 =>
                      have H := HA.out
                      clear HA
                      simp only [impl_response.l1] at H
                      by_cases c11 : x37_2 < (l3.length : Int)
                      · rw [if_pos c11] at H
                        have c11b0 : decide (x37_2 < (l3.length : Int)) = true := decide_eq_true c11
                        clear c11
                        by_cases c12 : 0 ≤ x37_2
                        · rw [if_pos c12] at H
                          have c12b0 : decide (0 ≤ x37_2) = true := decide_eq_true c12
                          clear c12
                          by_cases c13 : x37_2 < (l3.length : Int)
                          · rw [if_pos c13] at H
                            have c13b0 : decide (x37_2 < (l3.length : Int)) = true := decide_eq_true c13
                            clear c13
                            by_cases c14 : 0 ≤ (rd l3 x37_2)
                            · rw [if_pos c14] at H
                              have c14b0 : decide (0 ≤ (rd l3 x37_2)) = true := decide_eq_true c14
                              clear c14
                              by_cases c15 : (rd l3 x37_2) < (l1.length : Int)
                              · rw [if_pos c15] at H
                                have c15b0 : decide ((rd l3 x37_2) < (l1.length : Int)) = true := decide_eq_true c15
                                clear c15
                                by_cases c16 : (rd l3 x37_2) < (l0.length : Int)
                                · rw [if_pos c16] at H
                                  have c16b0 : decide ((rd l3 x37_2) < (l0.length : Int)) = true := decide_eq_true c16
                                  clear c16
                                  replace H := Option.bind_eq_some_iff.mp H
                                  obtain ⟨t586, A170, H⟩ := H
                                  replace H : (impl_response.l1 k2 l0 l1 a2 l3 x9_1 (wrap64 (x10_2 + (wrap64 (t586 * ((rd_T56 l0 (rd l3 x37_2)).f0))))) l3 (l3.length : Int) (wrap64 (x37_2 + 1))) = some r := H
                                  have A17 := Aside0.mk A170
                                  clear A170
                                  have H' := Aside0.mk H
                                  clear H
                                  have p583 : 0 ≤ (x37_2 : Int) := of_decide_eq_true (by first | (with_reducible assumption) | assumption)
                                  have q583 : x37_2 < (l3.length : Int) := of_decide_eq_true (by first | (with_reducible assumption) | assumption)
                                  obtain ⟨ad583, e583, hx583_0⟩ := Kd.at_int HR3.out x37_2 p583 q583
                                  cases e583
                                  replace p583 := eq_true p583
                                  replace q583 := eq_true q583
                                  have p584 : 0 ≤ ((rd l3 x37_2) : Int) := of_decide_eq_true (by first | (with_reducible assumption) | assumption)
                                  have q584 : (rd l3 x37_2) < (l1.length : Int) := of_decide_eq_true (by first | (with_reducible assumption) | assumption)
                                  obtain ⟨ad584, e584, hx584_0⟩ := Kd.at_int HR1.out (rd l3 x37_2) p584 q584
                                  obtain rfl : ad580 = ad584 := (by injection e584)
                                  replace p584 := eq_true p584
                                  replace q584 := eq_true q584
                                  have p585 : 0 ≤ ((rd l3 x37_2) : Int) := of_decide_eq_true (by first | (with_reducible assumption) | assumption)
                                  have q585 : (rd l3 x37_2) < (l0.length : Int) := of_decide_eq_true (by first | (with_reducible assumption) | assumption)
                                  obtain ⟨ad585, e585, hx585_0, hx585_1, hx585_2⟩ := at_T56 HR0.out (rd l3 x37_2) p585 q585
                                  obtain rfl : ad579 = ad585 := (by injection e585)
                                  replace p585 := eq_true p585
                                  replace q585 := eq_true q585
                                  -- HOISTED
                                  have p587 : 0 ≤ ((rd l3 x37_2) : Int) := of_decide_eq_true (by first | (with_reducible assumption) | assumption)
                                  have q587 : (rd l3 x37_2) < (l0.length : Int) := of_decide_eq_true (by first | (with_reducible assumption) | assumption)
                                  obtain ⟨ad587, e587, hx587_0, hx587_1, hx587_2⟩ := at_T56 HR0.out (rd l3 x37_2) p587 q587
                                  obtain rfl : ad579 = ad587 := (by injection e587)
                                  replace p587 := eq_true p587
                                  replace q587 := eq_true q587
                                  go_wp2_with (first | (go_at_call 106; (with_reducible refine (impl_ceil.calls (wrap64 (x9_1 + (rd l1 (rd l3 x37_2)))) ((rd_T56 l0 (rd l3 x37_2)).f2) t586 _ A17.out).mono ?_); rintro e w' ⟨rfl, ⟨nd, rfl⟩⟩; (try first | exact ⟨rfl, _, World.drewN_drewN _ _ _⟩ | exact ⟨rfl, _, Eq.trans (World.drewN_drewN _ _ _) (congrArg (World.drewN _) (Nat.add_assoc _ _ _))⟩)))
                                  repeat (go_quiet (first | (go_at_call 106; (with_reducible refine (impl_ceil.calls (wrap64 (x9_1 + (rd l1 (rd l3 x37_2)))) ((rd_T56 l0 (rd l3 x37_2)).f2) t586 _ A17.out).mono ?_); rintro e w' ⟨rfl, ⟨nd, rfl⟩⟩; (try first | exact ⟨rfl, _, World.drewN_drewN _ _ _⟩ | exact ⟨rfl, _, Eq.trans (World.drewN_drewN _ _ _) (congrArg (World.drewN _) (Nat.add_assoc _ _ _))⟩))); try go_wp2_with (first | (go_at_call 106; (with_reducible refine (impl_ceil.calls (wrap64 (x9_1 + (rd l1 (rd l3 x37_2)))) ((rd_T56 l0 (rd l3 x37_2)).f2) t586 _ A17.out).mono ?_); rintro e w' ⟨rfl, ⟨nd, rfl⟩⟩; (try first | exact ⟨rfl, _, World.drewN_drewN _ _ _⟩ | exact ⟨rfl, _, Eq.trans (World.drewN_drewN _ _ _) (congrArg (World.drewN _) (Nat.add_assoc _ _ _))⟩))))
                                  go_roundg k2
                                  case measure => have := HK1.out; have := HK2.out; omega
                                  case rel => exact ⟨(wrap64 (x10_2 + (wrap64 (t586 * ((rd_T56 l0 (rd l3 x37_2)).f0))))), (wrap64 (x37_2 + 1)), (by first | rfl | (simp; done) | (simp [*]; done)), (by first | rfl | (simp; done) | (simp [*]; done)), H', ⟨by have := HK1.out; have := HK2.out; omega⟩, by repeat (first | exact Drawn0.refl _ | apply Drawn0.step)⟩
                                · rw [if_neg c16] at H
                                  exact absurd H (by simp)
                              · rw [if_neg c15] at H
                                exact absurd H (by simp)
                            · rw [if_neg c14] at H
                              exact absurd H (by simp)
                          · rw [if_neg c13] at H
                            exact absurd H (by simp)
                        · rw [if_neg c12] at H
                          exact absurd H (by simp)
                      · rw [if_neg c11] at H
                        have c11b0 : decide (x37_2 < (l3.length : Int)) = false := decide_eq_false c11
                        clear c11
                        by_cases c18 : x10_2 = x9_1
                        · rw [if_pos c18] at H
                          have c18b0 : (x10_2 == x9_1) = true := beq_iff_eq.mpr c18
                          have c18b1 : (x10_2 != x9_1) = false := bne_eq_false_iff_eq.mpr c18
                          clear c18
                          by_cases c19 : 0 ≤ a2
                          · rw [if_pos c19] at H
                            have c19b0 : decide (0 ≤ a2) = true := decide_eq_true c19
                            clear c19
                            by_cases c20 : a2 < (l1.length : Int)
                            · rw [if_pos c20] at H
                              have c20b0 : decide (a2 < (l1.length : Int)) = true := decide_eq_true c20
                              clear c20
                              obtain rfl := Option.some.inj H
                              have p588 : 0 ≤ (a2 : Int) := of_decide_eq_true (by first | (with_reducible assumption) | assumption)
                              have q588 : a2 < (l1.length : Int) := of_decide_eq_true (by first | (with_reducible assumption) | assumption)
                              obtain ⟨ad588, e588, hx588_0⟩ := Kd.at_int HR1.out a2 p588 q588
                              obtain rfl : ad580 = ad588 := (by injection e588)
                              replace p588 := eq_true p588
                              replace q588 := eq_true q588
                              go_wp2
                              repeat (go_quiet (fail); try go_wp2)
                              go_ret
                              exact ⟨by first | rfl | (simp; done) | (simp [*]; done), by repeat (first | exact Drawn0.refl _ | apply Drawn0.step)⟩
                            · rw [if_neg c20] at H
                              exact absurd H (by simp)
                          · rw [if_neg c19] at H
                            exact absurd H (by simp)
                        · rw [if_neg c18] at H
                          have c18b0 : (x10_2 == x9_1) = false := beq_eq_false_iff_ne.mpr c18
                          have c18b1 : (x10_2 != x9_1) = true := bne_iff_ne.mpr c18
                          have H' := Aside0.mk H
                          clear H
                          go_wp2
                          repeat (go_quiet (fail); try go_wp2)
                          go_roundg k2
                          case measure => have := HK1.out; have := HK2.out; omega
                          case rel => exact ⟨(x10_2), (by first | rfl | (simp; done) | (simp [*]; done)), H', ⟨by have := HK1.out; have := HK2.out; omega⟩, by repeat (first | exact Drawn0.refl _ | apply Drawn0.step)⟩
                · rw [if_neg c10] at H
                  have c10b0 : decide ((wrap64 (x9_1 + (rd l1 a2))) ≤ ((rd_T56 l0 a2).f1)) = false := decide_eq_false c10
                  clear c10
                  obtain rfl := Option.some.inj H
                  have p580 : 0 ≤ (a2 : Int) := of_decide_eq_true (by first | (with_reducible assumption) | assumption)
                  have q580 : a2 < (l1.length : Int) := of_decide_eq_true (by first | (with_reducible assumption) | assumption)
                  obtain ⟨ad580, e580, hx580_0⟩ := Kd.at_int HR1.out a2 p580 q580
                  cases e580
                  replace p580 := eq_true p580
                  replace q580 := eq_true q580
                  have p581 : 0 ≤ (a2 : Int) := of_decide_eq_true (by first | (with_reducible assumption) | assumption)
                  have q581 : a2 < (l0.length : Int) := of_decide_eq_true (by first | (with_reducible assumption) | assumption)
                  obtain ⟨ad581, e581, hx581_0, hx581_1, hx581_2⟩ := at_T56 HR0.out a2 p581 q581
                  obtain rfl : ad579 = ad581 := (by injection e581)
                  replace p581 := eq_true p581
                  replace q581 := eq_true q581
                  go_wp2
                  repeat (go_quiet (fail); try go_wp2)
                  go_ret
                  exact ⟨by first | rfl | (simp; done) | (simp [*]; done), by repeat (first | exact Drawn0.refl _ | apply Drawn0.step)⟩
              · rw [if_neg c9] at H
                exact absurd H (by simp)
            · rw [if_neg c8] at H
              exact absurd H (by simp)
          · rw [if_neg c7] at H
            exact absurd H (by simp)
    · rw [if_neg c6] at H
      exact absurd H (by simp)
  · rw [if_neg c5] at H
    exact absurd H (by simp)

end Go.Proofs.Ytgcjadhmkhpbnaa.P
-- Laid by a program of this work.
namespace Go.Proofs.Ytgcjadhmkhpbnaa.P
open Go.RowKit Go.Proofs.YtgcjadhmkhpbnaaW.PrintWords Go.Proofs.YtgcjadhmkhpbnaaW.PrintLast Go.Proofs.YtgcjadhmkhpbnaaW.PrintMore
attribute [local go_sem] max2_int min2_int max_two min_two max_three min_three max_four min_four   -- for this text's walks alone
set_option linter.unusedVariables false
set_option linter.unusedSimpArgs false

/-! ### impl_responses: function 93 -/
def impl_responses.l0 : Nat → List (S56) → List Int → List Int → List Int → List Int → Int → Int → Option (List Int)
  | 0, _, _, _, _, _, _, _ => none
  | k + 1, x0, x1, x2, x7, x13, x14, x15 => if x15 < x14 then (if 0 ≤ x15 then (if x15 < (x13.length : Int) then (if x15 ≤ (x2.length : Int) then ((impl_response.f k x0 x1 (rd x13 x15) (x2.take (x15 : Int).toNat)).bind fun t594 => (if 0 ≤ (rd x13 x15) then (if (rd x13 x15) < (x7.length : Int) then (impl_responses.l0 k x0 x1 x2 (x7.set ((rd x13 x15) : Int).toNat t594) x13 x14 (wrap64 (x15 + 1))) else (none)) else (none))) else (none)) else (none)) else (none)) else (some x7)
def impl_responses.f (k : Nat) (l0 : List (S56)) (l1 : List Int) (l2 : List Int) : Option (List Int) := if 0 ≤ (l0.length : Int) then (if ((l0.length : Int) : Int).toNat ≤ 35184372088832 then (impl_responses.l0 k l0 l1 l2 (List.replicate ((l0.length : Int) : Int).toNat 0) l2 (l2.length : Int) 0) else (none)) else (none)
theorem impl_responses.mono_l : ∀ k, (∀ y0 y1 y2 y3 y4 y5 y6, LeO (impl_responses.l0 k y0 y1 y2 y3 y4 y5 y6) (impl_responses.l0 (k + 1) y0 y1 y2 y3 y4 y5 y6))
  | 0 => fun _ _ _ _ _ _ _ r h => by simp [impl_responses.l0] at h
  | k + 1 => by
    have ih0 := impl_responses.mono_l k
    · intro y0 y1 y2 y3 y4 y5 y6
      unfold impl_responses.l0
      repeat' first
      | (with_reducible exact ih0 _ _ _ _ _ _ _)
      | (with_reducible exact impl_response.mono _ _ _ _ _)
      | (with_reducible exact LeO.refl _)
      | (with_reducible exact LeO.none _)
      | (with_reducible refine LeO.ite ?_ ?_)
      | (with_reducible refine LeO.bind ?_ (fun _ => ?_))
      | exact ih0 _ _ _ _ _ _ _
      | exact impl_response.mono _ _ _ _ _
      | exact LeO.none _
      | refine LeO.ite ?_ ?_
      | refine LeO.bind ?_ (fun _ => ?_)
theorem impl_responses.mono : ∀ a0 a1 a2 k, LeO (impl_responses.f k a0 a1 a2) (impl_responses.f (k + 1) a0 a1 a2) := by
  intro a0 a1 a2 k
  have ih0 := impl_responses.mono_l k
  unfold impl_responses.f
  repeat' first
      | (with_reducible exact ih0 _ _ _ _ _ _ _)
      | (with_reducible exact impl_response.mono _ _ _ _ _)
      | (with_reducible exact LeO.refl _)
      | (with_reducible exact LeO.none _)
      | (with_reducible refine LeO.ite ?_ ?_)
      | (with_reducible refine LeO.bind ?_ (fun _ => ?_))
      | exact ih0 _ _ _ _ _ _ _
      | exact impl_response.mono _ _ _ _ _
      | exact LeO.none _
      | refine LeO.ite ?_ ?_
      | refine LeO.bind ?_ (fun _ => ?_)
set_option maxHeartbeats 8000000 in
set_option maxRecDepth 100000 in
theorem impl_responses.calls (k : Nat) (A0 : Option Addr) (c0 : Nat) (l0 : List (S56)) (A1 : Option Addr) (c1 : Nat) (l1 : List Int) (A2 : Option Addr) (c2 : Nat) (l2 : List Int) (r : List Int) (w : World) (hr0 : Kd.C k56 w A0 l0.length l0) (hc0 : l0.length ≤ c0) (hr1 : Kd.C (Kd.int .i64) w A1 l1.length l1) (hc1 : l1.length ≤ c1) (hr2 : Kd.C (Kd.int .i64) w A2 l2.length l2) (hc2 : l2.length ≤ c2) (h : impl_responses.f k l0 l1 l2 = some r) :
    Calls Try.prog 93 #[.slice A0 l0.length c0, .slice A1 l1.length c1, .slice A2 l2.length c2] w fun e w' => ∃ v0_ : Value, e = .returned (v0_) ∧ Kd.R (Kd.int .i64) 3 w' w.heap.size (fun _ => True) v0_ r ∧ Below w.heap.size w w' := by
  have HR0 := Aside0.mk hr0
  have HC0 := Aside0.mk hc0
  clear hr0 hc0
  have HR1 := Aside0.mk hr1
  have HC1 := Aside0.mk hc1
  clear hr1 hc1
  have HR2 := Aside0.mk hr2
  have HC2 := Aside0.mk hc2
  clear hr2 hc2
  have HB := Aside0.mk (Below.refl w.heap.size w)
  have H : (if 0 ≤ (l0.length : Int) then (if ((l0.length : Int) : Int).toNat ≤ 35184372088832 then (impl_responses.l0 k l0 l1 l2 (List.replicate ((l0.length : Int) : Int).toNat 0) l2 (l2.length : Int) 0) else (none)) else (none)) = some r := h
  clear h
  by_cases c4 : 0 ≤ (l0.length : Int)
  · rw [if_pos c4] at H
    have c4b0 := eq_true c4
    have c4b1 : decide (0 ≤ (l0.length : Int)) = true := decide_eq_true c4
    clear c4
    by_cases c5 : ((l0.length : Int) : Int).toNat ≤ 35184372088832
    · rw [if_pos c5] at H
      have c5b0 := eq_true c5
      have c5b1 : decide (((l0.length : Int) : Int).toNat ≤ 35184372088832) = true := decide_eq_true c5
      clear c5
      obtain ⟨y589, hy589⟩ : ∃ y_ : List Int, y_ = (List.replicate ((l0.length : Int) : Int).toNat 0) := ⟨_, rfl⟩
      replace H : (impl_responses.l0 k l0 l1 l2 y589 l2 (l2.length : Int) 0) = some r := by first | (rw [hy589]; with_reducible exact H) | (have H2_ := (Option.bind_some _ _).symm.trans H; rw [hy589]; with_reducible exact H2_) | (have H2_ := (Option.bind_some _ _).symm.trans H; with_reducible exact H2_) | with_reducible exact H | (rw [hy589]; exact H) | exact H
      have Ny589 := Aside0.mk hy589
      clear hy589
      have H' := Aside0.mk H
      clear H
      go_enter Try.func93, Try.ntmps93
      go_wp2_with (first | ((with_reducible refine gate_dst (N := 12) rfl ?_); refine Kd.R_make (Kd.int .i64) _ 3 rfl (N := 12) rfl 29 _ _ rfl (l0.length : Int) rfl rfl Try.underlying29 (.int .i64 0) 8 info3 rfl (by decide) (by omega) 0 (ok := fun _ => True) (okp := fun _ => True) rfl (fun _ hk => hk) trivial (of_decide_eq_true (by first | (with_reducible assumption) | assumption)) (Nat.le_trans (Nat.mul_le_mul_right _ (of_decide_eq_true (by first | (with_reducible assumption) | assumption) : (l0.length : Int).toNat ≤ 35184372088832)) (by omega)) (Below.refl _ _) (Nat.le_refl _) ?_; intro v590 w6 ho7 hb hg_ hnew_; clear hg_ hnew_; (first | rw [← Ny589.out] at ho7 | (simp only [Int.reduceToNat] at ho7; rw [← Ny589.out] at ho7)); have n0_ := Aside0.mk (Kd.R_lower ho7 (below_size (by repeat (first | (with_reducible first | exact HB.out | apply below_alloc | apply pw_below_drewN | apply below_drew1) | exact HB.out)))); have n1_ := Aside0.mk (below_step (by repeat (first | (with_reducible first | exact HB.out | apply below_alloc | apply pw_below_drewN | apply below_drew1) | exact HB.out)) hb); clear HB; have HO591 := n0_; have HB := n1_; clear n0_ n1_; clear hb ho7))
      go_loopg [15] k (fun kq v15 w' => ∃ (x7_1 : List Int) (x15_1 : Int), v15 = .int .i64 x15_1 ∧ Aside0 (impl_responses.l0 kq l0 l1 l2 x7_1 l2 (l2.length : Int) x15_1 = some r) ∧ Aside0 (kq ≤ k) ∧ Aside0 (Kd.R (Kd.int .i64) 3 w' w.heap.size (fun _ => True) v590 x7_1) ∧ Aside0 (Below w.heap.size w w'))
      case atStart => exact ⟨(y589), (0), (by first | rfl | (simp; done) | (simp [*]; done)), H', ⟨Nat.le_refl _⟩, ⟨by (with_reducible repeat (first | apply Kd.R_alloc | apply Kd.R_drewN | apply Kd.R_drew)); exact HO591.out⟩, ⟨by repeat (first | (with_reducible first | exact HB.out | apply below_alloc | apply pw_below_drewN | apply below_drew1) | exact HB.out)⟩⟩
      case round =>
        clear H'
        try clear c1
        try clear c2
        try clear p2
        try clear c4
        try clear c4b0
        try clear c4b1
        try clear c5
        try clear c5b0
        try clear c5b1
        obtain ⟨x7_1, x15_1, rfl, HA, HK1, HO_7, HB⟩ := hrel
        cases gk with
        | zero => exact absurd HA.out (by simp [impl_responses.l0])
        | succ k1 =>
          have H := HA.out
          clear HA
          simp only [impl_responses.l0] at H
          by_cases c8 : x15_1 < (l2.length : Int)
          · rw [if_pos c8] at H
            have c8b0 : decide (x15_1 < (l2.length : Int)) = true := decide_eq_true c8
            clear c8
            by_cases c9 : 0 ≤ x15_1
            · rw [if_pos c9] at H
              have c9b0 : decide (0 ≤ x15_1) = true := decide_eq_true c9
              clear c9
              by_cases c10 : x15_1 < (l2.length : Int)
              · rw [if_pos c10] at H
                have c10b0 : decide (x15_1 < (l2.length : Int)) = true := decide_eq_true c10
                clear c10
                have c11b0 := eq_true (of_decide_eq_true (by first | (with_reducible assumption) | assumption) : 0 ≤ x15_1)
                by_cases c12 : x15_1 ≤ (l2.length : Int)
                · rw [if_pos c12] at H
                  have c12b0 := eq_true c12
                  have c12b1 : decide (x15_1 ≤ (l2.length : Int)) = true := decide_eq_true c12
                  clear c12
                  replace H := Option.bind_eq_some_iff.mp H
                  obtain ⟨t594, A130, H⟩ := H
                  replace H : (if 0 ≤ (rd l2 x15_1) then (if (rd l2 x15_1) < (x7_1.length : Int) then (impl_responses.l0 k1 l0 l1 l2 (x7_1.set ((rd l2 x15_1) : Int).toNat t594) l2 (l2.length : Int) (wrap64 (x15_1 + 1))) else (none)) else (none)) = some r := H
                  have A13 := Aside0.mk A130
                  clear A130
                  by_cases c14 : 0 ≤ (rd l2 x15_1)
                  · rw [if_pos c14] at H
                    have c14b0 : decide (0 ≤ (rd l2 x15_1)) = true := decide_eq_true c14
                    clear c14
                    by_cases c15 : (rd l2 x15_1) < (x7_1.length : Int)
                    · rw [if_pos c15] at H
                      have c15b0 : decide ((rd l2 x15_1) < (x7_1.length : Int)) = true := decide_eq_true c15
                      clear c15
                      obtain ⟨y595, hy595⟩ : ∃ y_ : List Int, y_ = (x7_1.set ((rd l2 x15_1) : Int).toNat t594) := ⟨_, rfl⟩
                      replace H : (impl_responses.l0 k1 l0 l1 l2 y595 l2 (l2.length : Int) (wrap64 (x15_1 + 1))) = some r := by first | (rw [hy595]; with_reducible exact H) | (have H2_ := (Option.bind_some _ _).symm.trans H; rw [hy595]; with_reducible exact H2_) | (have H2_ := (Option.bind_some _ _).symm.trans H; with_reducible exact H2_) | with_reducible exact H | (rw [hy595]; exact H) | exact H
                      have Ny595 := Aside0.mk hy595
                      clear hy595
                      have H' := Aside0.mk H
                      clear H
                      have p592 : 0 ≤ (x15_1 : Int) := of_decide_eq_true (by first | (with_reducible assumption) | assumption)
                      have q592 : x15_1 < (l2.length : Int) := of_decide_eq_true (by first | (with_reducible assumption) | assumption)
                      obtain ⟨ad592, e592, hx592_0⟩ := Kd.at_int HR2.out x15_1 p592 q592
                      cases e592
                      replace hx592_0 := (HB.out.cell (World.block_lt_of_cell? w _ hx592_0)).trans hx592_0
                      replace p592 := eq_true p592
                      replace q592 := eq_true q592
                      obtain ⟨i017, hi017, _, hsz17, _⟩ := info_parts info3
                      obtain ⟨hcut17, hA17, hC17⟩ := print_take_of (P := Try.prog) (Value.int .i64) 0 29 3 .i64 Try.underlying29 hi017 hsz17 (some ad592) c2 l2 x15_1 (of_decide_eq_true (by first | (with_reducible assumption) | assumption)) (of_decide_eq_true (by first | (with_reducible assumption) | assumption)) HC2.out
                      have HR593 := Aside0.mk (Kd.C_of_reads (h1 := fun _ => rfl) (hA17 _ (Kd.reads_of_C HR2.out)))
                      have HC593 := Aside0.mk hC17
                      clear hA17 hC17 hi017 hsz17
                      go_wp2_with (first | ((with_reducible refine gate_callee (f := 91) rfl ?_); refine goesL_ (some 28) rfl rfl Try.func91 (by kernel_rfl) rfl #[.slice A0 l0.length c0, .slice A1 l1.length c1, .int .i64 (rd l2 x15_1), .slice (some ad592) (l2.take (x15_1 : Int).toNat).length c2] rfl (by (try simp only [List.map_toArray, List.map_cons, List.map_nil]); first | done | (rw [show (l2.take (x15_1 : Int).toNat).length = x15_1.toNat from (by rw [List.length_take]; have h_ : (x15_1 : Int) ≤ (l2.length : Int) := of_decide_eq_true (by first | (with_reducible assumption) | assumption); omega)] <;> rfl) | rfl | (simp only [List.length_drop, List.length_take]; rfl)) ?_; (with_reducible refine (impl_response.calls k1 _ _ l0 _ _ l1 (rd l2 x15_1) _ _ (l2.take (x15_1 : Int).toNat) t594 _ ?side1 ?side2 ?side3 ?side4 ?side5 ?side6 A13.out).mono ?_); (case side1 => repeat (first | exact (Kd.C_below HR0.out HB.out) | (with_reducible refine Kd.C_alloc ?_ _) | (with_reducible refine Kd.C_drewN ?_ _) | (with_reducible refine Kd.C_drew ?_))); (case side2 => exact HC0.out); (case side3 => repeat (first | exact (Kd.C_below HR1.out HB.out) | (with_reducible refine Kd.C_alloc ?_ _) | (with_reducible refine Kd.C_drewN ?_ _) | (with_reducible refine Kd.C_drew ?_))); (case side4 => exact HC1.out); (case side5 => repeat (first | exact (Kd.C_below HR593.out HB.out) | (with_reducible refine Kd.C_alloc ?_ _) | (with_reducible refine Kd.C_drewN ?_ _) | (with_reducible refine Kd.C_drew ?_))); (case side6 => exact HC593.out); rintro e w' ⟨rfl, ⟨nd, rfl⟩⟩; refine ⟨_, rfl, ?_⟩; (try (rw [drewN_self wr]; generalize hq_ : World.drewN wr _ = wr; have n0_ : Aside0 (Kd.R (Kd.int .i64) 3 wr w.heap.size (fun _ => True) v590 x7_1) := ⟨by rw [← hq_]; exact (by (with_reducible repeat (first | apply Kd.R_alloc | apply Kd.R_drewN | apply Kd.R_drew)); exact HO_7.out)⟩; have n1_ : Aside0 (Below w.heap.size w wr) := ⟨by rw [← hq_]; exact (by repeat (first | (with_reducible first | exact HB.out | apply below_alloc | apply pw_below_drewN | apply below_drew1) | exact HB.out))⟩; clear HO_7 HB hq_; have HO_7 := n0_; have HB := n1_; clear n0_ n1_)); have p16 : 0 ≤ ((rd l2 x15_1) : Int) := of_decide_eq_true (by first | (with_reducible assumption) | assumption); have q16 : ((rd l2 x15_1) : Int) < ((x7_1.length : Int) : Int) := of_decide_eq_true (by first | (with_reducible assumption) | assumption); obtain ⟨go16, co16, eo16, gb16, gl16, cl16, HG16⟩ := Kd.R_form HO_7.out (by omega); (first | cases eo16 | (injection eo16 with ea_ en_ ec_; (first | subst ea_ | (injection ea_ with ea_; subst ea_)); subst ec_; clear en_)); have GB16 := Aside0.mk gb16; have GG16 := Aside0.mk HG16; clear gb16 gl16 HG16; obtain ⟨hx16_0, hf16_0⟩ := Kd.R_celln 0 HO_7.out ((rd l2 x15_1) : Int) p16 q16; replace p16 := eq_true p16; replace q16 := eq_true q16; obtain ⟨hy18_, hz18_⟩ := Kd.R_celln 0 HO_7.out ((rd l2 x15_1) : Int) (of_decide_eq_true (by first | (with_reducible assumption) | assumption)) (of_decide_eq_true (by first | (with_reducible assumption) | assumption)); have HP18 := Kd.R_putg HO_7.out ((rd l2 x15_1) : Int) t594) | ((with_reducible refine gate_store (t := 3) (p := 29) rfl ?_); refine store_event (t := 3) (p := 29) (v := ?vo_w19) (w1 := (wr.setCell ⟨go16, ((rd l2 x15_1) : Int).toNat, none⟩ (.int .i64 t594))) ?hg ?ho ?hn ?hr ?_; (case ho => rfl); (case hg => rfl); (case hn => rfl); (case hr => first | (go_simp; done) | (go_simp; rfl)); intro w19 hw; have hg : wr.grownBy w19 (some go16) := (by rw [hw]; exact HP18.2); have hp_ : Kd.R (Kd.int .i64) 3 w19 w.heap.size (fun _ => True) (.slice (some ⟨go16, 0, none⟩) x7_1.length co16) y595 := (by rw [hw, Ny595.out]; exact HP18.1); clear HP18; have n0_ := Aside0.mk (hp_); have n1_ := Aside0.mk ((by rw [hw]; exact below_set (HB.out) GB16.out : Below w.heap.size w w19)); clear HO_7; clear HB; have HO_7 := n0_; have HB := n1_; clear n0_ n1_; clear hg hw hp_))
                      go_roundg k1
                      case measure => have := HK1.out; omega
                      case rel => exact ⟨(y595), (wrap64 (x15_1 + 1)), (by first | rfl | (simp; done) | (simp [*]; done)), H', ⟨by have := HK1.out; omega⟩, ⟨by (with_reducible repeat (first | apply Kd.R_alloc | apply Kd.R_drewN | apply Kd.R_drew)); exact HO_7.out⟩, ⟨by repeat (first | (with_reducible first | exact HB.out | apply below_alloc | apply pw_below_drewN | apply below_drew1) | exact HB.out)⟩⟩
                    · rw [if_neg c15] at H
                      exact absurd H (by simp)
                  · rw [if_neg c14] at H
                    exact absurd H (by simp)
                · rw [if_neg c12] at H
                  exact absurd H (by simp)
              · rw [if_neg c10] at H
                exact absurd H (by simp)
            · rw [if_neg c9] at H
              exact absurd H (by simp)
          · rw [if_neg c8] at H
            have c8b0 : decide (x15_1 < (l2.length : Int)) = false := decide_eq_false c8
            clear c8
            obtain rfl := Option.some.inj H
            go_wp2
            go_ret
            exact ⟨_, by first | rfl | (simp [errW_none, errW_some] <;> rfl) | (simp [*, errW_none, errW_some] <;> rfl), by (with_reducible repeat (first | apply Kd.R_alloc | apply Kd.R_drewN | apply Kd.R_drew)); exact HO_7.out, by repeat (first | (with_reducible first | exact HB.out | apply below_alloc | apply pw_below_drewN | apply below_drew1) | exact HB.out)⟩
    · rw [if_neg c5] at H
      exact absurd H (by simp)
  · rw [if_neg c4] at H
    exact absurd H (by simp)

end Go.Proofs.Ytgcjadhmkhpbnaa.P
-- Laid by a program of this work.
namespace Go.Proofs.Ytgcjadhmkhpbnaa.P
open Go.RowKit Go.Proofs.YtgcjadhmkhpbnaaW.PrintWords Go.Proofs.YtgcjadhmkhpbnaaW.PrintLast Go.Proofs.YtgcjadhmkhpbnaaW.PrintMore
attribute [local go_sem] max2_int min2_int max_two min_two max_three min_three max_four min_four   -- for this text's walks alone
set_option linter.unusedVariables false
set_option linter.unusedSimpArgs false

/-! ### impl_ResponseTimes: function 48 -/
def impl_ResponseTimes.f (k : Nat) (l0 : List (S56)) (l1 : List Int) : Option (List Int) := (impl_OrderValid.f k l0 l1).bind fun t596 => (if t596 = true then (if 0 ≤ (l0.length : Int) then (if ((l0.length : Int) : Int).toNat ≤ 35184372088832 then ((impl_responses.f k l0 (List.replicate ((l0.length : Int) : Int).toNat 0) l1).bind fun t600 => (some t600)) else (none)) else (none)) else (some ([] : List Int)))
theorem impl_ResponseTimes.mono : ∀ a0 a1 k, LeO (impl_ResponseTimes.f k a0 a1) (impl_ResponseTimes.f (k + 1) a0 a1) := by
  intro a0 a1 k
  unfold impl_ResponseTimes.f
  repeat' first
      | (with_reducible exact impl_OrderValid.mono _ _ _)
      | (with_reducible exact impl_responses.mono _ _ _ _)
      | (with_reducible exact LeO.refl _)
      | (with_reducible exact LeO.none _)
      | (with_reducible refine LeO.ite ?_ ?_)
      | (with_reducible refine LeO.bind ?_ (fun _ => ?_))
      | exact impl_OrderValid.mono _ _ _
      | exact impl_responses.mono _ _ _ _
      | exact LeO.none _
      | refine LeO.ite ?_ ?_
      | refine LeO.bind ?_ (fun _ => ?_)
set_option maxHeartbeats 8000000 in
set_option maxRecDepth 100000 in
theorem impl_ResponseTimes.calls (k : Nat) (A0 : Option Addr) (c0 : Nat) (l0 : List (S56)) (A1 : Option Addr) (c1 : Nat) (l1 : List Int) (r : List Int) (w : World) (hr0 : Kd.C k56 w A0 l0.length l0) (hc0 : l0.length ≤ c0) (hr1 : Kd.C (Kd.int .i64) w A1 l1.length l1) (hc1 : l1.length ≤ c1) (h : impl_ResponseTimes.f k l0 l1 = some r) :
    Calls Try.prog 48 #[.slice A0 l0.length c0, .slice A1 l1.length c1] w fun e w' => ∃ v0_ : Value, e = .returned (v0_) ∧ Kd.R (Kd.int .i64) 3 w' w.heap.size (fun _ => True) v0_ r ∧ Below w.heap.size w w' := by
  have HR0 := Aside0.mk hr0
  have HC0 := Aside0.mk hc0
  clear hr0 hc0
  have HR1 := Aside0.mk hr1
  have HC1 := Aside0.mk hc1
  clear hr1 hc1
  have HB := Aside0.mk (Below.refl w.heap.size w)
  have H : ((impl_OrderValid.f k l0 l1).bind fun t596 => (if t596 = true then (if 0 ≤ (l0.length : Int) then (if ((l0.length : Int) : Int).toNat ≤ 35184372088832 then ((impl_responses.f k l0 (List.replicate ((l0.length : Int) : Int).toNat 0) l1).bind fun t600 => (some t600)) else (none)) else (none)) else (some ([] : List Int)))) = some r := h
  clear h
  replace H := Option.bind_eq_some_iff.mp H
  obtain ⟨t596, A30, H⟩ := H
  replace H : (if t596 = true then (if 0 ≤ (l0.length : Int) then (if ((l0.length : Int) : Int).toNat ≤ 35184372088832 then ((impl_responses.f k l0 (List.replicate ((l0.length : Int) : Int).toNat 0) l1).bind fun t600 => (some t600)) else (none)) else (none)) else (some ([] : List Int))) = some r := H
  have A3 := Aside0.mk A30
  clear A30
  by_cases c4 : t596 = true
  · subst c4
    have H1 : (if 0 ≤ (l0.length : Int) then (if ((l0.length : Int) : Int).toNat ≤ 35184372088832 then ((impl_responses.f k l0 (List.replicate ((l0.length : Int) : Int).toNat 0) l1).bind fun t600 => (some t600)) else (none)) else (none)) = some r := by rw [if_pos rfl] at H; exact H
    clear H
    have H := H1
    clear H1
    by_cases c5 : 0 ≤ (l0.length : Int)
    · rw [if_pos c5] at H
      have c5b0 := eq_true c5
      have c5b1 : decide (0 ≤ (l0.length : Int)) = true := decide_eq_true c5
      clear c5
      by_cases c6 : ((l0.length : Int) : Int).toNat ≤ 35184372088832
      · rw [if_pos c6] at H
        have c6b0 := eq_true c6
        have c6b1 : decide (((l0.length : Int) : Int).toNat ≤ 35184372088832) = true := decide_eq_true c6
        clear c6
        obtain ⟨y597, hy597⟩ : ∃ y_ : List Int, y_ = (List.replicate ((l0.length : Int) : Int).toNat 0) := ⟨_, rfl⟩
        replace H : ((impl_responses.f k l0 y597 l1).bind fun t600 => (some t600)) = some r := by first | (rw [hy597]; with_reducible exact H) | (have H2_ := (Option.bind_some _ _).symm.trans H; rw [hy597]; with_reducible exact H2_) | (have H2_ := (Option.bind_some _ _).symm.trans H; with_reducible exact H2_) | with_reducible exact H | (rw [hy597]; exact H) | exact H
        have Ny597 := Aside0.mk hy597
        clear hy597
        replace H := Option.bind_eq_some_iff.mp H
        obtain ⟨t600, A70, H⟩ := H
        replace H : (some t600) = some r := H
        have A7 := Aside0.mk A70
        clear A70
        obtain rfl := Option.some.inj H
        go_enter Try.func48, Try.ntmps48
        go_wp2_with (first | ((with_reducible refine gate_callee (f := 57) rfl ?_); refine goesL_ (some 7) rfl rfl Try.func57 (by kernel_rfl) rfl #[.slice A0 l0.length c0, .slice A1 l1.length c1] rfl (by (try simp only [List.map_toArray, List.map_cons, List.map_nil]); first | done | rfl | (simp only [List.length_drop, List.length_take]; rfl)) ?_; (with_reducible refine (impl_OrderValid.calls k _ _ l0 _ _ l1 true _ ?side1 ?side2 ?side3 ?side4 A3.out).mono ?_); (case side1 => repeat (first | exact HR0.out | (with_reducible refine Kd.C_alloc ?_ _) | (with_reducible refine Kd.C_drewN ?_ _) | (with_reducible refine Kd.C_drew ?_))); (case side2 => exact HC0.out); (case side3 => repeat (first | exact HR1.out | (with_reducible refine Kd.C_alloc ?_ _) | (with_reducible refine Kd.C_drewN ?_ _) | (with_reducible refine Kd.C_drew ?_))); (case side4 => exact HC1.out); rintro e w8 ⟨rfl, hb⟩; refine ⟨_, rfl, ?_⟩; have n0_ := Aside0.mk (below_step (by repeat (first | (with_reducible first | exact HB.out | apply below_alloc | apply pw_below_drewN | apply below_drew1) | exact HB.out)) hb); clear HB; have HB := n0_; clear n0_; (try clear hb); (try clear hb2); (try clear hk); (try clear hi)) | ((with_reducible refine gate_dst (N := 12) rfl ?_); refine Kd.R_make (Kd.int .i64) _ 3 rfl (N := 12) rfl 29 _ _ rfl (l0.length : Int) rfl rfl Try.underlying29 (.int .i64 0) 8 info3 rfl (by decide) (by omega) 0 (ok := fun _ => True) (okp := fun _ => True) rfl (fun _ hk => hk) trivial (of_decide_eq_true (by first | (with_reducible assumption) | assumption)) (Nat.le_trans (Nat.mul_le_mul_right _ (of_decide_eq_true (by first | (with_reducible assumption) | assumption) : (l0.length : Int).toNat ≤ 35184372088832)) (by omega)) (Below.refl _ _) (Nat.le_refl _) ?_; intro v598 w9 ho10 hb hg_ hnew_; clear hg_ hnew_; (first | rw [← Ny597.out] at ho10 | (simp only [Int.reduceToNat] at ho10; rw [← Ny597.out] at ho10)); have n0_ := Aside0.mk (Kd.R_lower ho10 (below_size (by repeat (first | (with_reducible first | exact HB.out | apply below_alloc | apply pw_below_drewN | apply below_drew1) | exact HB.out)))); have n1_ := Aside0.mk (below_step (by repeat (first | (with_reducible first | exact HB.out | apply below_alloc | apply pw_below_drewN | apply below_drew1) | exact HB.out)) hb); clear HB; have HO599 := n0_; have HB := n1_; clear n0_ n1_; clear hb ho10; obtain ⟨Ao11, co11, eo11⟩ := Kd.R_slice HO599.out; subst eo11) | ((with_reducible refine gate_callee (f := 93) rfl ?_); refine goesL_ (some 14) rfl rfl Try.func93 (by kernel_rfl) rfl #[.slice A0 l0.length c0, .slice Ao11 y597.length co11, .slice A1 l1.length c1] rfl (by (try simp only [List.map_toArray, List.map_cons, List.map_nil]); first | done | rfl | (simp only [List.length_drop, List.length_take]; rfl)) ?_; (with_reducible refine (impl_responses.calls k _ _ l0 _ _ y597 _ _ l1 t600 _ ?side1 ?side2 ?side3 ?side4 ?side5 ?side6 A7.out).mono ?_); (case side1 => repeat (first | exact (Kd.C_below HR0.out HB.out) | (with_reducible refine Kd.C_alloc ?_ _) | (with_reducible refine Kd.C_drewN ?_ _) | (with_reducible refine Kd.C_drew ?_))); (case side2 => exact HC0.out); (case side3 => repeat (first | exact (Kd.R_reads' HO599.out).2.2 | (with_reducible refine Kd.C_alloc ?_ _) | (with_reducible refine Kd.C_drewN ?_ _) | (with_reducible refine Kd.C_drew ?_))); (case side4 => exact (Kd.R_reads' HO599.out).2.1); (case side5 => repeat (first | exact (Kd.C_below HR1.out HB.out) | (with_reducible refine Kd.C_alloc ?_ _) | (with_reducible refine Kd.C_drewN ?_ _) | (with_reducible refine Kd.C_drew ?_))); (case side6 => exact HC1.out); rintro e w12 ⟨v601, rfl, ho0, hb⟩; refine ⟨_, rfl, ?_⟩; have n0_ := Aside0.mk (Kd.R_elder' (by (with_reducible repeat (first | apply Kd.R_alloc | apply Kd.R_drewN | apply Kd.R_drew)); exact HO599.out) (Kd.R_base ho0) hb); have n1_ := Aside0.mk (Kd.R_lower (Kd.R_new' ho0 (Kd.R_lt (by (with_reducible repeat (first | apply Kd.R_alloc | apply Kd.R_drewN | apply Kd.R_drew)); exact HO599.out))) (below_size (by repeat (first | (with_reducible first | exact HB.out | apply below_alloc | apply pw_below_drewN | apply below_drew1) | exact HB.out)))); have n2_ := Aside0.mk (below_step (by repeat (first | (with_reducible first | exact HB.out | apply below_alloc | apply pw_below_drewN | apply below_drew1) | exact HB.out)) hb); clear HO599; clear HB; have HO599 := n0_; have HO602 := n1_; have HB := n2_; clear n0_ n1_ n2_; (try clear hb); (try clear hb2); (try clear hk); (try clear hi); (try clear ho0)))
        go_ret
        exact ⟨_, by first | rfl | (simp [errW_none, errW_some] <;> rfl) | (simp [*, errW_none, errW_some] <;> rfl), by (with_reducible repeat (first | apply Kd.R_alloc | apply Kd.R_drewN | apply Kd.R_drew)); exact Kd.R_mono HO602.out (fun _ hk => trivial), by repeat (first | (with_reducible first | exact HB.out | apply below_alloc | apply pw_below_drewN | apply below_drew1) | exact HB.out)⟩
      · rw [if_neg c6] at H
        exact absurd H (by simp)
    · rw [if_neg c5] at H
      exact absurd H (by simp)
  · replace c4 := Bool.eq_false_iff.mpr c4
    subst c4
    have H1 : (some ([] : List Int)) = some r := by rw [if_neg (show ¬ (false = true) by decide)] at H; exact H
    clear H
    have H := H1
    clear H1
    obtain rfl := Option.some.inj H
    go_enter Try.func48, Try.ntmps48
    go_wp2_with (first | ((with_reducible refine gate_callee (f := 57) rfl ?_); refine goesL_ (some 7) rfl rfl Try.func57 (by kernel_rfl) rfl #[.slice A0 l0.length c0, .slice A1 l1.length c1] rfl (by (try simp only [List.map_toArray, List.map_cons, List.map_nil]); first | done | rfl | (simp only [List.length_drop, List.length_take]; rfl)) ?_; (with_reducible refine (impl_OrderValid.calls k _ _ l0 _ _ l1 false _ ?side1 ?side2 ?side3 ?side4 A3.out).mono ?_); (case side1 => repeat (first | exact HR0.out | (with_reducible refine Kd.C_alloc ?_ _) | (with_reducible refine Kd.C_drewN ?_ _) | (with_reducible refine Kd.C_drew ?_))); (case side2 => exact HC0.out); (case side3 => repeat (first | exact HR1.out | (with_reducible refine Kd.C_alloc ?_ _) | (with_reducible refine Kd.C_drewN ?_ _) | (with_reducible refine Kd.C_drew ?_))); (case side4 => exact HC1.out); rintro e w13 ⟨rfl, hb⟩; refine ⟨_, rfl, ?_⟩; have n0_ := Aside0.mk (below_step (by repeat (first | (with_reducible first | exact HB.out | apply below_alloc | apply pw_below_drewN | apply below_drew1) | exact HB.out)) hb); clear HB; have HB := n0_; clear n0_; (try clear hb); (try clear hb2); (try clear hk); (try clear hi)))
    go_ret
    exact ⟨_, by first | rfl | (simp [errW_none, errW_some] <;> rfl) | (simp [*, errW_none, errW_some] <;> rfl), by first | exact Kd.R_nil _ _ _ _ _ | exact Kd.N_nil _ _ _ _ _ | exact Kd.V_nil _ _ _ _ _ | exact Kd.Q_nil _ _ _ _ _ | exact Kd.S_nil _ _ _ _ _, by repeat (first | (with_reducible first | exact HB.out | apply below_alloc | apply pw_below_drewN | apply below_drew1) | exact HB.out)⟩

end Go.Proofs.Ytgcjadhmkhpbnaa.P
-- Laid by a program of this work.
namespace Go.Proofs.Ytgcjadhmkhpbnaa.P
open Go.RowKit Go.Proofs.YtgcjadhmkhpbnaaW.PrintWords Go.Proofs.YtgcjadhmkhpbnaaW.PrintLast Go.Proofs.YtgcjadhmkhpbnaaW.PrintMore
attribute [local go_sem] max2_int min2_int max_two min_two max_three min_three max_four min_four   -- for this text's walks alone
set_option linter.unusedVariables false
set_option linter.unusedSimpArgs false

/-! ### slices_Contains_int_int: function 81 -/
def slices_Contains_int_int.f (k : Nat) (l0 : List Int) (a1 : Int) : Option (Bool) := (slices_Index_int_int.f k l0 a1).bind fun t603 => (some (decide (t603 ≥ 0)))
theorem slices_Contains_int_int.mono : ∀ a0 a1 k, LeO (slices_Contains_int_int.f k a0 a1) (slices_Contains_int_int.f (k + 1) a0 a1) := by
  intro a0 a1 k
  unfold slices_Contains_int_int.f
  repeat' first
      | (with_reducible exact slices_Index_int_int.mono _ _ _)
      | (with_reducible exact LeO.refl _)
      | (with_reducible exact LeO.none _)
      | (with_reducible refine LeO.ite ?_ ?_)
      | (with_reducible refine LeO.bind ?_ (fun _ => ?_))
      | exact slices_Index_int_int.mono _ _ _
      | exact LeO.none _
      | refine LeO.ite ?_ ?_
      | refine LeO.bind ?_ (fun _ => ?_)
set_option maxHeartbeats 8000000 in
set_option maxRecDepth 100000 in
theorem slices_Contains_int_int.calls (k : Nat) (A0 : Option Addr) (c0 : Nat) (l0 : List Int) (a1 : Int) (r : Bool) (w : World) (hr0 : Kd.C (Kd.int .i64) w A0 l0.length l0) (hc0 : l0.length ≤ c0) (h : slices_Contains_int_int.f k l0 a1 = some r) :
    Calls Try.prog 81 #[.slice A0 l0.length c0, .int .i64 a1] w fun e w' => e = .returned (.bool r) ∧ Drawn0 w w' := by
  have HR0 := Aside0.mk hr0
  have HC0 := Aside0.mk hc0
  clear hr0 hc0
  have H : ((slices_Index_int_int.f k l0 a1).bind fun t603 => (some (decide (t603 ≥ 0)))) = some r := h
  clear h
  replace H := Option.bind_eq_some_iff.mp H
  obtain ⟨t603, A30, H⟩ := H
  replace H : (some (decide (t603 ≥ 0))) = some r := H
  have A3 := Aside0.mk A30
  clear A30
  obtain rfl := Option.some.inj H
  go_enter Try.func81, Try.ntmps81
  go_wp2_with (first | ((with_reducible refine gate_callee (f := 98) rfl ?_); refine goesL_ (some 7) rfl rfl Try.func98 (by kernel_rfl) rfl #[.slice A0 l0.length c0, .int .i64 a1] rfl (by (try simp only [List.map_toArray, List.map_cons, List.map_nil]); first | done | rfl | (simp only [List.length_drop, List.length_take]; rfl)) ?_; (with_reducible refine (slices_Index_int_int.calls k _ _ l0 a1 t603 _ ?side1 ?side2 A3.out).mono ?_); (case side1 => repeat (first | exact HR0.out | (with_reducible refine Kd.C_alloc ?_ _) | (with_reducible refine Kd.C_drewN ?_ _) | (with_reducible refine Kd.C_drew ?_))); (case side2 => exact HC0.out); rintro e w' ⟨rfl, ⟨nd, rfl⟩⟩; refine ⟨_, rfl, ?_⟩))
  go_ret
  exact ⟨by first | rfl | (simp; done) | (simp [*]; done), by repeat (first | exact Drawn0.refl _ | apply Drawn0.step)⟩

end Go.Proofs.Ytgcjadhmkhpbnaa.P
-- Laid by a program of this work.
namespace Go.Proofs.Ytgcjadhmkhpbnaa.P
open Go.RowKit Go.Proofs.YtgcjadhmkhpbnaaW.PrintWords Go.Proofs.YtgcjadhmkhpbnaaW.PrintLast Go.Proofs.YtgcjadhmkhpbnaaW.PrintMore
attribute [local go_sem] max2_int min2_int max_two min_two max_three min_three max_four min_four   -- for this text's walks alone
set_option linter.unusedVariables false
set_option linter.unusedSimpArgs false

/-! ### impl_FixedFeasible: function 42 -/
def impl_FixedFeasible.f (k : Nat) (l0 : List (S56)) (l1 : List Int) : Option (Bool) := (impl_OrderValid.f k l0 l1).bind fun t604 => (if t604 = true then ((impl_ResponseTimes.f k l0 l1).bind fun t605 => ((slices_Contains_int_int.f k t605 (-1)).bind fun t608 => (some (!t608)))) else (some false))
theorem impl_FixedFeasible.mono : ∀ a0 a1 k, LeO (impl_FixedFeasible.f k a0 a1) (impl_FixedFeasible.f (k + 1) a0 a1) := by
  intro a0 a1 k
  unfold impl_FixedFeasible.f
  repeat' first
      | (with_reducible exact impl_OrderValid.mono _ _ _)
      | (with_reducible exact impl_ResponseTimes.mono _ _ _)
      | (with_reducible exact slices_Contains_int_int.mono _ _ _)
      | (with_reducible exact LeO.refl _)
      | (with_reducible exact LeO.none _)
      | (with_reducible refine LeO.ite ?_ ?_)
      | (with_reducible refine LeO.bind ?_ (fun _ => ?_))
      | exact impl_OrderValid.mono _ _ _
      | exact impl_ResponseTimes.mono _ _ _
      | exact slices_Contains_int_int.mono _ _ _
      | exact LeO.none _
      | refine LeO.ite ?_ ?_
      | refine LeO.bind ?_ (fun _ => ?_)
set_option maxHeartbeats 8000000 in
set_option maxRecDepth 100000 in
theorem impl_FixedFeasible.calls (k : Nat) (A0 : Option Addr) (c0 : Nat) (l0 : List (S56)) (A1 : Option Addr) (c1 : Nat) (l1 : List Int) (r : Bool) (w : World) (hr0 : Kd.C k56 w A0 l0.length l0) (hc0 : l0.length ≤ c0) (hr1 : Kd.C (Kd.int .i64) w A1 l1.length l1) (hc1 : l1.length ≤ c1) (h : impl_FixedFeasible.f k l0 l1 = some r) :
    Calls Try.prog 42 #[.slice A0 l0.length c0, .slice A1 l1.length c1] w fun e w' => e = .returned (.bool r) ∧ Below w.heap.size w w' := by
  have HR0 := Aside0.mk hr0
  have HC0 := Aside0.mk hc0
  clear hr0 hc0
  have HR1 := Aside0.mk hr1
  have HC1 := Aside0.mk hc1
  clear hr1 hc1
  have HB := Aside0.mk (Below.refl w.heap.size w)
  have H : ((impl_OrderValid.f k l0 l1).bind fun t604 => (if t604 = true then ((impl_ResponseTimes.f k l0 l1).bind fun t605 => ((slices_Contains_int_int.f k t605 (-1)).bind fun t608 => (some (!t608)))) else (some false))) = some r := h
  clear h
  replace H := Option.bind_eq_some_iff.mp H
  obtain ⟨t604, A30, H⟩ := H
  replace H : (if t604 = true then ((impl_ResponseTimes.f k l0 l1).bind fun t605 => ((slices_Contains_int_int.f k t605 (-1)).bind fun t608 => (some (!t608)))) else (some false)) = some r := H
  have A3 := Aside0.mk A30
  clear A30
  by_cases c4 : t604 = true
  · subst c4
    have H1 : ((impl_ResponseTimes.f k l0 l1).bind fun t605 => ((slices_Contains_int_int.f k t605 (-1)).bind fun t608 => (some (!t608)))) = some r := by rw [if_pos rfl] at H; exact H
    clear H
    have H := H1
    clear H1
    replace H := Option.bind_eq_some_iff.mp H
    obtain ⟨t605, A50, H⟩ := H
    replace H : ((slices_Contains_int_int.f k t605 (-1)).bind fun t608 => (some (!t608))) = some r := H
    have A5 := Aside0.mk A50
    clear A50
    replace H := Option.bind_eq_some_iff.mp H
    obtain ⟨t608, A60, H⟩ := H
    replace H : (some (!t608)) = some r := H
    have A6 := Aside0.mk A60
    clear A60
    obtain rfl := Option.some.inj H
    go_enter Try.func42, Try.ntmps42
    go_wp2_with (first | ((with_reducible refine gate_callee (f := 57) rfl ?_); refine goesL_ (some 7) rfl rfl Try.func57 (by kernel_rfl) rfl #[.slice A0 l0.length c0, .slice A1 l1.length c1] rfl (by (try simp only [List.map_toArray, List.map_cons, List.map_nil]); first | done | rfl | (simp only [List.length_drop, List.length_take]; rfl)) ?_; (with_reducible refine (impl_OrderValid.calls k _ _ l0 _ _ l1 true _ ?side1 ?side2 ?side3 ?side4 A3.out).mono ?_); (case side1 => repeat (first | exact HR0.out | (with_reducible refine Kd.C_alloc ?_ _) | (with_reducible refine Kd.C_drewN ?_ _) | (with_reducible refine Kd.C_drew ?_))); (case side2 => exact HC0.out); (case side3 => repeat (first | exact HR1.out | (with_reducible refine Kd.C_alloc ?_ _) | (with_reducible refine Kd.C_drewN ?_ _) | (with_reducible refine Kd.C_drew ?_))); (case side4 => exact HC1.out); rintro e w7 ⟨rfl, hb⟩; refine ⟨_, rfl, ?_⟩; have n0_ := Aside0.mk (below_step (by repeat (first | (with_reducible first | exact HB.out | apply below_alloc | apply pw_below_drewN | apply below_drew1) | exact HB.out)) hb); clear HB; have HB := n0_; clear n0_; (try clear hb); (try clear hb2); (try clear hk); (try clear hi)) | (go_at_call 48; (with_reducible refine (impl_ResponseTimes.calls k _ _ l0 _ _ l1 t605 _ ?side1 ?side2 ?side3 ?side4 A5.out).mono ?_); (case side1 => repeat (first | exact (Kd.C_below HR0.out HB.out) | (with_reducible refine Kd.C_alloc ?_ _) | (with_reducible refine Kd.C_drewN ?_ _) | (with_reducible refine Kd.C_drew ?_))); (case side2 => exact HC0.out); (case side3 => repeat (first | exact (Kd.C_below HR1.out HB.out) | (with_reducible refine Kd.C_alloc ?_ _) | (with_reducible refine Kd.C_drewN ?_ _) | (with_reducible refine Kd.C_drew ?_))); (case side4 => exact HC1.out); rintro e w8 ⟨v606, rfl, ho0, hb⟩; have n0_ := Aside0.mk (Kd.R_lower ho0 (below_size (by repeat (first | (with_reducible first | exact HB.out | apply below_alloc | apply pw_below_drewN | apply below_drew1) | exact HB.out)))); have n1_ := Aside0.mk (below_step (by repeat (first | (with_reducible first | exact HB.out | apply below_alloc | apply pw_below_drewN | apply below_drew1) | exact HB.out)) hb); clear HB; have HO607 := n0_; have HB := n1_; clear n0_ n1_; (try clear hb); (try clear hb2); (try clear hk); (try clear hi); (try clear ho0); obtain ⟨Ao9, co9, eo9⟩ := Kd.R_slice HO607.out; subst eo9) | (go_at_call 81; (with_reducible refine (slices_Contains_int_int.calls k _ _ t605 (-1) t608 _ ?side1 ?side2 A6.out).mono ?_); (case side1 => repeat (first | exact (Kd.R_reads' HO607.out).2.2 | (with_reducible refine Kd.C_alloc ?_ _) | (with_reducible refine Kd.C_drewN ?_ _) | (with_reducible refine Kd.C_drew ?_))); (case side2 => exact (Kd.R_reads' HO607.out).2.1); rintro e w' ⟨rfl, ⟨nd, rfl⟩⟩))
    go_ret
    exact ⟨by first | rfl | (simp [errW_none, errW_some] <;> rfl) | (simp [*, errW_none, errW_some] <;> rfl), by repeat (first | (with_reducible first | exact HB.out | apply below_alloc | apply pw_below_drewN | apply below_drew1) | exact HB.out)⟩
  · replace c4 := Bool.eq_false_iff.mpr c4
    subst c4
    have H1 : (some false) = some r := by rw [if_neg (show ¬ (false = true) by decide)] at H; exact H
    clear H
    have H := H1
    clear H1
    obtain rfl := Option.some.inj H
    go_enter Try.func42, Try.ntmps42
    go_wp2_with (first | ((with_reducible refine gate_callee (f := 57) rfl ?_); refine goesL_ (some 7) rfl rfl Try.func57 (by kernel_rfl) rfl #[.slice A0 l0.length c0, .slice A1 l1.length c1] rfl (by (try simp only [List.map_toArray, List.map_cons, List.map_nil]); first | done | rfl | (simp only [List.length_drop, List.length_take]; rfl)) ?_; (with_reducible refine (impl_OrderValid.calls k _ _ l0 _ _ l1 false _ ?side1 ?side2 ?side3 ?side4 A3.out).mono ?_); (case side1 => repeat (first | exact HR0.out | (with_reducible refine Kd.C_alloc ?_ _) | (with_reducible refine Kd.C_drewN ?_ _) | (with_reducible refine Kd.C_drew ?_))); (case side2 => exact HC0.out); (case side3 => repeat (first | exact HR1.out | (with_reducible refine Kd.C_alloc ?_ _) | (with_reducible refine Kd.C_drewN ?_ _) | (with_reducible refine Kd.C_drew ?_))); (case side4 => exact HC1.out); rintro e w10 ⟨rfl, hb⟩; refine ⟨_, rfl, ?_⟩; have n0_ := Aside0.mk (below_step (by repeat (first | (with_reducible first | exact HB.out | apply below_alloc | apply pw_below_drewN | apply below_drew1) | exact HB.out)) hb); clear HB; have HB := n0_; clear n0_; (try clear hb); (try clear hb2); (try clear hk); (try clear hi)))
    go_ret
    exact ⟨by first | rfl | (simp [errW_none, errW_some] <;> rfl) | (simp [*, errW_none, errW_some] <;> rfl), by repeat (first | (with_reducible first | exact HB.out | apply below_alloc | apply pw_below_drewN | apply below_drew1) | exact HB.out)⟩

end Go.Proofs.Ytgcjadhmkhpbnaa.P
-- Laid by a program of this work.
namespace Go.Proofs.Ytgcjadhmkhpbnaa.P
open Go.RowKit Go.Proofs.YtgcjadhmkhpbnaaW.PrintWords Go.Proofs.YtgcjadhmkhpbnaaW.PrintLast Go.Proofs.YtgcjadhmkhpbnaaW.PrintMore
attribute [local go_sem] max2_int min2_int max_two min_two max_three min_three max_four min_four   -- for this text's walks alone
set_option linter.unusedVariables false
set_option linter.unusedSimpArgs false

-- by hand
/-- Two neighbours exchanged. -/
def swl (l : List Int) (j : Nat) : List Int := (l.set (j + 1) (rd l (j : Int))).set j (rd l ((j : Int) + 1))
/-- The inner loop of the insertion sort, from place j down. -/
def inn (cf : Int → Int → Int) : Nat → List Int → List Int
  | 0, l => l
  | j + 1, l => if cf (rd l ((j : Int) + 1)) (rd l (j : Int)) < 0 then inn cf j (swl l j) else l
/-- The outer loop: d rounds, from place i up. -/
def outr (cf : Int → Int → Int) : Nat → Nat → List Int → List Int
  | 0, _, l => l
  | d + 1, i, l => outr cf d (i + 1) (inn cf i l)
def isort (cf : Int → Int → Int) (l : List Int) : List Int := outr cf (l.length - 1) 1 l
theorem rdOf_mem (l : List Int) (j : Nat) (h : j < l.length) : rdOf 0 l (j : Int) ∈ l := by
  unfold rdOf
  rw [List.getD_eq_getElem?_getD, Int.toNat_natCast, List.getElem?_eq_getElem h]
  exact List.getElem_mem h
theorem swl_mem (l : List Int) (j : Nat) (h : j + 1 < l.length) : ∀ x ∈ swl l j, x ∈ l := by
  intro x hx
  unfold swl at hx
  have h0 : rd l (j : Int) ∈ l := rdOf_mem l j (by omega)
  have h1 : rd l ((j : Int) + 1) ∈ l := rdOf_mem l (j + 1) h
  rcases List.mem_or_eq_of_mem_set hx with hx | rfl
  · rcases List.mem_or_eq_of_mem_set hx with hx | rfl
    · exact hx
    · exact h0
  · exact h1
theorem swl_length (l : List Int) (j : Nat) : (swl l j).length = l.length := by simp [swl]
set_option maxHeartbeats 4000000 in
set_option maxRecDepth 100000 in
/-- slices.insertionSortCmpFunc at int, whatever the comparison. -/
theorem insSort_calls (cf : Int → Int → Int) (g : Nat) (lb : Array Value) (eg : ∀ args w, (callFunc g args).run Try.prog w = .ok (.enter g args) w) (B : Nat) (ok : Nat → Prop) (A : Option Addr) (c : Nat) (l : List Int) (w : World)
    (G : Int → Prop) (hG : ∀ x ∈ l, G x) (hp : ∀ (W : World) (x y : Int), G x → G y → Below B w W → Calls Try.prog g (#[.int .i64 x, .int .i64 y] ++ lb) W fun e w' => e = .returned (.int .i64 (cf x y)) ∧ ∃ q, w' = W.drewN q)
    (hR : Kd.R (Kd.int .i64) 3 w B ok (.slice A l.length c) l) (hl : 0 < l.length) (hmax : l.length ≤ 1000000) (hB : B ≤ w.heap.size) :
    Calls Try.prog 109 #[.slice A l.length c, .int .i64 0, .int .i64 l.length, .func (.func g) #[] lb] w fun e w' => e = .returned (.tuple #[]) ∧ Kd.R (Kd.int .i64) 3 w' B ok (.slice A l.length c) (isort cf l) ∧ Below B w w' := by
  obtain ⟨gb, cap, eo, hgb, _, _, _⟩ := Kd.R_form hR hl
  injection eo with ea en ec
  subst ea
  subst ec
  clear en
  have GB := Aside0.mk hgb
  have HP := Aside0.mk hp
  have HG := Aside0.mk hG
  have HR := Aside0.mk hR
  have HBz := Aside0.mk hB
  clear hp hR hgb hB hG
  go_enter Try.func109, Try.ntmps109
  go_wp2
  go_loopg [8] l.length (fun gg vi wr => ∃ (i : Nat) (dk : List Int), vi = .int .i64 i ∧ 1 ≤ i ∧ i ≤ l.length ∧ l.length - i ≤ gg ∧ Aside0 (dk.length = l.length ∧ ∀ x ∈ dk, G x) ∧ Aside0 (Kd.R (Kd.int .i64) 3 wr B ok (.slice (some ⟨gb, 0, none⟩) l.length c) dk) ∧ Aside0 (Below B w wr) ∧ Aside0 (outr cf (l.length - i) i dk = isort cf l))
  case atStart => exact ⟨1, l, by go_num, by omega, by omega, by omega, ⟨rfl, HG.out⟩, HR, ⟨Below.refl _ _⟩, ⟨rfl⟩⟩
  case round =>
    obtain ⟨i, dk, rfl, hi1, hil, hgg, DL, DR, DB, DO⟩ := hrel
    by_cases hlt : i < l.length
    · have hltz : (i : Int) < (l.length : Int) := by omega
      go_wp2
      go_loopg [9] i (fun g2 vj wr2 => ∃ (j : Nat) (dj : List Int), vj = .int .i64 j ∧ j ≤ i ∧ j ≤ g2 ∧ Aside0 (dj.length = l.length ∧ ∀ x ∈ dj, G x) ∧ Aside0 (Kd.R (Kd.int .i64) 3 wr2 B ok (.slice (some ⟨gb, 0, none⟩) l.length c) dj) ∧ Aside0 (Below B w wr2) ∧ Aside0 (inn cf j dj = inn cf i dk))
      case atStart => exact ⟨i, dk, rfl, Nat.le_refl _, Nat.le_refl _, DL, DR, DB, ⟨rfl⟩⟩
      case round =>
        obtain ⟨j, dj, rfl, hji, hg2, JL, JR, JB, JI⟩ := hrel
        have out : inn cf j dj = dj → outr cf (l.length - (i + 1)) (i + 1) dj = isort cf l := fun hs => by
          rw [← DO.out, show l.length - i = (l.length - (i + 1)) + 1 by omega, outr, ← JI.out, hs]
        have OUT := Aside0.mk out
        clear out
        cases j with
        | zero =>
          go_wp2_with fail
          go_big_region
          all_goals go_wp2
          go_roundg (l.length - (i + 1))
          case measure => omega
          case rel => exact ⟨i + 1, dj, by go_num, by omega, by omega, by omega, JL, ⟨Kd.R_drew JR.out⟩, ⟨below_drew1 JB.out⟩, ⟨OUT.out (by rw [inn])⟩⟩
        | succ jp =>
          have jz : (jp : Int) + 1 < (l.length : Int) := by omega
          have jz1 : (jp : Int) < (l.length : Int) := by omega
          have hwp : IntKind.i64.wrap (jp : Int) = (jp : Int) := by rw [IntKind.wrap_i64]; omega
          have p0 : (0 : Int) ≤ (jp : Int) + 1 := by omega
          have p1 : (0 : Int) < (jp : Int) + 1 := by omega
          have e0 : ((jp : Int) + 1).toNat = jp + 1 := by omega
          obtain ⟨cj, fj⟩ := Kd.R_celln 0 JR.out ((jp : Int) + 1) p0 jz
          obtain ⟨cp, fp⟩ := Kd.R_celln 0 JR.out (jp : Int) (by omega) jz1
          rw [e0] at cj fj
          rw [Int.toNat_natCast] at cp fp
          have hc : ∀ n : Nat, Calls Try.prog g (#[.int .i64 (rdOf 0 dj ((jp : Int) + 1)), .int .i64 (rdOf 0 dj (jp : Int))] ++ lb) (wr.drewN n) fun e w' => e = .returned (.int .i64 (cf (rdOf 0 dj ((jp : Int) + 1)) (rdOf 0 dj (jp : Int)))) ∧ ∃ q, w' = (wr.drewN n).drewN q := fun n => HP.out _ _ _ (JL.out.2 _ (by have := rdOf_mem dj (jp + 1) (by have := JL.out.1; omega); simpa using this)) (JL.out.2 _ (rdOf_mem dj jp (by have := JL.out.1; omega))) (pw_below_drewN JB.out n)
          obtain ⟨xj, hxj⟩ : ∃ x, rdOf 0 dj ((jp : Int) + 1) = x := ⟨_, rfl⟩
          obtain ⟨xp, hxp⟩ : ∃ x, rdOf 0 dj (jp : Int) = x := ⟨_, rfl⟩
          rw [hxj] at cj hc
          rw [hxp] at cp hc
          have XJ := Aside0.mk hxj
          have XP := Aside0.mk hxp
          clear hxj hxp
          by_cases hlv : cf xj xp < 0
          · go_wp2_with fail
            go_quiet (first | (go_at_fn g; refine Calls.quiet_of (hc _)))
            go_wp2_with fail
            have JR2 := Aside0.mk (Kd.R_drewN JR.out nq)
            have JB2 := Aside0.mk (pw_below_drewN JB.out nq)
            have cj2 : (wr.drewN nq).cell? ⟨gb, jp + 1, none⟩ = some (.int .i64 xj) := cj
            have cp2 : (wr.drewN nq).cell? ⟨gb, jp, none⟩ = some (.int .i64 xp) := cp
            have fj2 : (wr.drewN nq).frozen? ⟨gb, jp + 1, none⟩ = false := fj
            have fp2 : (wr.drewN nq).frozen? ⟨gb, jp, none⟩ = false := fp
            clear cj cp fj fp hc JR JB
            generalize wr.drewN nq = wq2 at JR2 JB2 cj2 cp2 fj2 fp2 ⊢
            obtain ⟨j1, hj1⟩ : ∃ j1, j1 = jp + 1 := ⟨_, rfl⟩
            rw [← hj1] at cj2 fj2 e0
            have J1 := Aside0.mk hj1
            clear hj1
            go_big_region
            all_goals go_wp2
            go_roundg jp
            case measure => omega
            case rel =>
              refine ⟨jp, swl dj jp, by first | rfl | go_num | (congr 1; omega), by omega, Nat.le_refl _, ⟨by rw [swl_length]; exact JL.out.1, fun x hx => JL.out.2 x (swl_mem dj jp (by have := JL.out.1; omega) x hx)⟩, ⟨?_⟩, ⟨?_⟩, ⟨?_⟩⟩
              · have h1 := (Kd.R_putg (Kd.R_drew JR2.out) (((jp + 1 : Nat)) : Int) xp).1
                have h2 := (Kd.R_putg h1 (jp : Int) xj).1
                rw [Int.toNat_natCast, Int.toNat_natCast] at h2
                rw [J1.out]
                have e : swl dj jp = (dj.set (jp + 1) xp).set jp xj := by unfold swl; rw [← show rd dj ((jp : Int) + 1) = xj from XJ.out, ← show rd dj (jp : Int) = xp from XP.out]
                rw [e]
                exact h2
              · exact ((below_drew1 JB2.out).setCell GB.out _).setCell GB.out _
              · rw [← JI.out, inn, if_pos (by rw [show rd dj ((jp : Int) + 1) = xj from XJ.out, show rd dj (jp : Int) = xp from XP.out]; exact hlv)]
          · go_wp2_with fail
            go_quiet (first | (go_at_fn g; refine Calls.quiet_of (hc _)))
            go_wp2
            go_roundg (l.length - (i + 1))
            case measure => omega
            case rel => exact ⟨i + 1, dj, by go_num, by omega, by omega, by omega, JL, ⟨Kd.R_drewN JR.out _⟩, ⟨pw_below_drewN JB.out _⟩, ⟨OUT.out (by rw [inn]; exact if_neg (by rw [show rd dj ((jp : Int) + 1) = xj from XJ.out, show rd dj (jp : Int) = xp from XP.out]; omega))⟩⟩
    · have hltz : ¬ (i : Int) < (l.length : Int) := by omega
      go_wp2
      go_end0
      refine ⟨rfl, ?_, DB.out⟩
      have := DO.out
      rw [show l.length - i = 0 by omega, outr] at this
      rw [← this]
      exact DR.out
set_option maxHeartbeats 4000000 in
set_option maxRecDepth 100000 in
/-- slices.insertionSortCmpFunc at no element. -/
theorem insSort_none (cf : Int → Int → Int) (g : Nat) (lb : Array Value) (A : Option Addr) (c : Nat) (w : World) :
    Calls Try.prog 109 #[.slice A 0 c, .int .i64 0, .int .i64 0, .func (.func g) #[] lb] w fun e w' => e = .returned (.tuple #[]) ∧ w' = w ∧ isort cf [] = [] := by
  go_enter Try.func109, Try.ntmps109
  go_wp2
  go_loopg [8] 0 (fun _ vi wr => vi = .int .i64 1 ∧ wr = w)
  case atStart => exact ⟨by go_num, rfl⟩
  case round =>
    obtain ⟨rfl, rfl⟩ := hrel
    go_wp2
    go_end0
    exact ⟨rfl, rfl, rfl⟩
/-- The row behind a sort. -/
theorem insSort_any (cf : Int → Int → Int) (g : Nat) (lb : Array Value) (eg : ∀ args w, (callFunc g args).run Try.prog w = .ok (.enter g args) w) (B : Nat) (ok : Nat → Prop) (A : Option Addr) (c : Nat) (l : List Int) (w : World)
    (G : Int → Prop) (hG : ∀ x ∈ l, G x) (hp : ∀ (W : World) (x y : Int), G x → G y → Below B w W → Calls Try.prog g (#[.int .i64 x, .int .i64 y] ++ lb) W fun e w' => e = .returned (.int .i64 (cf x y)) ∧ ∃ q, w' = W.drewN q)
    (hR : Kd.R (Kd.int .i64) 3 w B ok (.slice A l.length c) l) (hmax : l.length ≤ 1000000) (hB : B ≤ w.heap.size) :
    Calls Try.prog 109 #[.slice A l.length c, .int .i64 0, .int .i64 l.length, .func (.func g) #[] lb] w fun e w' => e = .returned (.tuple #[]) ∧ Kd.R (Kd.int .i64) 3 w' B ok (.slice A l.length c) (isort cf l) ∧ Below B w w' := by
  rcases Nat.eq_zero_or_pos l.length with h0 | h0
  · obtain rfl := List.eq_nil_of_length_eq_zero h0
    refine (insSort_none cf g lb A c w).mono ?_
    rintro e w' ⟨rfl, rfl, he⟩
    rw [he]
    exact ⟨rfl, hR, Below.refl _ _⟩
  · exact insSort_calls cf g lb eg B ok A c l w G hG hp hR h0 hmax hB
set_option maxHeartbeats 4000000 in
set_option maxRecDepth 100000 in
/-- slices.stableCmpFunc at int, fewer than 20 elements. -/
theorem stable_calls (cf : Int → Int → Int) (g : Nat) (lb : Array Value) (eg : ∀ args w, (callFunc g args).run Try.prog w = .ok (.enter g args) w) (B : Nat) (ok : Nat → Prop) (A : Option Addr) (c : Nat) (l : List Int) (w : World)
    (G : Int → Prop) (hG : ∀ x ∈ l, G x) (hp : ∀ (W : World) (x y : Int), G x → G y → Below B w W → Calls Try.prog g (#[.int .i64 x, .int .i64 y] ++ lb) W fun e w' => e = .returned (.int .i64 (cf x y)) ∧ ∃ q, w' = W.drewN q)
    (hR : Kd.R (Kd.int .i64) 3 w B ok (.slice A l.length c) l) (hmax : l.length < 20) (hB : B ≤ w.heap.size) :
    Calls Try.prog 105 #[.slice A l.length c, .int .i64 l.length, .func (.func g) #[] lb] w fun e w' => e = .returned (.tuple #[]) ∧ Kd.R (Kd.int .i64) 3 w' B ok (.slice A l.length c) (isort cf l) ∧ Below B w w' := by
  have HC := Aside0.mk (fun W (hW : W = w) => insSort_any cf g lb eg B ok A c l W G hG (by subst hW; exact hp) (by subst hW; exact hR) (by omega) (by subst hW; exact hB))
  clear hp hR hB eg hG
  have h20 : ¬ (20 : Int) ≤ (l.length : Int) := by omega
  have h21 : ¬ (20 : Int) < (l.length : Int) := by omega
  go_enter Try.func105, Try.ntmps105
  go_wp2
  go_loopg [7, 8] 0 (fun _ va vb wr => va = .int .i64 0 ∧ vb = .int .i64 20 ∧ w = wr)
  case atStart => exact ⟨by go_num, by go_num, rfl⟩
  case round =>
    obtain ⟨rfl, rfl, rfl⟩ := hrel
    go_wp2_with (go_at_call 109; refine (HC.out _ rfl).mono ?_; rintro e w' ⟨rfl, hR', hB'⟩; have HR' := Aside0.mk hR'; have HB' := Aside0.mk hB'; clear hR' hB')
    go_loopg [6] 0 (fun _ va wr => va = .int .i64 20 ∧ Aside0 (Kd.R (Kd.int .i64) 3 wr B ok (.slice A l.length c) (isort cf l)) ∧ Aside0 (Below B w wr))
    case atStart => exact ⟨by go_num, HR', HB'⟩
    case round =>
      obtain ⟨rfl, R2, B2⟩ := hrel
      go_wp2
      go_end0
      exact ⟨rfl, R2.out, B2.out⟩
set_option maxHeartbeats 4000000 in
set_option maxRecDepth 100000 in
/-- slices.SortStableFunc at []int, fewer than 20 elements. -/
theorem sortStable_calls (cf : Int → Int → Int) (g : Nat) (lb : Array Value) (eg : ∀ args w, (callFunc g args).run Try.prog w = .ok (.enter g args) w) (B : Nat) (ok : Nat → Prop) (A : Option Addr) (c : Nat) (l : List Int) (w : World)
    (G : Int → Prop) (hG : ∀ x ∈ l, G x) (hp : ∀ (W : World) (x y : Int), G x → G y → Below B w W → Calls Try.prog g (#[.int .i64 x, .int .i64 y] ++ lb) W fun e w' => e = .returned (.int .i64 (cf x y)) ∧ ∃ q, w' = W.drewN q)
    (hR : Kd.R (Kd.int .i64) 3 w B ok (.slice A l.length c) l) (hmax : l.length < 20) (hB : B ≤ w.heap.size) :
    Calls Try.prog 83 #[.slice A l.length c, .func (.func g) #[] lb] w fun e w' => e = .returned (.tuple #[]) ∧ Kd.R (Kd.int .i64) 3 w' B ok (.slice A l.length c) (isort cf l) ∧ Below B w w' := by
  have HC := Aside0.mk (fun W (hW : W = w) => stable_calls cf g lb eg B ok A c l W G hG (by subst hW; exact hp) (by subst hW; exact hR) hmax (by subst hW; exact hB))
  clear hp hR hB eg hG
  go_enter Try.func83, Try.ntmps83
  go_wp2_with (go_at_call 105; refine (HC.out _ rfl).mono ?_; rintro e w' ⟨rfl, hR', hB'⟩; have HR' := Aside0.mk hR'; have HB' := Aside0.mk hB'; clear hR' hB')
  go_end0
  exact ⟨rfl, HR'.out, HB'.out⟩

end Go.Proofs.Ytgcjadhmkhpbnaa.P
-- Laid by a program of this work.
namespace Go.Proofs.Ytgcjadhmkhpbnaa.P
open Go.RowKit Go.Proofs.YtgcjadhmkhpbnaaW.PrintWords Go.Proofs.YtgcjadhmkhpbnaaW.PrintLast Go.Proofs.YtgcjadhmkhpbnaaW.PrintMore
attribute [local go_sem] max2_int min2_int max_two min_two max_three min_three max_four min_four   -- for this text's walks alone
set_option linter.unusedVariables false
set_option linter.unusedSimpArgs false

/-! ### impl_indices: function 82 -/
def impl_indices.l0 : Nat → List Int → Int → Int → Option (List Int)
  | 0, _, _, _ => none
  | k + 1, x3, x8, x9 => if x9 < x8 then (if 0 ≤ x9 then (if x9 < (x3.length : Int) then (impl_indices.l0 k (x3.set (x9 : Int).toNat x9) x8 (wrap64 (x9 + 1))) else (none)) else (none)) else (some x3)
def impl_indices.f (k : Nat) (a0 : Int) : Option (List Int) := if 0 ≤ a0 then (if (a0 : Int).toNat ≤ 35184372088832 then ((some (List.replicate (a0 : Int).toNat 0 : List Int)).bind fun y609 => (impl_indices.l0 k y609 (y609.length : Int) 0)) else (none)) else (none)
theorem impl_indices.mono_l : ∀ k, (∀ y0 y1 y2, LeO (impl_indices.l0 k y0 y1 y2) (impl_indices.l0 (k + 1) y0 y1 y2))
  | 0 => fun _ _ _ r h => by simp [impl_indices.l0] at h
  | k + 1 => by
    have ih0 := impl_indices.mono_l k
    · intro y0 y1 y2
      unfold impl_indices.l0
      repeat' first
      | (with_reducible exact ih0 _ _ _)
      | (with_reducible exact LeO.refl _)
      | (with_reducible exact LeO.none _)
      | (with_reducible refine LeO.ite ?_ ?_)
      | (with_reducible refine LeO.bind ?_ (fun _ => ?_))
      | exact ih0 _ _ _
      | exact LeO.none _
      | refine LeO.ite ?_ ?_
      | refine LeO.bind ?_ (fun _ => ?_)
theorem impl_indices.mono : ∀ a0 k, LeO (impl_indices.f k a0) (impl_indices.f (k + 1) a0) := by
  intro a0 k
  have ih0 := impl_indices.mono_l k
  unfold impl_indices.f
  repeat' first
      | (with_reducible exact ih0 _ _ _)
      | (with_reducible exact LeO.refl _)
      | (with_reducible exact LeO.none _)
      | (with_reducible refine LeO.ite ?_ ?_)
      | (with_reducible refine LeO.bind ?_ (fun _ => ?_))
      | exact ih0 _ _ _
      | exact LeO.none _
      | refine LeO.ite ?_ ?_
      | refine LeO.bind ?_ (fun _ => ?_)
set_option maxHeartbeats 8000000 in
set_option maxRecDepth 100000 in
theorem impl_indices.calls (k : Nat) (a0 : Int) (r : List Int) (w : World) (h : impl_indices.f k a0 = some r) :
    Calls Try.prog 82 #[.int .i64 a0] w fun e w' => ∃ v0_ : Value, e = .returned (v0_) ∧ Kd.R (Kd.int .i64) 3 w' w.heap.size (fun _ => True) v0_ r ∧ Below w.heap.size w w' := by
  have HB := Aside0.mk (Below.refl w.heap.size w)
  have H : (if 0 ≤ a0 then (if (a0 : Int).toNat ≤ 35184372088832 then ((some (List.replicate (a0 : Int).toNat 0 : List Int)).bind fun y609 => (impl_indices.l0 k y609 (y609.length : Int) 0)) else (none)) else (none)) = some r := h
  clear h
  by_cases c2 : 0 ≤ a0
  · rw [if_pos c2] at H
    have c2b0 := eq_true c2
    have c2b1 : decide (0 ≤ a0) = true := decide_eq_true c2
    clear c2
    by_cases c3 : (a0 : Int).toNat ≤ 35184372088832
    · rw [if_pos c3] at H
      have c3b0 := eq_true c3
      have c3b1 : decide ((a0 : Int).toNat ≤ 35184372088832) = true := decide_eq_true c3
      clear c3
      obtain ⟨y609, hy609⟩ : ∃ y_ : List Int, y_ = (List.replicate (a0 : Int).toNat 0) := ⟨_, rfl⟩
      replace H : (impl_indices.l0 k y609 (y609.length : Int) 0) = some r := by first | (rw [hy609]; with_reducible exact H) | (have H2_ := (Option.bind_some _ _).symm.trans H; rw [hy609]; with_reducible exact H2_) | (have H2_ := (Option.bind_some _ _).symm.trans H; with_reducible exact H2_) | with_reducible exact H | (rw [hy609]; exact H) | exact H
      have Ny609 := Aside0.mk hy609
      clear hy609
      have H' := Aside0.mk H
      clear H
      go_enter Try.func82, Try.ntmps82
      go_wp2_with (first | ((with_reducible refine gate_dst (N := 6) rfl ?_); refine Kd.R_make (Kd.int .i64) _ 3 rfl (N := 6) rfl 29 _ _ rfl a0 rfl rfl Try.underlying29 (.int .i64 0) 8 info3 rfl (by decide) (by omega) 0 (ok := fun _ => True) (okp := fun _ => True) rfl (fun _ hk => hk) trivial (of_decide_eq_true (by first | (with_reducible assumption) | assumption)) (Nat.le_trans (Nat.mul_le_mul_right _ (of_decide_eq_true (by first | (with_reducible assumption) | assumption) : a0.toNat ≤ 35184372088832)) (by omega)) (Below.refl _ _) (Nat.le_refl _) ?_; intro v610 w4 ho5 hb hg_ hnew_; clear hg_ hnew_; (first | rw [← Ny609.out] at ho5 | (simp only [Int.reduceToNat] at ho5; rw [← Ny609.out] at ho5)); have n0_ := Aside0.mk (Kd.R_lower ho5 (below_size (by repeat (first | (with_reducible first | exact HB.out | apply below_alloc | apply pw_below_drewN | apply below_drew1) | exact HB.out)))); have n1_ := Aside0.mk (below_step (by repeat (first | (with_reducible first | exact HB.out | apply below_alloc | apply pw_below_drewN | apply below_drew1) | exact HB.out)) hb); clear HB; have HO611 := n0_; have HB := n1_; clear n0_ n1_; clear hb ho5; obtain ⟨Ao6, co6, eo6⟩ := Kd.R_slice HO611.out; subst eo6))
      go_loopg [9] k (fun kq v9 w' => ∃ (x3_1 : List Int) (x9_1 : Int), v9 = .int .i64 x9_1 ∧ Aside0 (impl_indices.l0 kq x3_1 (y609.length : Int) x9_1 = some r) ∧ Aside0 (kq ≤ k) ∧ Aside0 (Kd.R (Kd.int .i64) 3 w' w.heap.size (fun _ => True) (.slice Ao6 y609.length co6) x3_1) ∧ Aside0 (Below w.heap.size w w'))
      case atStart => exact ⟨(y609), (0), (by first | rfl | (simp; done) | (simp only [IntKind.wrap_i64, wrap64]; done) | (simp [*]; done)), H', ⟨Nat.le_refl _⟩, ⟨by (with_reducible repeat (first | apply Kd.R_alloc | apply Kd.R_drewN | apply Kd.R_drew)); exact HO611.out⟩, ⟨by repeat (first | (with_reducible first | exact HB.out | apply below_alloc | apply pw_below_drewN | apply below_drew1) | exact HB.out)⟩⟩
      case round =>
        clear H'
        try clear c2
        try clear c2b0
        try clear c2b1
        try clear p2
        try clear c3
        try clear c3b0
        try clear c3b1
        obtain ⟨x3_1, x9_1, rfl, HA, HK1, HO_3, HB⟩ := hrel
        have hl3_1 := (Kd.R_reads' HO_3.out).1
        rw [hl3_1] at HO_3
        (try simp only [hl3_1])
        cases gk with
        | zero => exact absurd HA.out (by simp [impl_indices.l0])
        | succ k1 =>
          have H := HA.out
          clear HA
          simp only [impl_indices.l0] at H
          by_cases c7 : x9_1 < (y609.length : Int)
          · rw [if_pos c7] at H
            have c7b0 : decide (x9_1 < (y609.length : Int)) = true := decide_eq_true c7
            clear c7
            by_cases c8 : 0 ≤ x9_1
            · rw [if_pos c8] at H
              have c8b0 : decide (0 ≤ x9_1) = true := decide_eq_true c8
              clear c8
              by_cases c9 : x9_1 < (x3_1.length : Int)
              · rw [if_pos c9] at H
                have c9b0 : decide (x9_1 < (x3_1.length : Int)) = true := decide_eq_true c9
                clear c9
                obtain ⟨y612, hy612⟩ : ∃ y_ : List Int, y_ = (x3_1.set (x9_1 : Int).toNat x9_1) := ⟨_, rfl⟩
                replace H : (impl_indices.l0 k1 y612 (y609.length : Int) (wrap64 (x9_1 + 1))) = some r := by first | (rw [hy612]; with_reducible exact H) | (have H2_ := (Option.bind_some _ _).symm.trans H; rw [hy612]; with_reducible exact H2_) | (have H2_ := (Option.bind_some _ _).symm.trans H; with_reducible exact H2_) | with_reducible exact H | (rw [hy612]; exact H) | exact H
                have Ny612 := Aside0.mk hy612
                clear hy612
                have H' := Aside0.mk H
                clear H
                have p10 : 0 ≤ (x9_1 : Int) := of_decide_eq_true (by first | (with_reducible assumption) | assumption)
                have q10 : (x9_1 : Int) < ((x3_1.length : Int) : Int) := of_decide_eq_true (by first | (with_reducible assumption) | assumption)
                obtain ⟨go10, co10, eo10, gb10, gl10, cl10, HG10⟩ := Kd.R_form HO_3.out (by omega)
                (first | cases eo10 | (injection eo10 with ea_ en_ ec_; (first | subst ea_ | (injection ea_ with ea_; subst ea_)); subst ec_; clear en_))
                have GB10 := Aside0.mk gb10
                have GG10 := Aside0.mk HG10
                clear gb10 gl10 HG10
                obtain ⟨hx10_0, hf10_0⟩ := Kd.R_celln 0 HO_3.out (x9_1 : Int) p10 q10
                replace p10 := eq_true p10
                replace q10 := eq_true q10
                have HP11 := Kd.R_putg HO_3.out (x9_1 : Int) x9_1
                go_wp2_with (first | ((with_reducible refine gate_store (t := 3) (p := 15) rfl ?_); refine store_event (t := 3) (p := 15) (v := ?vo_w12) (w1 := (wr.setCell ⟨go10, (x9_1 : Int).toNat, none⟩ (.int .i64 x9_1))) ?hg ?ho ?hn ?hr ?_; (case ho => rfl); (case hg => rfl); (case hn => rfl); (case hr => first | (go_simp; done) | (go_simp; rfl)); intro w12 hw; have hg : wr.grownBy w12 (some go10) := (by rw [hw]; exact HP11.2); have hp_ : Kd.R (Kd.int .i64) 3 w12 w.heap.size (fun _ => True) (.slice (some ⟨go10, 0, none⟩) x3_1.length co6) y612 := (by rw [hw, Ny612.out]; exact HP11.1); clear HP11; have n0_ := Aside0.mk (hp_); have n1_ := Aside0.mk ((by rw [hw]; exact below_set (HB.out) GB10.out : Below w.heap.size w w12)); clear HO_3; clear HB; have HO_3 := n0_; have HB := n1_; clear n0_ n1_; clear hg hw hp_))
                (try simp only [← hl3_1])
                go_roundg k1
                case measure => have := HK1.out; omega
                case rel => exact ⟨(y612), (wrap64 (x9_1 + 1)), (by first | rfl | (simp; done) | (simp only [IntKind.wrap_i64, wrap64]; done) | (simp [*]; done)), H', ⟨by have := HK1.out; omega⟩, ⟨by (try simp only [hl3_1]); (with_reducible repeat (first | apply Kd.R_alloc | apply Kd.R_drewN | apply Kd.R_drew)); exact HO_3.out⟩, ⟨by repeat (first | (with_reducible first | exact HB.out | apply below_alloc | apply pw_below_drewN | apply below_drew1) | exact HB.out)⟩⟩
              · rw [if_neg c9] at H
                exact absurd H (by simp)
            · rw [if_neg c8] at H
              exact absurd H (by simp)
          · rw [if_neg c7] at H
            have c7b0 : decide (x9_1 < (y609.length : Int)) = false := decide_eq_false c7
            clear c7
            try simp only [hl3_1] at c7b0
            obtain rfl := Option.some.inj H
            go_wp2
            go_ret
            exact ⟨_, by first | rfl | (simp [errW_none, errW_some] <;> rfl) | (simp [*, errW_none, errW_some] <;> rfl), by (with_reducible repeat (first | apply Kd.R_alloc | apply Kd.R_drewN | apply Kd.R_drew)); exact HO_3.out, by repeat (first | (with_reducible first | exact HB.out | apply below_alloc | apply pw_below_drewN | apply below_drew1) | exact HB.out)⟩
    · rw [if_neg c3] at H
      exact absurd H (by simp)
  · rw [if_neg c2] at H
    exact absurd H (by simp)

end Go.Proofs.Ytgcjadhmkhpbnaa.P
-- Laid by a program of this work.
namespace Go.Proofs.Ytgcjadhmkhpbnaa.P
open Go.RowKit Go.Proofs.YtgcjadhmkhpbnaaW.PrintWords Go.Proofs.YtgcjadhmkhpbnaaW.PrintLast Go.Proofs.YtgcjadhmkhpbnaaW.PrintMore
attribute [local go_sem] max2_int min2_int max_two min_two max_three min_three max_four min_four   -- for this text's walks alone
set_option linter.unusedVariables false
set_option linter.unusedSimpArgs false

/-! ### impl_DeadlineMonotonic: function 43: by hand -/
/-- The closure of DeadlineMonotonic: the difference of two deadlines. -/
def dl_cmp (l0 : List S56) (a b : Int) : Int := IntKind.i64.wrap ((rd_T56 l0 a).f1 - (rd_T56 l0 b).f1)
set_option maxHeartbeats 4000000 in
set_option maxRecDepth 100000 in
theorem dl_cmp_calls (A0 : Option Addr) (c0 : Nat) (l0 : List S56) (w : World) (B : Addr) (hB : w.cell? B = some (.slice A0 l0.length c0)) (hr0 : Kd.C k56 w A0 l0.length l0) (a b : Int) (ha : 0 ≤ a ∧ a < (l0.length : Int)) (hb : 0 ≤ b ∧ b < (l0.length : Int)) :
    Calls Try.prog 84 (#[.int .i64 a, .int .i64 b] ++ #[.pointer (some B)]) w fun e w' => e = .returned (.int .i64 (dl_cmp l0 a b)) ∧ ∃ q, w' = w.drewN q := by
  obtain ⟨ad, ea, hx0, hx1, hx2⟩ := at_T56 hr0 a ha.1 ha.2
  obtain ⟨ad2, ea2, hy0, hy1, hy2⟩ := at_T56 hr0 b hb.1 hb.2
  cases ea
  cases ea2
  obtain ⟨ha0, ha1⟩ := ha
  obtain ⟨hb0, hb1⟩ := hb
  unfold dl_cmp
  clear hx0 hx2 hy0 hy2 hr0
  generalize (rd_T56 l0 a).f1 = x at hx1 ⊢
  generalize (rd_T56 l0 b).f1 = y at hy1 ⊢
  go_enter Try.func84, Try.ntmps84
  go_wp2_with fail
  go_big_region
  all_goals go_wp2
  go_ret
  refine ⟨?_, 1, rfl⟩
  rw [i64_w]
  rfl
def impl_DeadlineMonotonic.f (k : Nat) (l0 : List S56) : Option (List Int) := (impl_SetValid.f l0).bind fun t => (if t = true then ((impl_indices.f k (l0.length : Int)).bind fun y => (if y.length < 20 ∧ ∀ x ∈ y, 0 ≤ x ∧ x < (l0.length : Int) then (some (isort (dl_cmp l0) y)) else (none))) else (some []))
theorem impl_DeadlineMonotonic.mono : ∀ l0 k, LeO (impl_DeadlineMonotonic.f k l0) (impl_DeadlineMonotonic.f (k + 1) l0) := by
  intro l0 k
  unfold impl_DeadlineMonotonic.f
  refine LeO.bind (LeO.refl _) (fun t => LeO.ite (LeO.bind (impl_indices.mono _ _) (fun _ => LeO.refl _)) (LeO.refl _))
set_option maxHeartbeats 4000000 in
set_option maxRecDepth 100000 in
theorem impl_DeadlineMonotonic.calls (k : Nat) (A0 : Option Addr) (c0 : Nat) (l0 : List S56) (r : List Int) (w : World) (hr0 : Kd.C k56 w A0 l0.length l0) (hc0 : l0.length ≤ c0) (h : impl_DeadlineMonotonic.f k l0 = some r) :
    Calls Try.prog 43 #[.slice A0 l0.length c0] w fun e w' => ∃ v0_ : Value, e = .returned (v0_) ∧ Kd.R (Kd.int .i64) 3 w' w.heap.size (fun _ => True) v0_ r ∧ Below w.heap.size w w' := by
  have HR := Aside0.mk hr0
  have HC := Aside0.mk hc0
  unfold impl_DeadlineMonotonic.f at h
  cases hs : impl_SetValid.f l0 with
  | none => rw [hs] at h; simp at h
  | some t =>
    rw [hs] at h
    have HS := Aside0.mk hs
    clear hs hr0
    cases t with
    | false =>
      simp at h
      subst h
      go_enter Try.func43, Try.ntmps43
      go_wp2_with (go_at_call 52; refine (impl_SetValid.calls A0 c0 l0 false _ (Kd.C_alloc HR.out _) HC.out HS.out).mono ?_; rintro e w' ⟨rfl, hb⟩; have HB := Aside0.mk hb; clear hb)
      go_ret
      exact ⟨_, rfl, Kd.R_nil _ _ _ _ _, below_weaken (below_alloc (Below.refl _ _) _) (by simp) HB.out⟩
    | true =>
      simp only [Option.bind_some, if_true] at h
      cases hi : impl_indices.f k (l0.length : Int) with
      | none => rw [hi] at h; simp at h
      | some y =>
        rw [hi] at h
        simp only [Option.bind_some] at h
        have HI := Aside0.mk hi
        clear hi
        by_cases hy : y.length < 20 ∧ ∀ x ∈ y, 0 ≤ x ∧ x < (l0.length : Int)
        · rw [if_pos hy] at h
          obtain rfl := Option.some.inj h
          have HY := Aside0.mk hy
          clear hy h hc0
          go_enter Try.func43, Try.ntmps43
          go_wp2_with (first
            | (go_at_call 52; refine (impl_SetValid.calls A0 c0 l0 true _ (Kd.C_alloc HR.out _) HC.out HS.out).mono ?_; rintro e w' ⟨rfl, hb⟩; have HB := Aside0.mk hb; have hcell : w'.cell? ⟨w.heap.size, 0, none⟩ = some (.slice A0 l0.length c0) := (hb.cell (p := ⟨w.heap.size, 0, none⟩) (by simp)).trans (by simp); clear hb)
            | (go_at_call 82; refine (impl_indices.calls k (l0.length : Int) y _ HI.out).mono ?_; rintro e w2 ⟨v0_, rfl, hr, hb⟩; have HB2 := Aside0.mk hb; have HR2 := Aside0.mk hr; have hcell2 := (hb.cell (p := ⟨w.heap.size, 0, none⟩) (World.block_lt_of_cell? _ _ hcell)).trans hcell; clear hb hr; obtain ⟨A2, c2, ev⟩ := Kd.R_slice HR2.out; subst ev)
            | (go_at_call 83; refine (sortStable_calls (dl_cmp l0) 84 #[.pointer (some ⟨w.heap.size, 0, none⟩)] (enters_of Try.func84 (by kernel_rfl) rfl) w'.heap.size (fun _ => True) A2 c2 y _ (fun x => 0 ≤ x ∧ x < (l0.length : Int)) HY.out.2 ?_ HR2.out HY.out.1 HB2.out.size).mono ?_))
          · intro W x y hx hy hW
            have hb2 : Below w.heap.size w w' := below_weaken (below_alloc (Below.refl _ _) _) (by simp) HB.out
            have hb3 : Below w.heap.size w w2 := below_weaken hb2 hb2.size HB2.out
            have hb4 : Below w.heap.size w W := below_weaken hb3 hb2.size hW
            exact dl_cmp_calls A0 c0 l0 W ⟨w.heap.size, 0, none⟩ ((hW.cell (World.block_lt_of_cell? _ _ hcell)).trans hcell2) (Kd.C_below HR.out hb4) x y hx hy
          · rintro e w3 ⟨rfl, hr3, hb3⟩
            have HR3 := Aside0.mk hr3
            have HB3 := Aside0.mk hb3
            clear hr3 hb3
            go_wp2
            go_ret
            have hb2 : Below w.heap.size w w' := below_weaken (below_alloc (Below.refl _ _) _) (by simp) HB.out
            have hb3 : Below w.heap.size w w2 := below_weaken hb2 hb2.size HB2.out
            exact ⟨_, rfl, Kd.R_lower HR3.out hb2.size, below_weaken hb3 hb2.size HB3.out⟩
        · rw [if_neg hy] at h
          simp at h

end Go.Proofs.Ytgcjadhmkhpbnaa.P
-- Laid by a program of this work.
namespace Go.Proofs.Ytgcjadhmkhpbnaa.P
open Go.RowKit Go.Proofs.YtgcjadhmkhpbnaaW.PrintWords Go.Proofs.YtgcjadhmkhpbnaaW.PrintLast Go.Proofs.YtgcjadhmkhpbnaaW.PrintMore
attribute [local go_sem] max2_int min2_int max_two min_two max_three min_three max_four min_four   -- for this text's walks alone
set_option linter.unusedVariables false
set_option linter.unusedSimpArgs false

/-- A state of type 94 at block g of W; what its slices lead to came in by w0. -/
def IsS94 (w0 W : World) (g : Nat) (f0 : List Int) (f1 : Int) : Prop := ∃ A0 c0, W.heap[g]? = some (.cells #[.slice A0 f0.length c0, .int .i64 f1] 94 (0, 0)) ∧ w0.heap.size ≤ g ∧ Kd.C (Kd.int .u8) w0 A0 f0.length f0
theorem IsS94.grown {w0 W : World} {g : Nat} {f0 : List Int} {f1 : Int} {W1 : World} {row : Option Nat} (h : IsS94 w0 W g f0 f1) (hw : W.grownBy W1 row) (hne : some g ≠ row) : IsS94 w0 W1 g f0 f1 := by
  obtain ⟨A0, c0, hb, hg, hr0⟩ := h
  exact ⟨A0, c0, blk_grown hb hw hne, hg, hr0⟩
theorem IsS94.kept {w0 W : World} {g : Nat} {f0 : List Int} {f1 : Int} {W1 : World} {S : Nat → Prop} (h : IsS94 w0 W g f0 f1) (hk : Kept W W1 S) (hne : ¬ S g) : IsS94 w0 W1 g f0 f1 := by
  obtain ⟨A0, c0, hb, hg, hr0⟩ := h
  exact ⟨A0, c0, blk_kept hb hk hne, hg, hr0⟩
theorem IsS94.below {w0 W : World} {g : Nat} {f0 : List Int} {f1 : Int} {W1 : World} (h : IsS94 w0 W g f0 f1) (hw : Below W.heap.size W W1) : IsS94 w0 W1 g f0 f1 := h.grown (grown_of_below hw none) (by simp)
theorem IsS94.alloc {w0 W : World} {g : Nat} {f0 : List Int} {f1 : Int} (h : IsS94 w0 W g f0 f1) (o : Obj) : IsS94 w0 (W.alloc o) g f0 f1 := h.below (below_alloc (Below.refl _ _) o)
theorem IsS94.drewN {w0 W : World} {g : Nat} {f0 : List Int} {f1 : Int} (h : IsS94 w0 W g f0 f1) (m : Nat) : IsS94 w0 (W.drewN m) g f0 f1 := h
theorem IsS94.drew {w0 W : World} {g : Nat} {f0 : List Int} {f1 : Int} (h : IsS94 w0 W g f0 f1) : IsS94 w0 W.drew g f0 f1 := h
theorem IsS94.at_ {w0 W : World} {g : Nat} {f0 : List Int} {f1 : Int} {w' : World} {m : Nat} (hq : W.drewN m = w') (h : IsS94 w0 W g f0 f1) : IsS94 w0 w' g f0 f1 := by subst hq; exact IsS94.drewN h m
theorem IsS94.apart {w0 W : World} {g : Nat} {f0 : List Int} {f1 : Int} {α : Type} {d : Kd α} {e : Nat} {base : Nat} {ok : Nat → Prop} {v : Value} {xs : List α} (h : IsS94 w0 W g f0 f1) (ho : d.R e W base ok v xs) (ht : ∀ q, q ∈ e :: d.E → q ≠ 94) : d.R e W base (fun k => ok k ∧ k ≠ g) v xs := by
  obtain ⟨A0, c0, hb, hg, hr0⟩ := h
  exact Kd.R_types ho hb ht
theorem IsS94.own_ne {w0 W : World} {g : Nat} {f0 : List Int} {f1 : Int} {α : Type} {d : Kd α} {e : Nat} {base : Nat} {ok : Nat → Prop} {v : Value} {xs : List α} (h : IsS94 w0 W g f0 f1) (ho : d.R e W base ok v xs) (ht : e ≠ 94) : some g ≠ v.ownBlock := by
  obtain ⟨A0, c0, hb, hg, hr0⟩ := h
  exact Kd.R_ne ho hb ht
theorem IsS94.lt {w0 W : World} {g : Nat} {f0 : List Int} {f1 : Int} (h : IsS94 w0 W g f0 f1) : g < W.heap.size := by
  obtain ⟨A0, c0, hb, hg, hr0⟩ := h
  exact blk_lt hb
theorem IsS94.ge {w0 W : World} {g : Nat} {f0 : List Int} {f1 : Int} (h : IsS94 w0 W g f0 f1) : w0.heap.size ≤ g := by
  obtain ⟨A0, c0, hb, hg, hr0⟩ := h
  exact hg
theorem IsS94.far {w0 W : World} {g : Nat} {f0 : List Int} {f1 : Int} {p : Addr} (h : IsS94 w0 W g f0 f1) (hne : g ≠ p.block) (u : Value) : IsS94 w0 (W.setCell p u) g f0 f1 := by
  obtain ⟨A0, c0, hb, hg, hr0⟩ := h
  exact ⟨A0, c0, blk_far hb hne u, hg, hr0⟩
theorem cellS94_0 {W : World} {g : Nat} {A0 : Option Addr} {c0 : Nat} {f0 : List Int} {f1 : Int} (h : W.heap[g]? = some (.cells #[.slice A0 f0.length c0, .int .i64 f1] 94 (0, 0))) : W.cell? ⟨g, 0, none⟩ = some (.slice A0 f0.length c0) := (blk_cell h 0).trans rfl
theorem cellS94_1 {W : World} {g : Nat} {A0 : Option Addr} {c0 : Nat} {f0 : List Int} {f1 : Int} (h : W.heap[g]? = some (.cells #[.slice A0 f0.length c0, .int .i64 f1] 94 (0, 0))) : W.cell? ⟨g, 1, none⟩ = some (.int .i64 f1) := (blk_cell h 1).trans rfl
theorem IsS94.set_1 {w0 W : World} {g : Nat} {f0 : List Int} {f1 : Int} (h : IsS94 w0 W g f0 f1) (x : Int) : IsS94 w0 (W.setCell ⟨g, 1, none⟩ (.int .i64 x)) g f0 x := by
  obtain ⟨A0, c0, hb, hg, hr0⟩ := h
  exact ⟨A0, c0, by simpa using blk_set hb 1 (.int .i64 x), hg, hr0⟩
theorem IsS94.new (w0 W : World) (A0 : Option Addr) (c0 : Nat) (f0 : List Int) (f1 : Int) (hB : Below w0.heap.size w0 W) (hr0 : Kd.C (Kd.int .u8) w0 A0 f0.length f0) : IsS94 w0 (W.alloc (.cells #[.slice A0 f0.length c0, .int .i64 f1] 94)) W.heap.size f0 f1 := ⟨A0, c0, by simpa using heap_alloc_new W _, hB.size, hr0⟩

/-! ### spec_l20Open: function 60 -/
def spec_l20Open.f (l0 : List Int) : Option (List Int × Int) := if (l0.length : Int) > 2000 then (if 2000 ≤ (l0.length : Int) then (some (l0.take 2000, 0)) else (none)) else (some (l0, 0))
set_option maxHeartbeats 8000000 in
set_option maxRecDepth 100000 in
theorem spec_l20Open.calls (A0 : Option Addr) (c0 : Nat) (l0 : List Int) (r1 : List Int) (r2 : Int) (w0 w : World) (hB : Below w0.heap.size w0 w) (hr0 : Kd.C (Kd.int .u8) w0 A0 l0.length l0) (hc0 : l0.length ≤ c0) (h : spec_l20Open.f l0 = some (r1, r2)) :
    Calls Try.prog 60 #[.slice A0 l0.length c0] w fun e w' => ∃ g_ : Nat, e = .returned (.pointer (some ⟨g_, 0, none⟩)) ∧ IsS94 w0 w' g_ r1 r2 ∧ Below w0.heap.size w0 w' ∧ Below w.heap.size w w' := by
  have hu94 := Try.underlying94
  have HR0 := Aside0.mk hr0
  have HC0 := Aside0.mk hc0
  clear hr0 hc0
  have HBW := Aside0.mk (Below.refl w.heap.size w)
  have HW0 := Aside0.mk hB.size
  have HB := Aside0.mk hB
  clear hB
  have H : (if (l0.length : Int) > 2000 then (if 2000 ≤ (l0.length : Int) then (some (l0.take 2000, 0)) else (none)) else (some (l0, 0))) = some (r1, r2) := h
  clear h
  by_cases c2 : (l0.length : Int) > 2000
  · rw [if_pos c2] at H
    have c2b0 : decide (2000 < (l0.length : Int)) = true := decide_eq_true c2
    have c2b1 : decide (2000 < l0.length) = true := decide_eq_true (by omega)
    clear c2
    by_cases c3 : 2000 ≤ (l0.length : Int)
    · rw [if_pos c3] at H
      have c3b0 := eq_true c3
      have c3b1 : decide (2000 ≤ (l0.length : Int)) = true := decide_eq_true c3
      clear c3
      simp only [Option.some.injEq, Prod.mk.injEq] at H
      obtain ⟨rfl, rfl⟩ := H
      obtain ⟨i04, hi04, _, hsz4, _⟩ := info_parts info5
      obtain ⟨hcut4, hA4, hC4⟩ := print_take_of (P := Try.prog) (Value.int .u8) 0 34 5 .i64 Try.underlying34 hi04 hsz4 A0 c0 l0 2000 (by omega) (of_decide_eq_true (by first | (with_reducible assumption) | assumption)) HC0.out
      have HR228 := Aside0.mk (Kd.C_of_reads (h1 := fun _ => rfl) (hA4 _ (Kd.reads_of_C HR0.out)))
      have HC228 := Aside0.mk hC4
      clear hA4 hC4 hi04 hsz4
      go_enter Try.func60, Try.ntmps60
      go_wp2_with (first | ((with_reducible refine gate_dst (N := 10) rfl ?_); refine box_event ?hg (N := 10) ?hd (cs := #[.slice A0 (l0.take 2000).length c0, .int .i64 0]) (t := 94) ?hr ?_; (case hd => rfl); (case hg => rfl); (case hr => first | (go_simp; done) | (go_simp; rfl)); intro gb229 hg w5 hbox hb; have n0_ := Aside0.mk (below_step HBW.out hb); have n1_ := Aside0.mk (below_step (by repeat (first | (with_reducible first | exact HB.out | apply below_alloc | apply pw_below_drewN | apply below_drew1) | exact HB.out)) hb); have n2_ := Aside0.mk (hbox); have n3_ := Aside0.mk ((by rw [hg]; exact (below_size (by repeat (first | (with_reducible first | exact HBW.out | apply below_alloc | apply pw_below_drewN | apply below_drew1) | exact HBW.out))) : w.heap.size ≤ gb229)); have n4_ := Aside0.mk ((Nat.le_trans HW0.out (by rw [hg]; exact (below_size (by repeat (first | (with_reducible first | exact HBW.out | apply below_alloc | apply pw_below_drewN | apply below_drew1) | exact HBW.out))) : w.heap.size ≤ gb229) : w0.heap.size ≤ gb229)); clear HBW; clear HB; have HBW := n0_; have HB := n1_; have BK229 := n2_; have GW229 := n3_; have GE229 := n4_; clear n0_ n1_ n2_ n3_ n4_; clear hb hbox hg))
      go_ret
      exact ⟨_, rfl, (show IsS94 w0 _ gb229 (l0.take 2000) 0 from ⟨_, _, by (with_reducible repeat (first | refine blk_drewN ?_ _ | refine blk_drew ?_ | refine blk_alloc ?_ _)); exact BK229.out, GE229.out, HR228.out⟩), by repeat (first | (with_reducible first | exact HB.out | apply below_alloc | apply pw_below_drewN | apply below_drew1 | refine below_set ?_ GE229.out) | exact HB.out), by repeat (first | (with_reducible first | exact HBW.out | apply below_alloc | apply pw_below_drewN | apply below_drew1 | refine below_set ?_ GW229.out) | exact HBW.out)⟩
    · rw [if_neg c3] at H
      exact absurd H (by simp)
  · rw [if_neg c2] at H
    have c2b0 : decide (2000 < (l0.length : Int)) = false := decide_eq_false c2
    have c2b1 : decide (2000 < l0.length) = false := decide_eq_false (by omega)
    clear c2
    simp only [Option.some.injEq, Prod.mk.injEq] at H
    obtain ⟨rfl, rfl⟩ := H
    go_enter Try.func60, Try.ntmps60
    go_wp2_with (first | ((with_reducible refine gate_dst (N := 10) rfl ?_); refine box_event ?hg (N := 10) ?hd (cs := #[.slice A0 l0.length c0, .int .i64 0]) (t := 94) ?hr ?_; (case hd => rfl); (case hg => rfl); (case hr => first | (go_simp; done) | (go_simp; rfl)); intro gb230 hg w6 hbox hb; have n0_ := Aside0.mk (below_step HBW.out hb); have n1_ := Aside0.mk (below_step (by repeat (first | (with_reducible first | exact HB.out | apply below_alloc | apply pw_below_drewN | apply below_drew1) | exact HB.out)) hb); have n2_ := Aside0.mk (hbox); have n3_ := Aside0.mk ((by rw [hg]; exact (below_size (by repeat (first | (with_reducible first | exact HBW.out | apply below_alloc | apply pw_below_drewN | apply below_drew1) | exact HBW.out))) : w.heap.size ≤ gb230)); have n4_ := Aside0.mk ((Nat.le_trans HW0.out (by rw [hg]; exact (below_size (by repeat (first | (with_reducible first | exact HBW.out | apply below_alloc | apply pw_below_drewN | apply below_drew1) | exact HBW.out))) : w.heap.size ≤ gb230) : w0.heap.size ≤ gb230)); clear HBW; clear HB; have HBW := n0_; have HB := n1_; have BK230 := n2_; have GW230 := n3_; have GE230 := n4_; clear n0_ n1_ n2_ n3_ n4_; clear hb hbox hg))
    go_ret
    exact ⟨_, rfl, (show IsS94 w0 _ gb230 l0 0 from ⟨_, _, by (with_reducible repeat (first | refine blk_drewN ?_ _ | refine blk_drew ?_ | refine blk_alloc ?_ _)); exact BK230.out, GE230.out, HR0.out⟩), by repeat (first | (with_reducible first | exact HB.out | apply below_alloc | apply pw_below_drewN | apply below_drew1 | refine below_set ?_ GE230.out) | exact HB.out), by repeat (first | (with_reducible first | exact HBW.out | apply below_alloc | apply pw_below_drewN | apply below_drew1 | refine below_set ?_ GW230.out) | exact HBW.out)⟩

end Go.Proofs.Ytgcjadhmkhpbnaa.P
-- Laid by a program of this work.
namespace Go.Proofs.Ytgcjadhmkhpbnaa.P
open Go.RowKit Go.Proofs.YtgcjadhmkhpbnaaW.PrintWords Go.Proofs.YtgcjadhmkhpbnaaW.PrintLast Go.Proofs.YtgcjadhmkhpbnaaW.PrintMore
attribute [local go_sem] max2_int min2_int max_two min_two max_three min_three max_four min_four   -- for this text's walks alone
set_option linter.unusedVariables false
set_option linter.unusedSimpArgs false

/-! ### spec_l20Rd_pick: function 61 -/
def spec_l20Rd_pick.j0 : Nat → Int → Bool → List Int → Int → Option (Int × Int)
  | 0, _, _, _, _ => none
  | k + 1, x1, x24, x1000, x1001 => if x24 = true then (some (0, x1001)) else (if (wrap64 (x1001 - 1)) < (x1000.length : Int) then (if 0 ≤ (wrap64 (x1001 - 1)) then (if x1 = 0 then (none) else (some (Int.tmod (wrap64 (rd x1000 (wrap64 (x1001 - 1)))) x1, x1001))) else (none)) else (if (x1000.length : Int) = 0 then (none) else (if 0 ≤ (Int.tmod (wrap64 (x1001 - 1)) (x1000.length : Int)) then (if (Int.tmod (wrap64 (x1001 - 1)) (x1000.length : Int)) < (x1000.length : Int) then (if 0 ≤ (Int.tmod (wrap64 ((wrap64 ((wrap64 (x1001 - 1)) * 7)) + 3)) (x1000.length : Int)) then (if (Int.tmod (wrap64 ((wrap64 ((wrap64 (x1001 - 1)) * 7)) + 3)) (x1000.length : Int)) < (x1000.length : Int) then (if x1 = 0 then (none) else (some (Int.tmod (Go.bits .xor .i64 (wrap64 ((wrap64 ((wrap64 ((wrap64 ((wrap64 (rd x1000 (Int.tmod (wrap64 (x1001 - 1)) (x1000.length : Int)))) * 131)) + (wrap64 ((wrap64 (rd x1000 (Int.tmod (wrap64 ((wrap64 ((wrap64 (x1001 - 1)) * 7)) + 3)) (x1000.length : Int)))) * 1117)))) + (wrap64 ((wrap64 (x1001 - 1)) * 29)))) + (wrap64 ((wrap64 (Int.tdiv (wrap64 (x1001 - 1)) (x1000.length : Int))) * 53)))) (wrap64 (Int.tdiv (wrap64 ((wrap64 ((wrap64 ((wrap64 ((wrap64 (rd x1000 (Int.tmod (wrap64 (x1001 - 1)) (x1000.length : Int)))) * 131)) + (wrap64 ((wrap64 (rd x1000 (Int.tmod (wrap64 ((wrap64 ((wrap64 (x1001 - 1)) * 7)) + 3)) (x1000.length : Int)))) * 1117)))) + (wrap64 ((wrap64 (x1001 - 1)) * 29)))) + (wrap64 ((wrap64 (Int.tdiv (wrap64 (x1001 - 1)) (x1000.length : Int))) * 53)))) 64))) x1, x1001))) else (none)) else (none)) else (none)) else (none))))
def spec_l20Rd_pick.f (k : Nat) (s0_0 : List Int) (s0_1 : Int) (a1 : Int) : Option (Int × Int) := if a1 < 1 then (spec_l20Rd_pick.j0 k a1 true s0_0 (wrap64 (s0_1 + 1))) else (spec_l20Rd_pick.j0 k a1 ((s0_0.length : Int) == 0) s0_0 (wrap64 (s0_1 + 1)))
theorem spec_l20Rd_pick.mono_l : ∀ k, (∀ y0 y1 y2 y3, LeO (spec_l20Rd_pick.j0 k y0 y1 y2 y3) (spec_l20Rd_pick.j0 (k + 1) y0 y1 y2 y3))
  | 0 => fun _ _ _ _ r h => by simp [spec_l20Rd_pick.j0] at h
  | k + 1 => by
    have ih0 := spec_l20Rd_pick.mono_l k
    · intro y0 y1 y2 y3
      unfold spec_l20Rd_pick.j0
      repeat' first
      | (with_reducible exact ih0 _ _ _ _)
      | (with_reducible exact LeO.refl _)
      | (with_reducible exact LeO.none _)
      | (with_reducible refine LeO.ite ?_ ?_)
      | (with_reducible refine LeO.bind ?_ (fun _ => ?_))
      | exact ih0 _ _ _ _
      | exact LeO.none _
      | refine LeO.ite ?_ ?_
      | refine LeO.bind ?_ (fun _ => ?_)
theorem spec_l20Rd_pick.mono : ∀ a0 a1 a2 k, LeO (spec_l20Rd_pick.f k a0 a1 a2) (spec_l20Rd_pick.f (k + 1) a0 a1 a2) := by
  intro a0 a1 a2 k
  have ih0 := spec_l20Rd_pick.mono_l k
  unfold spec_l20Rd_pick.f
  repeat' first
      | (with_reducible exact ih0 _ _ _ _)
      | (with_reducible exact LeO.refl _)
      | (with_reducible exact LeO.none _)
      | (with_reducible refine LeO.ite ?_ ?_)
      | (with_reducible refine LeO.bind ?_ (fun _ => ?_))
      | exact ih0 _ _ _ _
      | exact LeO.none _
      | refine LeO.ite ?_ ?_
      | refine LeO.bind ?_ (fun _ => ?_)
set_option maxHeartbeats 8000000 in
set_option maxRecDepth 100000 in
theorem spec_l20Rd_pick.calls (k : Nat) (g : Nat) (s0_0 : List Int) (s0_1 : Int) (a1 : Int) (r1 : Int) (r2 : Int) (w0 w : World) (hI : IsS94 w0 w g s0_0 s0_1) (hB : Below w0.heap.size w0 w) (h : spec_l20Rd_pick.f k s0_0 s0_1 a1 = some (r1, r2)) :
    Calls Try.prog 61 #[.pointer (some ⟨g, 0, none⟩), .int .i64 a1] w fun e w' => e = .returned (.int .i64 r1) ∧ IsS94 w0 w' g s0_0 r2 ∧ Below w0.heap.size w0 w' ∧ KeepBut w w' g none := by
  have HI0 := Aside0.mk hI
  have HK := Aside0.mk (KeepBut.refl w g none)
  have HL := Aside0.mk hB.size
  clear hI
  have HW0 := Aside0.mk hB.size
  have HB := Aside0.mk hB
  clear hB
  have H : (if a1 < 1 then (spec_l20Rd_pick.j0 k a1 true s0_0 (wrap64 (s0_1 + 1))) else (spec_l20Rd_pick.j0 k a1 ((s0_0.length : Int) == 0) s0_0 (wrap64 (s0_1 + 1)))) = some (r1, r2) := h
  clear h
  have HC3 := Aside0.mk H
  clear H
  obtain ⟨ASz4_0, cSz4_0, HGz4, hgz4, HSz4_0⟩ := HI0.out
  have hcz4_0 := cellS94_0 HGz4
  have hcz4_1 := cellS94_1 HGz4
  have hfz4_1 := blk_frozen HGz4 1
  clear HGz4 hgz4
  go_enter Try.func61, Try.ntmps61
  go_upto_region 2 with (fail)
  repeat (go_quiet (fail); go_upto_region 2 with (fail))
  go_cut [24] (fun v24 wc => ∃ (kq : Nat) (x24_2 : Bool), v24 = .bool x24_2 ∧ Aside0 (spec_l20Rd_pick.j0 kq a1 x24_2 s0_0 (wrap64 (s0_1 + 1)) = some (r1, r2)) ∧ Aside0 (kq ≤ k) ∧ Aside0 (IsS94 w0 wc g s0_0 (wrap64 (s0_1 + 1))) ∧ Aside0 (KeepBut w wc g none) ∧ Aside0 (Below w0.heap.size w0 wc))
  case first =>
    have H := HC3.out
    clear HC3
    by_cases c5 : a1 < 1
    · rw [if_pos c5] at H
      have c5b0 : decide (a1 < 1) = true := decide_eq_true c5
      clear c5
      (first | rw [c5b0] | (simp only [i64_w, i32_w]; rw [c5b0]) | skip)
      have H' := Aside0.mk H
      clear H
      go_wp2
      repeat (go_quiet (fail); try go_wp2)
      go_meet
      case rel => exact ⟨_, (true), (by first | rfl | (simp; done) | (simp [*]; done)), H', ⟨by first | omega | exact Nat.le_refl _⟩, ⟨by repeat (first | (with_reducible first | exact HI0.out | apply IsS94.alloc | apply IsS94.drewN | apply IsS94.drew | apply IsS94.set_1) | exact HI0.out)⟩, ⟨by repeat (first | (with_reducible first | exact HK.out | apply KeepBut.set_ | apply keep_drewN | apply keep_drew | apply keep_alloc) | exact HK.out)⟩, ⟨by repeat (first | (with_reducible first | exact HB.out | apply below_alloc | apply pw_below_drewN | apply below_drew1 | refine below_set ?_ (IsS94.ge HI0.out)) | exact HB.out)⟩⟩
    · rw [if_neg c5] at H
      have c5b0 : decide (a1 < 1) = false := decide_eq_false c5
      clear c5
      (first | rw [c5b0] | (simp only [i64_w, i32_w]; rw [c5b0]) | skip)
      have H' := Aside0.mk H
      clear H
      obtain ⟨ASz6_0, cSz6_0, HGz6, hgz6, HSz6_0⟩ := HI0.out
      have hcz6_0 := cellS94_0 HGz6
      have hcz6_1 := cellS94_1 HGz6
      have hfz6_1 := blk_frozen HGz6 1
      clear HGz6 hgz6
      go_wp2
      repeat (go_quiet (fail); try go_wp2)
      go_meet
      case rel => exact ⟨_, (((s0_0.length : Int) == 0)), (by first | rfl | (simp; done) | (simp [*]; done)), H', ⟨by first | omega | exact Nat.le_refl _⟩, ⟨by repeat (first | (with_reducible first | exact HI0.out | apply IsS94.alloc | apply IsS94.drewN | apply IsS94.drew | apply IsS94.set_1) | exact HI0.out)⟩, ⟨by repeat (first | (with_reducible first | exact HK.out | apply KeepBut.set_ | apply keep_drewN | apply keep_drew | apply keep_alloc) | exact HK.out)⟩, ⟨by repeat (first | (with_reducible first | exact HB.out | apply below_alloc | apply pw_below_drewN | apply below_drew1 | refine below_set ?_ (IsS94.ge HI0.out)) | exact HB.out)⟩⟩
  case rest =>
    clear HC3
    try clear p2
    try clear c5
    try clear c5b0
    try clear c6
    try clear p6
    try clear hcz4_0
    try clear hcz4_1
    try clear hcz6_0
    try clear hcz6_1
    try clear hfz4_1
    try clear hfz6_1
    obtain ⟨kq, x24_2, rfl, HA, HJ2, HI0, HK, HB⟩ := hcut
    cases kq with
    | zero => exact absurd HA.out (by simp [spec_l20Rd_pick.j0])
    | succ kj2 =>
      have H := HA.out
      clear HA
      simp only [spec_l20Rd_pick.j0] at H
      by_cases c7 : x24_2 = true
      · subst c7
        have H1 : (some (0, (wrap64 (s0_1 + 1)))) = some (r1, r2) := by rw [if_pos rfl] at H; exact H
        clear H
        have H := H1
        clear H1
        simp only [Option.some.injEq, Prod.mk.injEq] at H
        obtain ⟨rfl, rfl⟩ := H
        go_wp2
        repeat (go_quiet (fail); try go_wp2)
        go_ret
        exact ⟨by first | rfl | (simp [errW_none, errW_some] <;> rfl) | (simp [*, errW_none, errW_some] <;> rfl), by repeat (first | (with_reducible first | exact HI0.out | apply IsS94.alloc | apply IsS94.drewN | apply IsS94.drew | apply IsS94.set_1) | exact HI0.out), by repeat (first | (with_reducible first | exact HB.out | apply below_alloc | apply pw_below_drewN | apply below_drew1 | refine below_set ?_ (IsS94.ge HI0.out)) | exact HB.out), by repeat (first | (with_reducible first | exact HK.out | apply KeepBut.set_ | apply keep_drewN | apply keep_drew | apply keep_alloc) | exact HK.out)⟩
      · replace c7 := Bool.eq_false_iff.mpr c7
        subst c7
        have H1 : (if (wrap64 ((wrap64 (s0_1 + 1)) - 1)) < (s0_0.length : Int) then (if 0 ≤ (wrap64 ((wrap64 (s0_1 + 1)) - 1)) then (if a1 = 0 then (none) else (some (Int.tmod (wrap64 (rd s0_0 (wrap64 ((wrap64 (s0_1 + 1)) - 1)))) a1, (wrap64 (s0_1 + 1))))) else (none)) else (if (s0_0.length : Int) = 0 then (none) else (if 0 ≤ (Int.tmod (wrap64 ((wrap64 (s0_1 + 1)) - 1)) (s0_0.length : Int)) then (if (Int.tmod (wrap64 ((wrap64 (s0_1 + 1)) - 1)) (s0_0.length : Int)) < (s0_0.length : Int) then (if 0 ≤ (Int.tmod (wrap64 ((wrap64 ((wrap64 ((wrap64 (s0_1 + 1)) - 1)) * 7)) + 3)) (s0_0.length : Int)) then (if (Int.tmod (wrap64 ((wrap64 ((wrap64 ((wrap64 (s0_1 + 1)) - 1)) * 7)) + 3)) (s0_0.length : Int)) < (s0_0.length : Int) then (if a1 = 0 then (none) else (some (Int.tmod (Go.bits .xor .i64 (wrap64 ((wrap64 ((wrap64 ((wrap64 ((wrap64 (rd s0_0 (Int.tmod (wrap64 ((wrap64 (s0_1 + 1)) - 1)) (s0_0.length : Int)))) * 131)) + (wrap64 ((wrap64 (rd s0_0 (Int.tmod (wrap64 ((wrap64 ((wrap64 ((wrap64 (s0_1 + 1)) - 1)) * 7)) + 3)) (s0_0.length : Int)))) * 1117)))) + (wrap64 ((wrap64 ((wrap64 (s0_1 + 1)) - 1)) * 29)))) + (wrap64 ((wrap64 (Int.tdiv (wrap64 ((wrap64 (s0_1 + 1)) - 1)) (s0_0.length : Int))) * 53)))) (wrap64 (Int.tdiv (wrap64 ((wrap64 ((wrap64 ((wrap64 ((wrap64 (rd s0_0 (Int.tmod (wrap64 ((wrap64 (s0_1 + 1)) - 1)) (s0_0.length : Int)))) * 131)) + (wrap64 ((wrap64 (rd s0_0 (Int.tmod (wrap64 ((wrap64 ((wrap64 ((wrap64 (s0_1 + 1)) - 1)) * 7)) + 3)) (s0_0.length : Int)))) * 1117)))) + (wrap64 ((wrap64 ((wrap64 (s0_1 + 1)) - 1)) * 29)))) + (wrap64 ((wrap64 (Int.tdiv (wrap64 ((wrap64 (s0_1 + 1)) - 1)) (s0_0.length : Int))) * 53)))) 64))) a1, (wrap64 (s0_1 + 1))))) else (none)) else (none)) else (none)) else (none)))) = some (r1, r2) := by rw [if_neg (show ¬ (false = true) by decide)] at H; exact H
        clear H
        have H := H1
        clear H1
        by_cases c8 : (wrap64 ((wrap64 (s0_1 + 1)) - 1)) < (s0_0.length : Int)
        · rw [if_pos c8] at H
          have c8b0 : decide ((wrap64 ((wrap64 (s0_1 + 1)) - 1)) < (s0_0.length : Int)) = true := decide_eq_true c8
          clear c8
          obtain ⟨ji9, hji9⟩ : ∃ j_ : Int, (wrap64 ((wrap64 (s0_1 + 1)) - 1)) = j_ := ⟨_, rfl⟩
          replace H : (if 0 ≤ (ji9) then (if a1 = 0 then (none) else (some (Int.tmod (wrap64 (rd s0_0 (ji9))) a1, (wrap64 (s0_1 + 1))))) else (none)) = some (r1, r2) := by first | (rw [hji9] at H; exact H) | (simp only [hji9] at H ⊢; exact H)
          (try rw [hji9] at c8b0)
          have hji9w : (IntKind.i64.wrap ((wrap64 (s0_1 + 1)) - 1)) = ji9 := (i64_w _).trans hji9
          by_cases c10 : 0 ≤ (ji9)
          · rw [if_pos c10] at H
            have c10b0 : decide (0 ≤ (ji9)) = true := decide_eq_true c10
            clear c10
            by_cases c11 : a1 = 0
            · rw [if_pos c11] at H
              exact absurd H (by simp)
            · rw [if_neg c11] at H
              have c11b0 : (a1 == 0) = false := beq_eq_false_iff_ne.mpr c11
              have c11b1 : (a1 != 0) = true := bne_iff_ne.mpr c11
              simp only [Option.some.injEq, Prod.mk.injEq] at H
              obtain ⟨rfl, rfl⟩ := H
              obtain ⟨ASz12_0, cSz12_0, HGz12, hgz12, HSz12_0⟩ := HI0.out
              have hcz12_0 := cellS94_0 HGz12
              have hcz12_1 := cellS94_1 HGz12
              have hfz12_1 := blk_frozen HGz12 1
              clear HGz12 hgz12
              have p231 : 0 ≤ ((ji9) : Int) := of_decide_eq_true (by first | (with_reducible assumption) | assumption)
              have q231 : (ji9) < (s0_0.length : Int) := of_decide_eq_true (by first | (with_reducible assumption) | assumption)
              obtain ⟨ad231, e231, hx231_0⟩ := Kd.at_int HSz12_0 (ji9) p231 q231
              cases e231
              replace hx231_0 := pw_cell_below HB.out hx231_0
              replace p231 := eq_true p231
              replace q231 := eq_true q231
              go_wp2
              repeat (go_quiet (fail); try go_wp2)
              go_ret
              exact ⟨by first | rfl | (simp [errW_none, errW_some] <;> rfl) | (simp only [← hji9]; first | rfl | (simp [errW_none, errW_some] <;> rfl)) | (simp [*, errW_none, errW_some] <;> rfl), by repeat (first | (with_reducible first | exact HI0.out | apply IsS94.alloc | apply IsS94.drewN | apply IsS94.drew | apply IsS94.set_1) | exact HI0.out), by repeat (first | (with_reducible first | exact HB.out | apply below_alloc | apply pw_below_drewN | apply below_drew1 | refine below_set ?_ (IsS94.ge HI0.out)) | exact HB.out), by repeat (first | (with_reducible first | exact HK.out | apply KeepBut.set_ | apply keep_drewN | apply keep_drew | apply keep_alloc) | exact HK.out)⟩
          · rw [if_neg c10] at H
            exact absurd H (by simp)
        · rw [if_neg c8] at H
          have c8b0 : decide ((wrap64 ((wrap64 (s0_1 + 1)) - 1)) < (s0_0.length : Int)) = false := decide_eq_false c8
          clear c8
          by_cases c13 : (s0_0.length : Int) = 0
          · rw [if_pos c13] at H
            exact absurd H (by simp)
          · rw [if_neg c13] at H
            have c13b0 : ((s0_0.length : Int) == 0) = false := beq_eq_false_iff_ne.mpr c13
            have c13b1 : ((s0_0.length : Int) != 0) = true := bne_iff_ne.mpr c13
            have c13b2 : ¬ (s0_0 = []) := fun h_ => c13 (by rw [h_]; rfl)
            obtain ⟨ji14, hji14⟩ : ∃ j_ : Int, (Int.tmod (wrap64 ((wrap64 (s0_1 + 1)) - 1)) (s0_0.length : Int)) = j_ := ⟨_, rfl⟩
            replace H : (if 0 ≤ (ji14) then (if (ji14) < (s0_0.length : Int) then (if 0 ≤ (Int.tmod (wrap64 ((wrap64 ((wrap64 ((wrap64 (s0_1 + 1)) - 1)) * 7)) + 3)) (s0_0.length : Int)) then (if (Int.tmod (wrap64 ((wrap64 ((wrap64 ((wrap64 (s0_1 + 1)) - 1)) * 7)) + 3)) (s0_0.length : Int)) < (s0_0.length : Int) then (if a1 = 0 then (none) else (some (Int.tmod (Go.bits .xor .i64 (wrap64 ((wrap64 ((wrap64 ((wrap64 ((wrap64 (rd s0_0 (ji14))) * 131)) + (wrap64 ((wrap64 (rd s0_0 (Int.tmod (wrap64 ((wrap64 ((wrap64 ((wrap64 (s0_1 + 1)) - 1)) * 7)) + 3)) (s0_0.length : Int)))) * 1117)))) + (wrap64 ((wrap64 ((wrap64 (s0_1 + 1)) - 1)) * 29)))) + (wrap64 ((wrap64 (Int.tdiv (wrap64 ((wrap64 (s0_1 + 1)) - 1)) (s0_0.length : Int))) * 53)))) (wrap64 (Int.tdiv (wrap64 ((wrap64 ((wrap64 ((wrap64 ((wrap64 (rd s0_0 (ji14))) * 131)) + (wrap64 ((wrap64 (rd s0_0 (Int.tmod (wrap64 ((wrap64 ((wrap64 ((wrap64 (s0_1 + 1)) - 1)) * 7)) + 3)) (s0_0.length : Int)))) * 1117)))) + (wrap64 ((wrap64 ((wrap64 (s0_1 + 1)) - 1)) * 29)))) + (wrap64 ((wrap64 (Int.tdiv (wrap64 ((wrap64 (s0_1 + 1)) - 1)) (s0_0.length : Int))) * 53)))) 64))) a1, (wrap64 (s0_1 + 1))))) else (none)) else (none)) else (none)) else (none)) = some (r1, r2) := by first | (rw [hji14] at H; exact H) | (simp only [hji14] at H ⊢; exact H)
            by_cases c15 : 0 ≤ (ji14)
            · rw [if_pos c15] at H
              have c15b0 : decide (0 ≤ (ji14)) = true := decide_eq_true c15
              clear c15
              by_cases c16 : (ji14) < (s0_0.length : Int)
              · rw [if_pos c16] at H
                have c16b0 : decide ((ji14) < (s0_0.length : Int)) = true := decide_eq_true c16
                clear c16
                obtain ⟨ji17, hji17⟩ : ∃ j_ : Int, (Int.tmod (wrap64 ((wrap64 ((wrap64 ((wrap64 (s0_1 + 1)) - 1)) * 7)) + 3)) (s0_0.length : Int)) = j_ := ⟨_, rfl⟩
                replace H : (if 0 ≤ (ji17) then (if (ji17) < (s0_0.length : Int) then (if a1 = 0 then (none) else (some (Int.tmod (Go.bits .xor .i64 (wrap64 ((wrap64 ((wrap64 ((wrap64 ((wrap64 (rd s0_0 (ji14))) * 131)) + (wrap64 ((wrap64 (rd s0_0 (ji17))) * 1117)))) + (wrap64 ((wrap64 ((wrap64 (s0_1 + 1)) - 1)) * 29)))) + (wrap64 ((wrap64 (Int.tdiv (wrap64 ((wrap64 (s0_1 + 1)) - 1)) (s0_0.length : Int))) * 53)))) (wrap64 (Int.tdiv (wrap64 ((wrap64 ((wrap64 ((wrap64 ((wrap64 (rd s0_0 (ji14))) * 131)) + (wrap64 ((wrap64 (rd s0_0 (ji17))) * 1117)))) + (wrap64 ((wrap64 ((wrap64 (s0_1 + 1)) - 1)) * 29)))) + (wrap64 ((wrap64 (Int.tdiv (wrap64 ((wrap64 (s0_1 + 1)) - 1)) (s0_0.length : Int))) * 53)))) 64))) a1, (wrap64 (s0_1 + 1))))) else (none)) else (none)) = some (r1, r2) := by first | (rw [hji17] at H; exact H) | (simp only [hji17] at H ⊢; exact H)
                by_cases c18 : 0 ≤ (ji17)
                · rw [if_pos c18] at H
                  have c18b0 : decide (0 ≤ (ji17)) = true := decide_eq_true c18
                  clear c18
                  by_cases c19 : (ji17) < (s0_0.length : Int)
                  · rw [if_pos c19] at H
                    have c19b0 : decide ((ji17) < (s0_0.length : Int)) = true := decide_eq_true c19
                    clear c19
                    by_cases c20 : a1 = 0
                    · rw [if_pos c20] at H
                      exact absurd H (by simp)
                    · rw [if_neg c20] at H
                      have c20b0 : (a1 == 0) = false := beq_eq_false_iff_ne.mpr c20
                      have c20b1 : (a1 != 0) = true := bne_iff_ne.mpr c20
                      simp only [Option.some.injEq, Prod.mk.injEq] at H
                      obtain ⟨rfl, rfl⟩ := H
                      obtain ⟨ASz21_0, cSz21_0, HGz21, hgz21, HSz21_0⟩ := HI0.out
                      have hcz21_0 := cellS94_0 HGz21
                      have hcz21_1 := cellS94_1 HGz21
                      have hfz21_1 := blk_frozen HGz21 1
                      clear HGz21 hgz21
                      have p232 : 0 ≤ ((ji14) : Int) := of_decide_eq_true (by first | (with_reducible assumption) | assumption)
                      have q232 : (ji14) < (s0_0.length : Int) := of_decide_eq_true (by first | (with_reducible assumption) | assumption)
                      obtain ⟨ad232, e232, hx232_0⟩ := Kd.at_int HSz21_0 (ji14) p232 q232
                      cases e232
                      replace hx232_0 := pw_cell_below HB.out hx232_0
                      replace p232 := eq_true p232
                      replace q232 := eq_true q232
                      have p233 : 0 ≤ ((ji17) : Int) := of_decide_eq_true (by first | (with_reducible assumption) | assumption)
                      have q233 : (ji17) < (s0_0.length : Int) := of_decide_eq_true (by first | (with_reducible assumption) | assumption)
                      obtain ⟨ad233, e233, hx233_0⟩ := Kd.at_int HSz21_0 (ji17) p233 q233
                      obtain rfl : ad232 = ad233 := (by injection e233)
                      replace hx233_0 := pw_cell_below HB.out hx233_0
                      replace p233 := eq_true p233
                      replace q233 := eq_true q233
                      go_wp2
                      repeat (go_quiet (fail); try go_wp2)
                      go_ret
                      exact ⟨by first | rfl | (simp [errW_none, errW_some] <;> rfl) | (simp only [← hji14, ← hji17]; first | rfl | (simp [errW_none, errW_some] <;> rfl)) | (simp [*, errW_none, errW_some] <;> rfl), by repeat (first | (with_reducible first | exact HI0.out | apply IsS94.alloc | apply IsS94.drewN | apply IsS94.drew | apply IsS94.set_1) | exact HI0.out), by repeat (first | (with_reducible first | exact HB.out | apply below_alloc | apply pw_below_drewN | apply below_drew1 | refine below_set ?_ (IsS94.ge HI0.out)) | exact HB.out), by repeat (first | (with_reducible first | exact HK.out | apply KeepBut.set_ | apply keep_drewN | apply keep_drew | apply keep_alloc) | exact HK.out)⟩
                  · rw [if_neg c19] at H
                    exact absurd H (by simp)
                · rw [if_neg c18] at H
                  exact absurd H (by simp)
              · rw [if_neg c16] at H
                exact absurd H (by simp)
            · rw [if_neg c15] at H
              exact absurd H (by simp)

end Go.Proofs.Ytgcjadhmkhpbnaa.P
-- Laid by a program of this work.
namespace Go.Proofs.Ytgcjadhmkhpbnaa.P
open Go.RowKit Go.Proofs.YtgcjadhmkhpbnaaW.PrintWords Go.Proofs.YtgcjadhmkhpbnaaW.PrintLast Go.Proofs.YtgcjadhmkhpbnaaW.PrintMore
attribute [local go_sem] max2_int min2_int max_two min_two max_three min_three max_four min_four   -- for this text's walks alone
set_option linter.unusedVariables false
set_option linter.unusedSimpArgs false

/-! ### spec_l20Rd_odd: function 103 -/
def spec_l20Rd_odd.f (k : Nat) (s0_0 : List Int) (s0_1 : Int) (a1 : Int) : Option (Bool × Int) := if a1 > 0 then ((spec_l20Rd_pick.f k s0_0 s0_1 a1).bind fun bt234 => (some ((bt234.1 == (wrap64 (a1 - 1))), bt234.2))) else (some (false, s0_1))
theorem spec_l20Rd_odd.mono : ∀ a0 a1 a2 k, LeO (spec_l20Rd_odd.f k a0 a1 a2) (spec_l20Rd_odd.f (k + 1) a0 a1 a2) := by
  intro a0 a1 a2 k
  unfold spec_l20Rd_odd.f
  repeat' first
      | (with_reducible exact spec_l20Rd_pick.mono _ _ _ _)
      | (with_reducible exact LeO.refl _)
      | (with_reducible exact LeO.none _)
      | (with_reducible refine LeO.ite ?_ ?_)
      | (with_reducible refine LeO.bind ?_ (fun _ => ?_))
      | exact spec_l20Rd_pick.mono _ _ _ _
      | exact LeO.none _
      | refine LeO.ite ?_ ?_
      | refine LeO.bind ?_ (fun _ => ?_)
set_option maxHeartbeats 8000000 in
set_option maxRecDepth 100000 in
theorem spec_l20Rd_odd.calls (k : Nat) (g : Nat) (s0_0 : List Int) (s0_1 : Int) (a1 : Int) (r1 : Bool) (r2 : Int) (w0 w : World) (hI : IsS94 w0 w g s0_0 s0_1) (hB : Below w0.heap.size w0 w) (h : spec_l20Rd_odd.f k s0_0 s0_1 a1 = some (r1, r2)) :
    Calls Try.prog 103 #[.pointer (some ⟨g, 0, none⟩), .int .i64 a1] w fun e w' => e = .returned (.bool r1) ∧ IsS94 w0 w' g s0_0 r2 ∧ Below w0.heap.size w0 w' ∧ KeepBut w w' g none := by
  have HI0 := Aside0.mk hI
  have HK := Aside0.mk (KeepBut.refl w g none)
  have HL := Aside0.mk hB.size
  clear hI
  have HW0 := Aside0.mk hB.size
  have HB := Aside0.mk hB
  clear hB
  have H : (if a1 > 0 then ((spec_l20Rd_pick.f k s0_0 s0_1 a1).bind fun bt234 => (some ((bt234.1 == (wrap64 (a1 - 1))), bt234.2))) else (some (false, s0_1))) = some (r1, r2) := h
  clear h
  by_cases c3 : a1 > 0
  · rw [if_pos c3] at H
    have c3b0 : decide (0 < a1) = true := decide_eq_true c3
    clear c3
    replace H := Option.bind_eq_some_iff.mp H
    obtain ⟨⟨t234, t235⟩, A40, H⟩ := H
    replace H : (some ((t234 == (wrap64 (a1 - 1))), t235)) = some (r1, r2) := H
    have A4 := Aside0.mk A40
    clear A40
    simp only [Option.some.injEq, Prod.mk.injEq] at H
    obtain ⟨rfl, rfl⟩ := H
    go_enter Try.func103, Try.ntmps103
    go_wp2_with (first | (go_at_call 61; (with_reducible refine (spec_l20Rd_pick.calls k g s0_0 s0_1 a1 t234 t235 w0 _ ?side1 ?side2 A4.out).mono ?_); (case side1 => repeat (first | (with_reducible first | exact HI0.out | apply IsS94.alloc | apply IsS94.drewN | apply IsS94.drew | apply IsS94.set_1) | exact HI0.out)); (case side2 => repeat (first | (with_reducible first | exact HB.out | apply below_alloc | apply pw_below_drewN | apply below_drew1 | refine below_set ?_ (IsS94.ge HI0.out)) | exact HB.out)); rintro e w5 ⟨rfl, hi, hb, hk⟩; have n0_ := Aside0.mk (KeepBut.trans (by repeat (first | (with_reducible first | exact HK.out | apply KeepBut.set_ | apply keep_drewN | apply keep_drew | apply keep_alloc) | exact HK.out)) hk (.inl rfl)); have n1_ := Aside0.mk (hb); have n2_ := Aside0.mk (hi); clear HK; clear HB; clear HI0; have HK := n0_; have HB := n1_; have HI0 := n2_; clear n0_ n1_ n2_; (try clear hb); (try clear hb2); (try clear hk); (try clear hi)))
    go_ret
    exact ⟨by first | rfl | (simp [errW_none, errW_some] <;> rfl) | (simp [*, errW_none, errW_some] <;> rfl), by repeat (first | (with_reducible first | exact HI0.out | apply IsS94.alloc | apply IsS94.drewN | apply IsS94.drew | apply IsS94.set_1) | exact HI0.out), by repeat (first | (with_reducible first | exact HB.out | apply below_alloc | apply pw_below_drewN | apply below_drew1 | refine below_set ?_ (IsS94.ge HI0.out)) | exact HB.out), by repeat (first | (with_reducible first | exact HK.out | apply KeepBut.set_ | apply keep_drewN | apply keep_drew | apply keep_alloc) | exact HK.out)⟩
  · rw [if_neg c3] at H
    have c3b0 : decide (0 < a1) = false := decide_eq_false c3
    clear c3
    simp only [Option.some.injEq, Prod.mk.injEq] at H
    obtain ⟨rfl, rfl⟩ := H
    go_enter Try.func103, Try.ntmps103
    go_wp2
    go_ret
    exact ⟨by first | rfl | (simp [errW_none, errW_some] <;> rfl) | (simp [*, errW_none, errW_some] <;> rfl), by repeat (first | (with_reducible first | exact HI0.out | apply IsS94.alloc | apply IsS94.drewN | apply IsS94.drew | apply IsS94.set_1) | exact HI0.out), by repeat (first | (with_reducible first | exact HB.out | apply below_alloc | apply pw_below_drewN | apply below_drew1 | refine below_set ?_ (IsS94.ge HI0.out)) | exact HB.out), by repeat (first | (with_reducible first | exact HK.out | apply KeepBut.set_ | apply keep_drewN | apply keep_drew | apply keep_alloc) | exact HK.out)⟩

end Go.Proofs.Ytgcjadhmkhpbnaa.P
