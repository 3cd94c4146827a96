/- The law FnRunNonPreemptive for every input, part 6 of its proof: what the program's functions answer, and the plain law. No condition. -/
import Derived.Test.YtkdfjomhichkoaaMFnRunNonPreemptive1
import Derived.Test.YtkdfjomhichkoaaMFnRunNonPreemptive3
import Derived.Test.YtkdfjomhichkoaaMFnRunNonPreemptive4
import Derived.Test.YtkdfjomhichkoaaMFnRunNonPreemptive5
import Derived.Laws.BitsLemmas
-- Laid by a program of this work.
namespace Go.Proofs.Ytkdfjomhichkoaa.P
open Go.RowKit Go.Proofs.YtkdfjomhichkoaaW.PrintWords Go.Proofs.YtkdfjomhichkoaaW.PrintLast Go.Proofs.YtkdfjomhichkoaaW.PrintMore
attribute [local go_sem] max2_int min2_int max_two min_two max_three min_three max_four min_four   -- for this text's walks alone
set_option linter.unusedVariables false
set_option linter.unusedSimpArgs false

/-! ### spec_l3Best: function 58 -/
def spec_l3Best.l0 : Nat → List (S34) → List Int → List Int → Int → Int → Int → Option (Int)
 | 0, _, _, _, _, _, _ => none
 | k + 1, x0, x1, x2, x3, x9, x10 => if x10 < (x0.length : Int) then (if 0 ≤ x10 then (if ((rd_T34 x0 x10).f1) ≤ x3 then (if x10 < (x1.length : Int) then (if (rd x1 x10) > 0 then (if x9 < 0 then (spec_l3Best.l0 k x0 x1 x2 x3 x10 (wrap64 (x10 + 1))) else (if x10 < (x2.length : Int) then (if 0 ≤ x9 then (if x9 < (x2.length : Int) then (if (rd x2 x10) < (rd x2 x9) then (spec_l3Best.l0 k x0 x1 x2 x3 x10 (wrap64 (x10 + 1))) else (spec_l3Best.l0 k x0 x1 x2 x3 x9 (wrap64 (x10 + 1)))) else (none)) else (none)) else (none))) else (spec_l3Best.l0 k x0 x1 x2 x3 x9 (wrap64 (x10 + 1)))) else (none)) else (spec_l3Best.l0 k x0 x1 x2 x3 x9 (wrap64 (x10 + 1)))) else (none)) else (some x9)
def spec_l3Best.f (k : Nat) (l0 : List (S34)) (l1 : List Int) (l2 : List Int) (a3 : Int) : Option (Int) := spec_l3Best.l0 k l0 l1 l2 a3 (-1) 0
theorem spec_l3Best.mono_l : ∀ k, (∀ y0 y1 y2 y3 y4 y5, LeO (spec_l3Best.l0 k y0 y1 y2 y3 y4 y5) (spec_l3Best.l0 (k + 1) y0 y1 y2 y3 y4 y5))
 | 0 => fun _ _ _ _ _ _ r h => by simp [spec_l3Best.l0] at h
 | k + 1 => by
  have ih0 := spec_l3Best.mono_l k
  ·intro y0 y1 y2 y3 y4 y5
   unfold spec_l3Best.l0
   repeat' first
   | (with_reducible exact ih0 _ _ _ _ _ _)
   | (with_reducible exact LeO.refl _)
   | (with_reducible exact LeO.none _)
   | (with_reducible refine LeO.ite ?_ ?_)
   | (with_reducible refine LeO.bind ?_ (fun _ => ?_))
   | exact ih0 _ _ _ _ _ _
   | exact LeO.none _
   | refine LeO.ite ?_ ?_
   | refine LeO.bind ?_ (fun _ => ?_)
theorem spec_l3Best.mono : ∀ a0 a1 a2 a3 k, LeO (spec_l3Best.f k a0 a1 a2 a3) (spec_l3Best.f (k + 1) a0 a1 a2 a3) := by
 intro a0 a1 a2 a3 k
 have ih0 := spec_l3Best.mono_l k
 unfold spec_l3Best.f
 repeat' first
   | (with_reducible exact ih0 _ _ _ _ _ _)
   | (with_reducible exact LeO.refl _)
   | (with_reducible exact LeO.none _)
   | (with_reducible refine LeO.ite ?_ ?_)
   | (with_reducible refine LeO.bind ?_ (fun _ => ?_))
   | exact ih0 _ _ _ _ _ _
   | exact LeO.none _
   | refine LeO.ite ?_ ?_
   | refine LeO.bind ?_ (fun _ => ?_)
set_option maxHeartbeats 8000000 in
set_option maxRecDepth 100000 in
theorem spec_l3Best.calls (k : Nat) (A0 : Option Addr) (c0 : Nat) (l0 : List (S34)) (A1 : Option Addr) (c1 : Nat) (l1 : List Int) (A2 : Option Addr) (c2 : Nat) (l2 : List Int) (a3 : Int) (r : Int) (w : World) (hr0 : Kd.C k34 w A0 l0.length l0) (hc0 : l0.length ≤ c0) (hr1 : Kd.C (Kd.int .i64) w A1 l1.length l1) (hc1 : l1.length ≤ c1) (hr2 : Kd.C (Kd.int .i64) w A2 l2.length l2) (hc2 : l2.length ≤ c2) (h : spec_l3Best.f k l0 l1 l2 a3 = some r) :
  Calls Try.prog 58 #[.slice A0 l0.length c0, .slice A1 l1.length c1, .slice A2 l2.length c2, .int .i64 a3] w fun e w' => e = .returned (.int .i64 r) ∧ Drawn0 w w' := by
 have HR0 := Aside0.mk hr0
 have HC0 := Aside0.mk hc0
 clear hr0 hc0
 have HR1 := Aside0.mk hr1
 have HC1 := Aside0.mk hc1
 clear hr1 hc1
 have HR2 := Aside0.mk hr2
 have HC2 := Aside0.mk hc2
 clear hr2 hc2
 have H : (spec_l3Best.l0 k l0 l1 l2 a3 (-1) 0) = some r := h
 clear h
 have H' := Aside0.mk H
 clear H
 go_enter Try.func58, Try.ntmps58
 go_wp2
 repeat (go_quiet (fail); try go_wp2)
 go_loopg [9, 10] k (fun kq v9 v10 w' => ∃ (x9_1 : Int) (x10_1 : Int), v9 = .int .i64 x9_1 ∧ v10 = .int .i64 x10_1 ∧ Aside0 (spec_l3Best.l0 kq l0 l1 l2 a3 x9_1 x10_1 = some r) ∧ Aside0 (kq ≤ k) ∧ Drawn0 w w')
 case atStart => exact ⟨((-1)), (0), (by first | rfl | (simp; done) | (simp [*]; done)), (by first | rfl | (simp; done) | (simp [*]; done)), H', ⟨Nat.le_refl _⟩, by repeat (first | exact Drawn0.refl _ | apply Drawn0.step)⟩
 case round =>
  clear H'
  try clear c1
  try clear c2
  try clear p2
  obtain ⟨x9_1, x10_1, rfl, rfl, HA, HK1, ⟨m1, rfl⟩⟩ := hrel
  cases gk with
  | zero => exact absurd HA.out (by simp [spec_l3Best.l0])
  | succ k1 =>
   have H := HA.out
   clear HA
   simp only [spec_l3Best.l0] at H
   by_cases c5 : x10_1 < (l0.length : Int)
   ·rw [if_pos c5] at H
    have c5b0 : decide (x10_1 < (l0.length : Int)) = true := decide_eq_true c5
    clear c5
    by_cases c6 : 0 ≤ x10_1
    ·rw [if_pos c6] at H
     have c6b0 : decide (0 ≤ x10_1) = true := decide_eq_true c6
     clear c6
     by_cases c7 : ((rd_T34 l0 x10_1).f1) ≤ a3
     ·rw [if_pos c7] at H
      have c7b0 : decide (((rd_T34 l0 x10_1).f1) ≤ a3) = true := decide_eq_true c7
      clear c7
      by_cases c8 : x10_1 < (l1.length : Int)
      ·rw [if_pos c8] at H
       have c8b0 : decide (x10_1 < (l1.length : Int)) = true := decide_eq_true c8
       clear c8
       by_cases c9 : (rd l1 x10_1) > 0
       ·rw [if_pos c9] at H
        have c9b0 : decide (0 < (rd l1 x10_1)) = true := decide_eq_true c9
        clear c9
        by_cases c10 : x9_1 < 0
        ·rw [if_pos c10] at H
         have c10b0 : decide (x9_1 < 0) = true := decide_eq_true c10
         clear c10
         have H' := Aside0.mk H
         clear H
         have p337 : 0 ≤ (x10_1 : Int) := of_decide_eq_true (by first | (with_reducible assumption) | assumption)
         have q337 : x10_1 < (l0.length : Int) := of_decide_eq_true (by first | (with_reducible assumption) | assumption)
         obtain ⟨ad337, e337, hx337_0, hx337_1, hx337_2, hx337_3⟩ := at_T34 HR0.out x10_1 p337 q337
         cases e337
         replace p337 := eq_true p337
         replace q337 := eq_true q337
         have p338 : 0 ≤ (x10_1 : Int) := of_decide_eq_true (by first | (with_reducible assumption) | assumption)
         have q338 : x10_1 < (l1.length : Int) := of_decide_eq_true (by first | (with_reducible assumption) | assumption)
         obtain ⟨ad338, e338, hx338_0⟩ := Kd.at_int HR1.out x10_1 p338 q338
         cases e338
         replace p338 := eq_true p338
         replace q338 := eq_true q338
         go_wp2
         repeat (go_quiet (fail); try go_wp2)
         go_roundg k1
         case measure => have := HK1.out; omega
         case rel => exact ⟨(x10_1), (wrap64 (x10_1 + 1)), (by first | rfl | (simp; done) | (simp [*]; done)), (by first | rfl | (simp; done) | (simp [*]; done)), H', ⟨by have := HK1.out; omega⟩, by repeat (first | exact Drawn0.refl _ | apply Drawn0.step)⟩
        ·rw [if_neg c10] at H
         have c10b0 : decide (x9_1 < 0) = false := decide_eq_false c10
         clear c10
         by_cases c11 : x10_1 < (l2.length : Int)
         ·rw [if_pos c11] at H
          have c11b0 : decide (x10_1 < (l2.length : Int)) = true := decide_eq_true c11
          clear c11
          by_cases c12 : 0 ≤ x9_1
          ·rw [if_pos c12] at H
           have c12b0 : decide (0 ≤ x9_1) = true := decide_eq_true c12
           clear c12
           by_cases c13 : x9_1 < (l2.length : Int)
           ·rw [if_pos c13] at H
            have c13b0 : decide (x9_1 < (l2.length : Int)) = true := decide_eq_true c13
            clear c13
            by_cases c14 : (rd l2 x10_1) < (rd l2 x9_1)
            ·rw [if_pos c14] at H
             have c14b0 : decide ((rd l2 x10_1) < (rd l2 x9_1)) = true := decide_eq_true c14
             clear c14
             have H' := Aside0.mk H
             clear H
             have p337 : 0 ≤ (x10_1 : Int) := of_decide_eq_true (by first | (with_reducible assumption) | assumption)
             have q337 : x10_1 < (l0.length : Int) := of_decide_eq_true (by first | (with_reducible assumption) | assumption)
             obtain ⟨ad337, e337, hx337_0, hx337_1, hx337_2, hx337_3⟩ := at_T34 HR0.out x10_1 p337 q337
             cases e337
             replace p337 := eq_true p337
             replace q337 := eq_true q337
             have p338 : 0 ≤ (x10_1 : Int) := of_decide_eq_true (by first | (with_reducible assumption) | assumption)
             have q338 : x10_1 < (l1.length : Int) := of_decide_eq_true (by first | (with_reducible assumption) | assumption)
             obtain ⟨ad338, e338, hx338_0⟩ := Kd.at_int HR1.out x10_1 p338 q338
             cases e338
             replace p338 := eq_true p338
             replace q338 := eq_true q338
             have p339 : 0 ≤ (x10_1 : Int) := of_decide_eq_true (by first | (with_reducible assumption) | assumption)
             have q339 : x10_1 < (l2.length : Int) := of_decide_eq_true (by first | (with_reducible assumption) | assumption)
             obtain ⟨ad339, e339, hx339_0⟩ := Kd.at_int HR2.out x10_1 p339 q339
             cases e339
             replace p339 := eq_true p339
             replace q339 := eq_true q339
             have p340 : 0 ≤ (x9_1 : Int) := of_decide_eq_true (by first | (with_reducible assumption) | assumption)
             have q340 : x9_1 < (l2.length : Int) := of_decide_eq_true (by first | (with_reducible assumption) | assumption)
             obtain ⟨ad340, e340, hx340_0⟩ := Kd.at_int HR2.out x9_1 p340 q340
             obtain rfl : ad339 = ad340 := (by injection e340)
             replace p340 := eq_true p340
             replace q340 := eq_true q340
             go_wp2
             repeat (go_quiet (fail); try go_wp2)
             go_roundg k1
             case measure => have := HK1.out; omega
             case rel => exact ⟨(x10_1), (wrap64 (x10_1 + 1)), (by first | rfl | (simp; done) | (simp [*]; done)), (by first | rfl | (simp; done) | (simp [*]; done)), H', ⟨by have := HK1.out; omega⟩, by repeat (first | exact Drawn0.refl _ | apply Drawn0.step)⟩
            ·rw [if_neg c14] at H
             have c14b0 : decide ((rd l2 x10_1) < (rd l2 x9_1)) = false := decide_eq_false c14
             clear c14
             have H' := Aside0.mk H
             clear H
             have p337 : 0 ≤ (x10_1 : Int) := of_decide_eq_true (by first | (with_reducible assumption) | assumption)
             have q337 : x10_1 < (l0.length : Int) := of_decide_eq_true (by first | (with_reducible assumption) | assumption)
             obtain ⟨ad337, e337, hx337_0, hx337_1, hx337_2, hx337_3⟩ := at_T34 HR0.out x10_1 p337 q337
             cases e337
             replace p337 := eq_true p337
             replace q337 := eq_true q337
             have p338 : 0 ≤ (x10_1 : Int) := of_decide_eq_true (by first | (with_reducible assumption) | assumption)
             have q338 : x10_1 < (l1.length : Int) := of_decide_eq_true (by first | (with_reducible assumption) | assumption)
             obtain ⟨ad338, e338, hx338_0⟩ := Kd.at_int HR1.out x10_1 p338 q338
             cases e338
             replace p338 := eq_true p338
             replace q338 := eq_true q338
             have p339 : 0 ≤ (x10_1 : Int) := of_decide_eq_true (by first | (with_reducible assumption) | assumption)
             have q339 : x10_1 < (l2.length : Int) := of_decide_eq_true (by first | (with_reducible assumption) | assumption)
             obtain ⟨ad339, e339, hx339_0⟩ := Kd.at_int HR2.out x10_1 p339 q339
             cases e339
             replace p339 := eq_true p339
             replace q339 := eq_true q339
             have p340 : 0 ≤ (x9_1 : Int) := of_decide_eq_true (by first | (with_reducible assumption) | assumption)
             have q340 : x9_1 < (l2.length : Int) := of_decide_eq_true (by first | (with_reducible assumption) | assumption)
             obtain ⟨ad340, e340, hx340_0⟩ := Kd.at_int HR2.out x9_1 p340 q340
             obtain rfl : ad339 = ad340 := (by injection e340)
             replace p340 := eq_true p340
             replace q340 := eq_true q340
             go_wp2
             repeat (go_quiet (fail); try go_wp2)
             go_roundg k1
             case measure => have := HK1.out; omega
             case rel => exact ⟨(x9_1), (wrap64 (x10_1 + 1)), (by first | rfl | (simp; done) | (simp [*]; done)), (by first | rfl | (simp; done) | (simp [*]; done)), H', ⟨by have := HK1.out; omega⟩, by repeat (first | exact Drawn0.refl _ | apply Drawn0.step)⟩
           ·rw [if_neg c13] at H
            exact absurd H (by simp)
          ·rw [if_neg c12] at H
           exact absurd H (by simp)
         ·rw [if_neg c11] at H
          exact absurd H (by simp)
       ·rw [if_neg c9] at H
        have c9b0 : decide (0 < (rd l1 x10_1)) = false := decide_eq_false c9
        clear c9
        have H' := Aside0.mk H
        clear H
        have p337 : 0 ≤ (x10_1 : Int) := of_decide_eq_true (by first | (with_reducible assumption) | assumption)
        have q337 : x10_1 < (l0.length : Int) := of_decide_eq_true (by first | (with_reducible assumption) | assumption)
        obtain ⟨ad337, e337, hx337_0, hx337_1, hx337_2, hx337_3⟩ := at_T34 HR0.out x10_1 p337 q337
        cases e337
        replace p337 := eq_true p337
        replace q337 := eq_true q337
        have p338 : 0 ≤ (x10_1 : Int) := of_decide_eq_true (by first | (with_reducible assumption) | assumption)
        have q338 : x10_1 < (l1.length : Int) := of_decide_eq_true (by first | (with_reducible assumption) | assumption)
        obtain ⟨ad338, e338, hx338_0⟩ := Kd.at_int HR1.out x10_1 p338 q338
        cases e338
        replace p338 := eq_true p338
        replace q338 := eq_true q338
        go_wp2
        repeat (go_quiet (fail); try go_wp2)
        go_roundg k1
        case measure => have := HK1.out; omega
        case rel => exact ⟨(x9_1), (wrap64 (x10_1 + 1)), (by first | rfl | (simp; done) | (simp [*]; done)), (by first | rfl | (simp; done) | (simp [*]; done)), H', ⟨by have := HK1.out; omega⟩, by repeat (first | exact Drawn0.refl _ | apply Drawn0.step)⟩
      ·rw [if_neg c8] at H
       exact absurd H (by simp)
     ·rw [if_neg c7] at H
      have c7b0 : decide (((rd_T34 l0 x10_1).f1) ≤ a3) = false := decide_eq_false c7
      clear c7
      have H' := Aside0.mk H
      clear H
      have p337 : 0 ≤ (x10_1 : Int) := of_decide_eq_true (by first | (with_reducible assumption) | assumption)
      have q337 : x10_1 < (l0.length : Int) := of_decide_eq_true (by first | (with_reducible assumption) | assumption)
      obtain ⟨ad337, e337, hx337_0, hx337_1, hx337_2, hx337_3⟩ := at_T34 HR0.out x10_1 p337 q337
      cases e337
      replace p337 := eq_true p337
      replace q337 := eq_true q337
      go_wp2
      repeat (go_quiet (fail); try go_wp2)
      go_roundg k1
      case measure => have := HK1.out; omega
      case rel => exact ⟨(x9_1), (wrap64 (x10_1 + 1)), (by first | rfl | (simp; done) | (simp [*]; done)), (by first | rfl | (simp; done) | (simp [*]; done)), H', ⟨by have := HK1.out; omega⟩, by repeat (first | exact Drawn0.refl _ | apply Drawn0.step)⟩
    ·rw [if_neg c6] at H
     exact absurd H (by simp)
   ·rw [if_neg c5] at H
    have c5b0 : decide (x10_1 < (l0.length : Int)) = false := decide_eq_false c5
    clear c5
    obtain rfl := Option.some.inj H
    go_wp2
    repeat (go_quiet (fail); try go_wp2)
    go_ret
    exact ⟨by first | rfl | (simp; done) | (simp [*]; done), by repeat (first | exact Drawn0.refl _ | apply Drawn0.step)⟩

end Go.Proofs.Ytkdfjomhichkoaa.P
-- Laid by a program of this work.
namespace Go.Proofs.Ytkdfjomhichkoaa.P
open Go.RowKit Go.Proofs.YtkdfjomhichkoaaW.PrintWords Go.Proofs.YtkdfjomhichkoaaW.PrintLast Go.Proofs.YtkdfjomhichkoaaW.PrintMore
attribute [local go_sem] max2_int min2_int max_two min_two max_three min_three max_four min_four   -- for this text's walks alone
set_option linter.unusedVariables false
set_option linter.unusedSimpArgs false

/-! ### spec_RunNonPreemptive: function 14 -/
mutual
def spec_RunNonPreemptive.l0 : Nat → List (S34) → List Int → List Int → Int → List Int → Option (List Int × List Int)
 | 0, _, _, _, _, _ => none
 | k + 1, x1, x6, x7, x8, x344001 => if x8 < (x1.length : Int) then (if 0 ≤ x8 then (if x6.length < 17592186044416 then (if x344001.length < 17592186044416 then (spec_RunNonPreemptive.l0 k x1 (x6 ++ [(rd_T34 x1 x8).f3]) x7 (wrap64 (x8 + 1)) (x344001 ++ [(-1)])) else (none)) else (none)) else (none)) else (spec_RunNonPreemptive.l1 k x1 x6 x7 (-1) 0 ([] : List Int) x344001)
def spec_RunNonPreemptive.l1 : Nat → List (S34) → List Int → List Int → Int → Int → List Int → List Int → Option (List Int × List Int)
 | 0, _, _, _, _, _, _, _ => none
 | k + 1, x1, x6, x7, x9, x10, x344000, x344001 => if x10 < 120 then (if x9 < 0 then ((spec_l3Best.f k x1 x6 x7 x10).bind fun t357 => (spec_RunNonPreemptive.j2 k x1 x6 x7 t357 x10 x344000 x344001)) else (spec_RunNonPreemptive.j2 k x1 x6 x7 x9 x10 x344000 x344001)) else (some (x344000, x344001))
def spec_RunNonPreemptive.j2 : Nat → List (S34) → List Int → List Int → Int → Int → List Int → List Int → Option (List Int × List Int)
 | 0, _, _, _, _, _, _, _ => none
 | k + 1, x1, x6, x7, x9, x10, x344000, x344001 => if x344000.length < 17592186044416 then ((some (x344000 ++ [x9] : List Int)).bind fun y358 => (if x9 ≥ 0 then (if 0 ≤ x9 then (if x9 < (x6.length : Int) then ((some (x6.set (x9 : Int).toNat (wrap64 ((rd x6 x9) - 1)) : List Int)).bind fun y362 => (if (rd y362 x9) = 0 then (if x9 < (x344001.length : Int) then (spec_RunNonPreemptive.l1 k x1 y362 x7 (-1) (wrap64 (x10 + 1)) y358 (x344001.set (x9 : Int).toNat (wrap64 (x10 + 1)))) else (none)) else (spec_RunNonPreemptive.l1 k x1 y362 x7 x9 (wrap64 (x10 + 1)) y358 x344001))) else (none)) else (none)) else (spec_RunNonPreemptive.l1 k x1 x6 x7 x9 (wrap64 (x10 + 1)) y358 x344001))) else (none)
end
def spec_RunNonPreemptive.f (k : Nat) (l0 : List (S88)) (l1 : List (S34)) : Option (List Int × List Int) := (spec_JobsLegal.f k l0 l1).bind fun t342 => (if t342 = true then ((spec_l3Deadlines.f k l1).bind fun t347 => (spec_RunNonPreemptive.l0 k l1 (([] : List Int)) t347 0 ([] : List Int))) else (some (([] : List Int), ([] : List Int))))
theorem spec_RunNonPreemptive.mono_l : ∀ k, (∀ y0 y1 y2 y3 y4, LeO (spec_RunNonPreemptive.l0 k y0 y1 y2 y3 y4) (spec_RunNonPreemptive.l0 (k + 1) y0 y1 y2 y3 y4)) ∧ (∀ y0 y1 y2 y3 y4 y5 y6, LeO (spec_RunNonPreemptive.l1 k y0 y1 y2 y3 y4 y5 y6) (spec_RunNonPreemptive.l1 (k + 1) y0 y1 y2 y3 y4 y5 y6)) ∧ (∀ y0 y1 y2 y3 y4 y5 y6, LeO (spec_RunNonPreemptive.j2 k y0 y1 y2 y3 y4 y5 y6) (spec_RunNonPreemptive.j2 (k + 1) y0 y1 y2 y3 y4 y5 y6))
 | 0 => ⟨fun _ _ _ _ _ r h => by simp [spec_RunNonPreemptive.l0] at h, fun _ _ _ _ _ _ _ r h => by simp [spec_RunNonPreemptive.l1] at h, fun _ _ _ _ _ _ _ r h => by simp [spec_RunNonPreemptive.j2] at h⟩
 | k + 1 => by
  obtain ⟨ih0, ih1, ih2⟩ := spec_RunNonPreemptive.mono_l k
  refine ⟨?_, ?_, ?_⟩
  ·intro y0 y1 y2 y3 y4
   unfold spec_RunNonPreemptive.l0
   repeat' first
   | (with_reducible exact ih0 _ _ _ _ _)
   | (with_reducible exact ih1 _ _ _ _ _ _ _)
   | (with_reducible exact ih2 _ _ _ _ _ _ _)
   | (with_reducible exact spec_JobsLegal.mono _ _ _)
   | (with_reducible exact spec_l3Best.mono _ _ _ _ _)
   | (with_reducible exact spec_l3Deadlines.mono _ _)
   | (with_reducible exact LeO.refl _)
   | (with_reducible exact LeO.none _)
   | (with_reducible refine LeO.ite ?_ ?_)
   | (with_reducible refine LeO.bind ?_ (fun _ => ?_))
   | exact ih0 _ _ _ _ _
   | exact ih1 _ _ _ _ _ _ _
   | exact ih2 _ _ _ _ _ _ _
   | exact spec_JobsLegal.mono _ _ _
   | exact spec_l3Best.mono _ _ _ _ _
   | exact spec_l3Deadlines.mono _ _
   | exact LeO.none _
   | refine LeO.ite ?_ ?_
   | refine LeO.bind ?_ (fun _ => ?_)
  ·intro y0 y1 y2 y3 y4 y5 y6
   unfold spec_RunNonPreemptive.l1
   repeat' first
   | (with_reducible exact ih0 _ _ _ _ _)
   | (with_reducible exact ih1 _ _ _ _ _ _ _)
   | (with_reducible exact ih2 _ _ _ _ _ _ _)
   | (with_reducible exact spec_JobsLegal.mono _ _ _)
   | (with_reducible exact spec_l3Best.mono _ _ _ _ _)
   | (with_reducible exact spec_l3Deadlines.mono _ _)
   | (with_reducible exact LeO.refl _)
   | (with_reducible exact LeO.none _)
   | (with_reducible refine LeO.ite ?_ ?_)
   | (with_reducible refine LeO.bind ?_ (fun _ => ?_))
   | exact ih0 _ _ _ _ _
   | exact ih1 _ _ _ _ _ _ _
   | exact ih2 _ _ _ _ _ _ _
   | exact spec_JobsLegal.mono _ _ _
   | exact spec_l3Best.mono _ _ _ _ _
   | exact spec_l3Deadlines.mono _ _
   | exact LeO.none _
   | refine LeO.ite ?_ ?_
   | refine LeO.bind ?_ (fun _ => ?_)
  ·intro y0 y1 y2 y3 y4 y5 y6
   unfold spec_RunNonPreemptive.j2
   repeat' first
   | (with_reducible exact ih0 _ _ _ _ _)
   | (with_reducible exact ih1 _ _ _ _ _ _ _)
   | (with_reducible exact ih2 _ _ _ _ _ _ _)
   | (with_reducible exact spec_JobsLegal.mono _ _ _)
   | (with_reducible exact spec_l3Best.mono _ _ _ _ _)
   | (with_reducible exact spec_l3Deadlines.mono _ _)
   | (with_reducible exact LeO.refl _)
   | (with_reducible exact LeO.none _)
   | (with_reducible refine LeO.ite ?_ ?_)
   | (with_reducible refine LeO.bind ?_ (fun _ => ?_))
   | exact ih0 _ _ _ _ _
   | exact ih1 _ _ _ _ _ _ _
   | exact ih2 _ _ _ _ _ _ _
   | exact spec_JobsLegal.mono _ _ _
   | exact spec_l3Best.mono _ _ _ _ _
   | exact spec_l3Deadlines.mono _ _
   | exact LeO.none _
   | refine LeO.ite ?_ ?_
   | refine LeO.bind ?_ (fun _ => ?_)
theorem spec_RunNonPreemptive.mono : ∀ a0 a1 k, LeO (spec_RunNonPreemptive.f k a0 a1) (spec_RunNonPreemptive.f (k + 1) a0 a1) := by
 intro a0 a1 k
 obtain ⟨ih0, ih1, ih2⟩ := spec_RunNonPreemptive.mono_l k
 unfold spec_RunNonPreemptive.f
 repeat' first
   | (with_reducible exact ih0 _ _ _ _ _)
   | (with_reducible exact ih1 _ _ _ _ _ _ _)
   | (with_reducible exact ih2 _ _ _ _ _ _ _)
   | (with_reducible exact spec_JobsLegal.mono _ _ _)
   | (with_reducible exact spec_l3Best.mono _ _ _ _ _)
   | (with_reducible exact spec_l3Deadlines.mono _ _)
   | (with_reducible exact LeO.refl _)
   | (with_reducible exact LeO.none _)
   | (with_reducible refine LeO.ite ?_ ?_)
   | (with_reducible refine LeO.bind ?_ (fun _ => ?_))
   | exact ih0 _ _ _ _ _
   | exact ih1 _ _ _ _ _ _ _
   | exact ih2 _ _ _ _ _ _ _
   | exact spec_JobsLegal.mono _ _ _
   | exact spec_l3Best.mono _ _ _ _ _
   | exact spec_l3Deadlines.mono _ _
   | exact LeO.none _
   | refine LeO.ite ?_ ?_
   | refine LeO.bind ?_ (fun _ => ?_)
set_option maxHeartbeats 8000000 in
set_option maxRecDepth 100000 in
theorem spec_RunNonPreemptive.calls (k : Nat) (A0 : Option Addr) (c0 : Nat) (l0 : List (S88)) (A1 : Option Addr) (c1 : Nat) (l1 : List (S34)) (r1 : List Int) (r2 : List Int) (w : World) (hr0 : Kd.C k88 w A0 l0.length l0) (hc0 : l0.length ≤ c0) (hr1 : Kd.C k34 w A1 l1.length l1) (hc1 : l1.length ≤ c1) (h : spec_RunNonPreemptive.f k l0 l1 = some (r1, r2)) :
  Calls Try.prog 14 #[.slice A0 l0.length c0, .slice A1 l1.length c1] w fun e w' => ∃ v0_ v1_ : Value, e = .returned (.agg #[v0_, v1_]) ∧ Kd.R (Kd.int .i64) 3 w' w.heap.size (fun k_ => some k_ ≠ (v1_ : Value).ownBlock) v0_ r1 ∧ Kd.R (Kd.int .i64) 3 w' w.heap.size (fun k_ => some k_ ≠ (v0_ : Value).ownBlock) v1_ r2 ∧ Below w.heap.size w w' := by
 have hu29 := Try.underlying29
 have HR0 := Aside0.mk hr0
 have HC0 := Aside0.mk hc0
 clear hr0 hc0
 have HR1 := Aside0.mk hr1
 have HC1 := Aside0.mk hc1
 clear hr1 hc1
 have HB := Aside0.mk (Below.refl w.heap.size w)
 have H : ((spec_JobsLegal.f k l0 l1).bind fun t342 => (if t342 = true then ((spec_l3Deadlines.f k l1).bind fun t347 => (spec_RunNonPreemptive.l0 k l1 (([] : List Int)) t347 0 ([] : List Int))) else (some (([] : List Int), ([] : List Int))))) = some (r1, r2) := h
 clear h
 replace H := Option.bind_eq_some_iff.mp H
 obtain ⟨t342, A30, H⟩ := H
 replace H : (if t342 = true then ((spec_l3Deadlines.f k l1).bind fun t347 => (spec_RunNonPreemptive.l0 k l1 (([] : List Int)) t347 0 ([] : List Int))) else (some (([] : List Int), ([] : List Int)))) = some (r1, r2) := H
 have A3 := Aside0.mk A30
 clear A30
 by_cases c4 : t342 = true
 ·subst c4
  have H1 : ((spec_l3Deadlines.f k l1).bind fun t347 => (spec_RunNonPreemptive.l0 k l1 (([] : List Int)) t347 0 ([] : List Int))) = some (r1, r2) := by rw [if_pos rfl] at H; exact H
  clear H
  have H := H1
  clear H1
  obtain ⟨y344, hy344⟩ : ∃ y_ : List Int, y_ = (([] : List Int)) := ⟨_, rfl⟩
  replace H : ((spec_l3Deadlines.f k l1).bind fun t347 => (spec_RunNonPreemptive.l0 k l1 y344 t347 0 ([] : List Int))) = some (r1, r2) := by first | (rw [hy344]; with_reducible exact H) | (have H2_ := (Option.bind_some _ _).symm.trans H; rw [hy344]; with_reducible exact H2_) | (have H2_ := (Option.bind_some _ _).symm.trans H; with_reducible exact H2_) | with_reducible exact H | (rw [hy344]; exact H) | exact H
  have Ny344 := Aside0.mk hy344
  clear hy344
  replace H := Option.bind_eq_some_iff.mp H
  obtain ⟨t347, A50, H⟩ := H
  replace H : (spec_RunNonPreemptive.l0 k l1 y344 t347 0 ([] : List Int)) = some (r1, r2) := H
  have A5 := Aside0.mk A50
  clear A50
  have H' := Aside0.mk H
  clear H
  go_enter Try.func14, Try.ntmps14
  go_wp2_with (first | ((with_reducible refine gate_dst (N := 4) rfl ?_); refine box_event ?hg (N := 4) ?hd (cs := #[.slice none 0 0, .slice none 0 0]) (t := 29) ?hr ?_; (case hd => rfl); (case hg => rfl); (case hr => first | (go_simp; done) | (go_simp; rfl)); intro gb341 hg w6 hbox hb; have n0_ := Aside0.mk (below_step (by repeat (first | (with_reducible first | exact HB.out | apply below_alloc | apply pw_below_drewN | apply below_drew1) | exact HB.out)) hb); have n1_ := Aside0.mk (hbox); have n2_ := Aside0.mk ((by rw [hg]; exact (below_size (by repeat (first | (with_reducible first | exact HB.out | apply below_alloc | apply pw_below_drewN | apply below_drew1) | exact HB.out))) : w.heap.size ≤ gb341)); have n3_ := Aside0.mk ((by rw [hg]; exact (below_size (by repeat (first | (with_reducible first | exact HB.out | apply below_alloc | apply pw_below_drewN | apply below_drew1) | exact HB.out))) : w.heap.size ≤ gb341)); clear HB; have HB := n0_; have BK341 := n1_; have GW341 := n2_; have GE341 := n3_; clear n0_ n1_ n2_ n3_; clear hb hbox hg) | ((with_reducible refine gate_callee (f := 56) rfl ?_); refine goesL_ (some 13) rfl rfl Try.func56 (by kernel_rfl) rfl #[.slice A0 l0.length c0, .slice A1 l1.length c1] rfl (by (try simp only [List.map_toArray, List.map_cons, List.map_nil]); first | done | rfl | (simp only [List.length_drop, List.length_take]; rfl)) ?_; (with_reducible refine (spec_JobsLegal.calls k _ _ l0 _ _ l1 true _ ?side1 ?side2 ?side3 ?side4 A3.out).mono ?_); (case side1 => repeat (first | exact (Kd.C_below HR0.out HB.out) | (with_reducible refine Kd.C_alloc ?_ _) | (with_reducible refine Kd.C_drewN ?_ _) | (with_reducible refine Kd.C_drew ?_))); (case side2 => exact HC0.out); (case side3 => repeat (first | exact (Kd.C_below HR1.out HB.out) | (with_reducible refine Kd.C_alloc ?_ _) | (with_reducible refine Kd.C_drewN ?_ _) | (with_reducible refine Kd.C_drew ?_))); (case side4 => exact HC1.out); rintro e w7 ⟨rfl, hb⟩; refine ⟨_, rfl, ?_⟩; have n0_ := Aside0.mk (blk_below (g := gb341) (o := .cells #[.slice none 0 0, .slice none 0 0] 29 (0, 0)) (by (with_reducible repeat (first | refine blk_drewN ?_ _ | refine blk_drew ?_ | refine blk_alloc ?_ _)); exact BK341.out) hb); have n1_ := Aside0.mk (below_step (by repeat (first | (with_reducible first | exact HB.out | apply below_alloc | apply pw_below_drewN | apply below_drew1 | refine below_set ?_ GE341.out) | exact HB.out)) hb); clear BK341; clear HB; have BK341 := n0_; have HB := n1_; clear n0_ n1_; (try clear hb); (try clear hb2); (try clear hk); (try clear hi)) | ((with_reducible refine gate_dst (N := 5) rfl ?_); refine box_event ?hg (N := 5) ?hd (cs := #[.slice none 0 0, .slice none 0 0]) (t := 29) ?hr ?_; (case hd => rfl); (case hg => rfl); (case hr => first | (go_simp; done) | (go_simp; rfl)); intro gb343 hg w8 hbox hb; have n0_ := Aside0.mk (blk_below (g := gb341) (o := .cells #[.slice none 0 0, .slice none 0 0] 29 (0, 0)) (by (with_reducible repeat (first | refine blk_drewN ?_ _ | refine blk_drew ?_ | refine blk_alloc ?_ _)); exact BK341.out) hb); have n1_ := Aside0.mk (below_step (by repeat (first | (with_reducible first | exact HB.out | apply below_alloc | apply pw_below_drewN | apply below_drew1 | refine below_set ?_ GE341.out) | exact HB.out)) hb); have n2_ := Aside0.mk (hbox); have n3_ := Aside0.mk ((by rw [hg]; exact (below_size (by repeat (first | (with_reducible first | exact HB.out | apply below_alloc | apply pw_below_drewN | apply below_drew1 | refine below_set ?_ GE341.out) | exact HB.out))) : w.heap.size ≤ gb343)); have n4_ := Aside0.mk ((by rw [hg]; exact (below_size (by repeat (first | (with_reducible first | exact HB.out | apply below_alloc | apply pw_below_drewN | apply below_drew1 | refine below_set ?_ GE341.out) | exact HB.out))) : w.heap.size ≤ gb343)); have n5_ := Aside0.mk ((by rw [hg]; exact Nat.ne_of_lt (blk_lt (g := gb341) (o := .cells #[.slice none 0 0, .slice none 0 0] 29 (0, 0)) (by (with_reducible repeat (first | refine blk_drewN ?_ _ | refine blk_drew ?_ | refine blk_alloc ?_ _)); exact BK341.out)) : gb341 ≠ gb343)); have n6_ := Aside0.mk ((by rw [hg]; exact Nat.ne_of_gt (blk_lt (g := gb341) (o := .cells #[.slice none 0 0, .slice none 0 0] 29 (0, 0)) (by (with_reducible repeat (first | refine blk_drewN ?_ _ | refine blk_drew ?_ | refine blk_alloc ?_ _)); exact BK341.out)) : gb343 ≠ gb341)); clear BK341; clear HB; have BK341 := n0_; have HB := n1_; have BK343 := n2_; have GW343 := n3_; have GE343 := n4_; have NB341_343 := n5_; have NB343_341 := n6_; clear n0_ n1_ n2_ n3_ n4_ n5_ n6_; clear hb hbox hg; have hnb9 := NB343_341.out; have hnc9 := NB341_343.out; have hcz10_0 : w8.cell? ⟨gb343, 0, none⟩ = some (.slice none 0 0) := (blk_cell BK343.out 0).trans rfl; have hcz10_1 : w8.cell? ⟨gb343, 1, none⟩ = some (.slice none 0 0) := (blk_cell BK343.out 1).trans rfl; have hfz10_0 := blk_frozen BK343.out 0; have hfz10_1 := blk_frozen BK343.out 1) | ((with_reducible refine gate_dst (N := 17) rfl ?_); refine Kd.R_lit (Kd.int .i64) _ 3 ?hg (N := 17) ?hd (xs := ([] : List Int)) (inner := []) (ok := fun _ => True) (okp := fun _ => True) ?hr ?hp (fun _ hk => hk) trivial (Below.refl _ _) (Nat.le_refl _) (by simp) ?_; (case hd => rfl); (case hg => rfl); (case hr => first | (go_simp; done) | (go_simp; rfl)); (case hp => exact (Reps.none _ _)); intro v345 w11 ho12 hb hg_ hnew_; clear hg_ hnew_; (first | rw [← Ny344.out] at ho12 | (simp only [Int.reduceToNat] at ho12; rw [← Ny344.out] at ho12)); have n0_ := Aside0.mk (Kd.R_lower ho12 (below_size (by repeat (first | (with_reducible first | exact HB.out | apply below_alloc | apply pw_below_drewN | apply below_drew1 | refine below_set ?_ GE341.out | refine below_set ?_ GE343.out) | exact HB.out)))); have n1_ := Aside0.mk (blk_below (g := gb341) (o := .cells #[.slice none 0 0, .slice none 0 0] 29 (0, 0)) (by (with_reducible repeat (first | refine blk_drewN ?_ _ | refine blk_drew ?_ | refine blk_alloc ?_ _)); refine blk_far ?_ NB341_343.out _; (with_reducible repeat (first | refine blk_drewN ?_ _ | refine blk_drew ?_ | refine blk_alloc ?_ _)); refine blk_far ?_ NB341_343.out _; (with_reducible repeat (first | refine blk_drewN ?_ _ | refine blk_drew ?_ | refine blk_alloc ?_ _)); exact BK341.out) hb); have n2_ := Aside0.mk (blk_below (g := gb343) (o := .cells #[.slice none 0 0, .slice none 0 0] 29 (0, 0)) (by (with_reducible repeat (first | refine blk_drewN ?_ _ | refine blk_drew ?_ | refine blk_alloc ?_ _)); refine blk_put (cs := #[.slice none 0 0, .slice none 0 0]) ?_ 1 _ rfl; (with_reducible repeat (first | refine blk_drewN ?_ _ | refine blk_drew ?_ | refine blk_alloc ?_ _)); refine blk_put (cs := #[.slice none 0 0, .slice none 0 0]) ?_ 0 _ rfl; (with_reducible repeat (first | refine blk_drewN ?_ _ | refine blk_drew ?_ | refine blk_alloc ?_ _)); exact BK343.out) hb); have n3_ := Aside0.mk (below_step (by repeat (first | (with_reducible first | exact HB.out | apply below_alloc | apply pw_below_drewN | apply below_drew1 | refine below_set ?_ GE341.out | refine below_set ?_ GE343.out) | exact HB.out)) hb); clear BK341; clear BK343; clear HB; have HO346 := n0_; have BK341 := n1_; have BK343 := n2_; have HB := n3_; clear n0_ n1_ n2_ n3_; clear hb ho12) | ((with_reducible refine gate_callee (f := 57) rfl ?_); refine goesL_ (some 19) rfl rfl Try.func57 (by kernel_rfl) rfl #[.slice A1 l1.length c1] rfl (by (try simp only [List.map_toArray, List.map_cons, List.map_nil]); first | done | rfl | (simp only [List.length_drop, List.length_take]; rfl)) ?_; (with_reducible refine (spec_l3Deadlines.calls k _ _ l1 t347 _ ?side1 ?side2 A5.out).mono ?_); (case side1 => repeat (first | exact (Kd.C_below HR1.out HB.out) | (with_reducible refine Kd.C_alloc ?_ _) | (with_reducible refine Kd.C_drewN ?_ _) | (with_reducible refine Kd.C_drew ?_))); (case side2 => exact HC1.out); rintro e w13 ⟨v348, rfl, ho0, hb⟩; refine ⟨_, rfl, ?_⟩; have n0_ := Aside0.mk (Kd.R_elder' (by (with_reducible repeat (first | apply Kd.R_alloc | apply Kd.R_drewN | apply Kd.R_drew)); exact HO346.out) (Kd.R_base ho0) hb); have n1_ := Aside0.mk (Kd.R_lower (Kd.R_new' ho0 (Kd.R_lt (by (with_reducible repeat (first | apply Kd.R_alloc | apply Kd.R_drewN | apply Kd.R_drew)); exact HO346.out))) (below_size (by repeat (first | (with_reducible first | exact HB.out | apply below_alloc | apply pw_below_drewN | apply below_drew1 | refine below_set ?_ GE341.out | refine below_set ?_ GE343.out) | exact HB.out)))); have n2_ := Aside0.mk (blk_below (g := gb341) (o := .cells #[.slice none 0 0, .slice none 0 0] 29 (0, 0)) (by (with_reducible repeat (first | refine blk_drewN ?_ _ | refine blk_drew ?_ | refine blk_alloc ?_ _)); exact BK341.out) hb); have n3_ := Aside0.mk (blk_below (g := gb343) (o := .cells #[.slice none 0 0, .slice none 0 0] 29 (0, 0)) (by (with_reducible repeat (first | refine blk_drewN ?_ _ | refine blk_drew ?_ | refine blk_alloc ?_ _)); exact BK343.out) hb); have n4_ := Aside0.mk (below_step (by repeat (first | (with_reducible first | exact HB.out | apply below_alloc | apply pw_below_drewN | apply below_drew1 | refine below_set ?_ GE341.out | refine below_set ?_ GE343.out) | exact HB.out)) hb); clear HO346; clear BK341; clear BK343; clear HB; have HO346 := n0_; have HO349 := n1_; have BK341 := n2_; have BK343 := n3_; have HB := n4_; clear n0_ n1_ n2_ n3_ n4_; (try clear hb); (try clear hb2); (try clear hk); (try clear hi); (try clear ho0)))
  go_loopg [6, 8] k (fun kq v6 v8 w' => ∃ (x6_1 : List Int) (x8_1 : Int) (x344001_1 : List Int) (u344001 : Value), v8 = .int .i64 x8_1 ∧ Aside0 (spec_RunNonPreemptive.l0 kq l1 x6_1 t347 x8_1 x344001_1 = some (r1, r2)) ∧ Aside0 (kq ≤ k) ∧ Aside0 (Kd.R (Kd.int .i64) 3 w' w.heap.size (fun k_ => some k_ ≠ (v348 : Value).ownBlock ∧ some k_ ≠ (u344001 : Value).ownBlock) v6 x6_1) ∧ Aside0 (Kd.R (Kd.int .i64) 3 w' w.heap.size (fun k_ => some k_ ≠ (v6 : Value).ownBlock ∧ some k_ ≠ (u344001 : Value).ownBlock) v348 t347) ∧ Aside0 (Kd.R (Kd.int .i64) 3 w' w.heap.size (fun k_ => some k_ ≠ (v6 : Value).ownBlock ∧ some k_ ≠ (v348 : Value).ownBlock) u344001 x344001_1) ∧ Aside0 (w'.heap[gb341]? = some (.cells #[(.slice none 0 0), (.slice none 0 0)] 29 (0, 0))) ∧ Aside0 (w'.heap[gb343]? = some (.cells #[(.slice none 0 0), u344001] 29 (0, 0))) ∧ Aside0 (Below w.heap.size w w'))
  case atStart => exact ⟨(y344), (0), (([] : List Int)), (.slice none 0 0), (by first | rfl | (simp; done) | (simp [*]; done)), H', ⟨Nat.le_refl _⟩, ⟨by (with_reducible repeat (first | apply Kd.R_alloc | apply Kd.R_drewN | apply Kd.R_drew)); exact Kd.R_mono HO346.out (fun _ hk => ⟨hk.2, (by simp [Value.ownBlock])⟩)⟩, ⟨by (with_reducible repeat (first | apply Kd.R_alloc | apply Kd.R_drewN | apply Kd.R_drew)); exact Kd.R_mono HO349.out (fun _ hk => ⟨hk.2, (by simp [Value.ownBlock])⟩)⟩, ⟨by first | exact Kd.R_nil _ _ _ _ _ | exact Kd.N_nil _ _ _ _ _ | exact Kd.V_nil _ _ _ _ _ | exact Kd.Q_nil _ _ _ _ _ | exact Kd.S_nil _ _ _ _ _⟩, ⟨by (with_reducible repeat (first | refine blk_drewN ?_ _ | refine blk_drew ?_ | refine blk_alloc ?_ _)); exact BK341.out⟩, ⟨by (with_reducible repeat (first | refine blk_drewN ?_ _ | refine blk_drew ?_ | refine blk_alloc ?_ _)); exact BK343.out⟩, ⟨by repeat (first | (with_reducible first | exact HB.out | apply below_alloc | apply pw_below_drewN | apply below_drew1 | refine below_set ?_ GE341.out | refine below_set ?_ GE343.out) | exact HB.out)⟩⟩
  case round =>
   clear H'
   try clear c1
   try clear p2
   try clear c4
   try clear c5
   try clear c9
   try clear hcz10_0
   try clear hcz10_1
   try clear hfz10_0
   try clear hfz10_1
   obtain ⟨x6_1, x8_1, x344001_1, u344001, rfl, HA, HK1, HO_6, HO_7, HO_344001, BK341, BK343, HB⟩ := hrel
   cases gk with
   | zero => exact absurd HA.out (by simp [spec_RunNonPreemptive.l0])
   | succ k1 =>
    have H := HA.out
    clear HA
    simp only [spec_RunNonPreemptive.l0] at H
    by_cases c14 : x8_1 < (l1.length : Int)
    ·rw [if_pos c14] at H
     have c14b0 : decide (x8_1 < (l1.length : Int)) = true := decide_eq_true c14
     clear c14
     by_cases c15 : 0 ≤ x8_1
     ·rw [if_pos c15] at H
      have c15b0 : decide (0 ≤ x8_1) = true := decide_eq_true c15
      clear c15
      by_cases c16 : x6_1.length < 17592186044416
      ·rw [if_pos c16] at H
       have LMc16 := Aside0.mk c16
       clear c16
       obtain ⟨y351, hy351⟩ : ∃ y_ : List Int, y_ = (x6_1 ++ [(rd_T34 l1 x8_1).f3]) := ⟨_, rfl⟩
       replace H : (if x344001_1.length < 17592186044416 then (spec_RunNonPreemptive.l0 k1 l1 y351 t347 (wrap64 (x8_1 + 1)) (x344001_1 ++ [(-1)])) else (none)) = some (r1, r2) := by first | (rw [hy351]; with_reducible exact H) | (have H2_ := (Option.bind_some _ _).symm.trans H; rw [hy351]; with_reducible exact H2_) | (have H2_ := (Option.bind_some _ _).symm.trans H; with_reducible exact H2_) | with_reducible exact H | (rw [hy351]; exact H) | exact H
       have Ny351 := Aside0.mk hy351
       clear hy351
       by_cases c17 : x344001_1.length < 17592186044416
       ·rw [if_pos c17] at H
        have LMc17 := Aside0.mk c17
        clear c17
        obtain ⟨y354, hy354⟩ : ∃ y_ : List Int, y_ = (x344001_1 ++ [(-1)]) := ⟨_, rfl⟩
        replace H : (spec_RunNonPreemptive.l0 k1 l1 y351 t347 (wrap64 (x8_1 + 1)) y354) = some (r1, r2) := by first | (rw [hy354]; with_reducible exact H) | (have H2_ := (Option.bind_some _ _).symm.trans H; rw [hy354]; with_reducible exact H2_) | (have H2_ := (Option.bind_some _ _).symm.trans H; with_reducible exact H2_) | with_reducible exact H | (rw [hy354]; exact H) | exact H
        have Ny354 := Aside0.mk hy354
        clear hy354
        have H' := Aside0.mk H
        clear H
        have p350 : 0 ≤ (x8_1 : Int) := of_decide_eq_true (by first | (with_reducible assumption) | assumption)
        have q350 : x8_1 < (l1.length : Int) := of_decide_eq_true (by first | (with_reducible assumption) | assumption)
        obtain ⟨ad350, e350, hx350_0, hx350_1, hx350_2, hx350_3⟩ := at_T34 HR1.out x8_1 p350 q350
        cases e350
        replace hx350_0 := (HB.out.cell (World.block_lt_of_cell? w _ hx350_0)).trans hx350_0
        replace hx350_1 := (HB.out.cell (World.block_lt_of_cell? w _ hx350_1)).trans hx350_1
        replace hx350_2 := (HB.out.cell (World.block_lt_of_cell? w _ hx350_2)).trans hx350_2
        replace hx350_3 := (HB.out.cell (World.block_lt_of_cell? w _ hx350_3)).trans hx350_3
        replace p350 := eq_true p350
        replace q350 := eq_true q350
        go_wp2_with (first | ((with_reducible refine gate_builtin (b := .append) (xs := #[.tmp 26, .tmp 32]) rfl ?_); at_builtin; refine Kd.R_append (Kd.int .i64) (w0 := w) w.heap.size rfl (.tmp 26) (.tmp 32) 27 3 (.int .i64 0) 8 rfl Try.underlying27 info3 rfl (by decide) (by omega) u6 x6_1 ((rd_T34 l1 x8_1).f3) [.int .i64 ((rd_T34 l1 x8_1).f3)] (fun k_ => some k_ ≠ (v348 : Value).ownBlock ∧ some k_ ≠ (u344001 : Value).ownBlock) (fun _ => False) rfl rfl ?aP (fun _ hk => hk.elim) ?aF ?aO ?aB ?aS ?aL ?_; (case aP => exact rfl); (case aB => exact (by repeat (first | (with_reducible first | exact HB.out | apply below_alloc | apply pw_below_drewN | apply below_drew1 | refine below_set ?_ GE341.out | refine below_set ?_ GE343.out) | exact HB.out))); (case aF => exact (fun k_ hk => ⟨Kd.fresh' (Kd.R_lt (by (with_reducible repeat (first | apply Kd.R_alloc | apply Kd.R_drewN | apply Kd.R_drew)); exact HO_7.out)) k_ hk, Kd.fresh' (Kd.R_lt (by (with_reducible repeat (first | apply Kd.R_alloc | apply Kd.R_drewN | apply Kd.R_drew)); exact HO_344001.out)) k_ hk⟩)); (case aO => exact (by (with_reducible repeat (first | apply Kd.R_alloc | apply Kd.R_drewN | apply Kd.R_drew)); exact HO_6.out)); (case aS => exact (below_size (by repeat (first | (with_reducible first | exact HB.out | apply below_alloc | apply pw_below_drewN | apply below_drew1 | refine below_set ?_ GE341.out | refine below_set ?_ GE343.out) | exact HB.out)))); (case aL => have := LMc16.out; omega); intro v352 w18 ho hb hg hat; rw [← Ny351.out] at ho; have n0_ := Aside0.mk (Kd.R_after (ok := (fun k_ => some k_ ≠ (u344001 : Value).ownBlock)) (by (with_reducible repeat (first | apply Kd.R_alloc | apply Kd.R_drewN | apply Kd.R_drew)); exact Kd.R_mono HO_7.out (fun _ hk => ⟨hk.2, hk.1⟩)) hg hat); have n1_ := Aside0.mk (Kd.R_after (ok := (fun k_ => some k_ ≠ (v348 : Value).ownBlock)) (by (with_reducible repeat (first | apply Kd.R_alloc | apply Kd.R_drewN | apply Kd.R_drew)); exact Kd.R_mono HO_344001.out (fun _ hk => ⟨hk.2, hk.1⟩)) hg hat); have n2_ := Aside0.mk (blk_grown (g := gb341) (o := .cells #[.slice none 0 0, .slice none 0 0] 29 (0, 0)) (by (with_reducible repeat (first | refine blk_drewN ?_ _ | refine blk_drew ?_ | refine blk_alloc ?_ _)); exact BK341.out) hg (Kd.R_ne HO_6.out BK341.out (by decide))); have n3_ := Aside0.mk (blk_grown (g := gb343) (o := .cells #[.slice none 0 0, u344001] 29 (0, 0)) (by (with_reducible repeat (first | refine blk_drewN ?_ _ | refine blk_drew ?_ | refine blk_alloc ?_ _)); exact BK343.out) hg (Kd.R_ne HO_6.out BK343.out (by decide))); have n4_ := Aside0.mk (hb); have n5_ := Aside0.mk (ho); clear HO_7; clear HO_344001; clear BK341; clear BK343; clear HB; clear HO_6; have HO_7 := n0_; have HO_344001 := n1_; have BK341 := n2_; have BK343 := n3_; have HB := n4_; have HO353 := n5_; clear n0_ n1_ n2_ n3_ n4_ n5_; clear ho hb hg hat; have hnb19 := NB343_341.out; have hnc19 := NB341_343.out; have hcz20_0 : w18.cell? ⟨gb343, 0, none⟩ = some (.slice none 0 0) := (blk_cell BK343.out 0).trans rfl; have hcz20_1 : w18.cell? ⟨gb343, 1, none⟩ = some (u344001) := (blk_cell BK343.out 1).trans rfl; have hfz20_0 := blk_frozen BK343.out 0; have hfz20_1 := blk_frozen BK343.out 1) | ((with_reducible refine gate_builtin (b := .append) (xs := #[.tmp 35, .tmp 36]) rfl ?_); at_builtin; refine Kd.R_append (Kd.int .i64) (w0 := w) w.heap.size rfl (.tmp 35) (.tmp 36) 27 3 (.int .i64 0) 8 rfl Try.underlying27 info3 rfl (by decide) (by omega) u344001 x344001_1 (-1) [.int .i64 (-1)] (fun k_ => some k_ ≠ (v348 : Value).ownBlock ∧ some k_ ≠ (v352 : Value).ownBlock) (fun _ => False) rfl rfl ?aP (fun _ hk => hk.elim) ?aF ?aO ?aB ?aS ?aL ?_; (case aP => exact rfl); (case aB => exact (by repeat (first | (with_reducible first | exact HB.out | apply below_alloc | apply pw_below_drewN | apply below_drew1 | refine below_set ?_ GE341.out | refine below_set ?_ GE343.out) | exact HB.out))); (case aF => exact (fun k_ hk => ⟨Kd.fresh' (Kd.R_lt (by (with_reducible repeat (first | apply Kd.R_alloc | apply Kd.R_drewN | apply Kd.R_drew)); exact HO_7.out)) k_ hk, Kd.fresh' (Kd.R_lt (by (with_reducible repeat (first | apply Kd.R_alloc | apply Kd.R_drewN | apply Kd.R_drew)); exact HO353.out)) k_ hk⟩)); (case aO => exact (by (with_reducible repeat (first | apply Kd.R_alloc | apply Kd.R_drewN | apply Kd.R_drew)); exact HO_344001.out)); (case aS => exact (below_size (by repeat (first | (with_reducible first | exact HB.out | apply below_alloc | apply pw_below_drewN | apply below_drew1 | refine below_set ?_ GE341.out | refine below_set ?_ GE343.out) | exact HB.out)))); (case aL => have := LMc17.out; omega); intro v355 w21 ho hb hg hat; rw [← Ny354.out] at ho; have n0_ := Aside0.mk (Kd.R_after (ok := (fun k_ => some k_ ≠ (v352 : Value).ownBlock)) (by (with_reducible repeat (first | apply Kd.R_alloc | apply Kd.R_drewN | apply Kd.R_drew)); exact Kd.R_mono HO_7.out (fun _ hk => ⟨hk.2, hk.1⟩)) hg hat); have n1_ := Aside0.mk (blk_grown (g := gb341) (o := .cells #[.slice none 0 0, .slice none 0 0] 29 (0, 0)) (by (with_reducible repeat (first | refine blk_drewN ?_ _ | refine blk_drew ?_ | refine blk_alloc ?_ _)); exact BK341.out) hg (Kd.R_ne HO_344001.out BK341.out (by decide))); have n2_ := Aside0.mk (blk_grown (g := gb343) (o := .cells #[.slice none 0 0, u344001] 29 (0, 0)) (by (with_reducible repeat (first | refine blk_drewN ?_ _ | refine blk_drew ?_ | refine blk_alloc ?_ _)); exact BK343.out) hg (Kd.R_ne HO_344001.out BK343.out (by decide))); have n3_ := Aside0.mk (Kd.R_after (ok := (fun k_ => some k_ ≠ (v348 : Value).ownBlock)) (by (with_reducible repeat (first | apply Kd.R_alloc | apply Kd.R_drewN | apply Kd.R_drew)); exact HO353.out) hg hat); have n4_ := Aside0.mk (hb); have n5_ := Aside0.mk (ho); clear HO_7; clear BK341; clear BK343; clear HO353; clear HB; clear HO_344001; have HO_7 := n0_; have BK341 := n1_; have BK343 := n2_; have HO353 := n3_; have HB := n4_; have HO356 := n5_; clear n0_ n1_ n2_ n3_ n4_ n5_; clear ho hb hg hat; obtain ⟨Ao22, co22, eo22⟩ := Kd.R_slice HO356.out; subst eo22; have hcz23_0 : w21.cell? ⟨gb343, 0, none⟩ = some (.slice none 0 0) := (blk_cell BK343.out 0).trans rfl; have hcz23_1 : w21.cell? ⟨gb343, 1, none⟩ = some (u344001) := (blk_cell BK343.out 1).trans rfl; have hfz23_0 := blk_frozen BK343.out 0; have hfz23_1 := blk_frozen BK343.out 1))
        go_roundg k1
        case measure => have := HK1.out; omega
        case rel => exact ⟨(y351), (wrap64 (x8_1 + 1)), (y354), (.slice Ao22 y354.length co22), (by first | rfl | (simp; done) | (simp [*]; done)), H', ⟨by have := HK1.out; omega⟩, ⟨by (with_reducible repeat (first | apply Kd.R_alloc | apply Kd.R_drewN | apply Kd.R_drew)); exact Kd.R_mono (Kd.R_far (p := ⟨gb343, 1, none⟩) (Kd.R_types HO353.out BK343.out (by decide)) (fun _ hk => hk.2) (.slice Ao22 y354.length co22)) (fun _ hk => ⟨hk.1.1, hk.1.2⟩)⟩, ⟨by (with_reducible repeat (first | apply Kd.R_alloc | apply Kd.R_drewN | apply Kd.R_drew)); exact Kd.R_mono (Kd.R_far (p := ⟨gb343, 1, none⟩) (Kd.R_types HO_7.out BK343.out (by decide)) (fun _ hk => hk.2) (.slice Ao22 y354.length co22)) (fun _ hk => ⟨hk.1.1, hk.1.2⟩)⟩, ⟨by (with_reducible repeat (first | apply Kd.R_alloc | apply Kd.R_drewN | apply Kd.R_drew)); exact Kd.R_mono (Kd.R_far (p := ⟨gb343, 1, none⟩) (Kd.R_types HO356.out BK343.out (by decide)) (fun _ hk => hk.2) (.slice Ao22 y354.length co22)) (fun _ hk => ⟨hk.1.2, hk.1.1⟩)⟩, ⟨by (with_reducible repeat (first | refine blk_drewN ?_ _ | refine blk_drew ?_ | refine blk_alloc ?_ _)); refine blk_far ?_ NB341_343.out _; (with_reducible repeat (first | refine blk_drewN ?_ _ | refine blk_drew ?_ | refine blk_alloc ?_ _)); exact BK341.out⟩, ⟨by (with_reducible repeat (first | refine blk_drewN ?_ _ | refine blk_drew ?_ | refine blk_alloc ?_ _)); refine blk_put (cs := #[.slice none 0 0, u344001]) ?_ 1 _ rfl; (with_reducible repeat (first | refine blk_drewN ?_ _ | refine blk_drew ?_ | refine blk_alloc ?_ _)); exact BK343.out⟩, ⟨by repeat (first | (with_reducible first | exact HB.out | apply below_alloc | apply pw_below_drewN | apply below_drew1 | refine below_set ?_ GE341.out | refine below_set ?_ GE343.out) | exact HB.out)⟩⟩
       ·rw [if_neg c17] at H
        exact absurd H (by simp)
      ·rw [if_neg c16] at H
       exact absurd H (by simp)
     ·rw [if_neg c15] at H
      exact absurd H (by simp)
    ·rw [if_neg c14] at H
     have c14b0 : decide (x8_1 < (l1.length : Int)) = false := decide_eq_false c14
     clear c14
     have H' := Aside0.mk H
     clear H
     go_wp2
     go_loopg [9, 10] k1 (fun kq v9 v10 w' => ∃ (x6_2 : List Int) (x7_2 : List Int) (x9_2 : Int) (x10_2 : Int) (x344000_2 : List Int) (x344001_2 : List Int) (u344000 : Value) (u344001 : Value), v9 = .int .i64 x9_2 ∧ v10 = .int .i64 x10_2 ∧ Aside0 (spec_RunNonPreemptive.l1 kq l1 x6_2 x7_2 x9_2 x10_2 x344000_2 x344001_2 = some (r1, r2)) ∧ Aside0 (kq ≤ k1) ∧ Aside0 (Kd.R (Kd.int .i64) 3 w' w.heap.size (fun k_ => some k_ ≠ (v348 : Value).ownBlock ∧ some k_ ≠ (u344000 : Value).ownBlock ∧ some k_ ≠ (u344001 : Value).ownBlock) u6 x6_2) ∧ Aside0 (Kd.R (Kd.int .i64) 3 w' w.heap.size (fun k_ => some k_ ≠ (u6 : Value).ownBlock ∧ some k_ ≠ (u344000 : Value).ownBlock ∧ some k_ ≠ (u344001 : Value).ownBlock) v348 x7_2) ∧ Aside0 (Kd.R (Kd.int .i64) 3 w' w.heap.size (fun k_ => some k_ ≠ (u6 : Value).ownBlock ∧ some k_ ≠ (v348 : Value).ownBlock ∧ some k_ ≠ (u344001 : Value).ownBlock) u344000 x344000_2) ∧ Aside0 (Kd.R (Kd.int .i64) 3 w' w.heap.size (fun k_ => some k_ ≠ (u6 : Value).ownBlock ∧ some k_ ≠ (v348 : Value).ownBlock ∧ some k_ ≠ (u344000 : Value).ownBlock) u344001 x344001_2) ∧ Aside0 (w'.heap[gb341]? = some (.cells #[(.slice none 0 0), (.slice none 0 0)] 29 (0, 0))) ∧ Aside0 (w'.heap[gb343]? = some (.cells #[u344000, u344001] 29 (0, 0))) ∧ Aside0 (Below w.heap.size w w'))
     case atStart => exact ⟨(x6_1), (t347), ((-1)), (0), (([] : List Int)), (x344001_1), (.slice none 0 0), (u344001), (by first | rfl | (simp; done) | (simp [*]; done)), (by first | rfl | (simp; done) | (simp [*]; done)), H', ⟨Nat.le_refl _⟩, ⟨by (with_reducible repeat (first | apply Kd.R_alloc | apply Kd.R_drewN | apply Kd.R_drew)); exact Kd.R_mono HO_6.out (fun _ hk => ⟨hk.1, ⟨(by simp [Value.ownBlock]), hk.2⟩⟩)⟩, ⟨by (with_reducible repeat (first | apply Kd.R_alloc | apply Kd.R_drewN | apply Kd.R_drew)); exact Kd.R_mono HO_7.out (fun _ hk => ⟨hk.1, ⟨(by simp [Value.ownBlock]), hk.2⟩⟩)⟩, ⟨by first | exact Kd.R_nil _ _ _ _ _ | exact Kd.N_nil _ _ _ _ _ | exact Kd.V_nil _ _ _ _ _ | exact Kd.Q_nil _ _ _ _ _ | exact Kd.S_nil _ _ _ _ _⟩, ⟨by (with_reducible repeat (first | apply Kd.R_alloc | apply Kd.R_drewN | apply Kd.R_drew)); exact Kd.R_mono HO_344001.out (fun _ hk => ⟨hk.1, ⟨hk.2, (by simp [Value.ownBlock])⟩⟩)⟩, ⟨by (with_reducible repeat (first | refine blk_drewN ?_ _ | refine blk_drew ?_ | refine blk_alloc ?_ _)); exact BK341.out⟩, ⟨by (with_reducible repeat (first | refine blk_drewN ?_ _ | refine blk_drew ?_ | refine blk_alloc ?_ _)); exact BK343.out⟩, ⟨by repeat (first | (with_reducible first | exact HB.out | apply below_alloc | apply pw_below_drewN | apply below_drew1 | refine below_set ?_ GE341.out | refine below_set ?_ GE343.out) | exact HB.out)⟩⟩
     case round =>
      clear H'
      try clear c1
      try clear p2
      try clear p3
      try clear q3
      try clear hx3
      try clear c4
      try clear c5
      try clear p6
      try clear c9
      try clear c14
      try clear c14b0
      try clear c15
      try clear c15b0
      try clear c16
      try clear c17
      try clear c19
      try clear hcz10_0
      try clear hcz10_1
      try clear hcz20_0
      try clear hcz20_1
      try clear hcz23_0
      try clear hcz23_1
      try clear hfz10_0
      try clear hfz10_1
      try clear hfz20_0
      try clear hfz20_1
      try clear hfz23_0
      try clear hfz23_1
      try clear hx350_0
      try clear hx350_1
      try clear hx350_2
      try clear hx350_3
      try clear p2
      try clear p350
      try clear q350
      obtain ⟨x6_2, x7_2, x9_2, x10_2, x344000_2, x344001_2, u344000, u344001, rfl, rfl, HA, HK2, HO_6, HO_7, HO_344000, HO_344001, BK341, BK343, HB⟩ := hrel
      cases gk with
      | zero => exact absurd HA.out (by simp [spec_RunNonPreemptive.l1])
      | succ k2 =>
       have H := HA.out
       clear HA
       simp only [spec_RunNonPreemptive.l1] at H
       by_cases c24 : x10_2 < 120
       ·rw [if_pos c24] at H
        have c24b0 : decide (x10_2 < 120) = true := decide_eq_true c24
        clear c24
        have HC25 := Aside0.mk H
        clear H
        go_upto_if 44 with (fail)
        go_cut [9] (fun v9 wc => ∃ (kq : Nat) (x9_24 : Int), v9 = .int .i64 x9_24 ∧ Aside0 (spec_RunNonPreemptive.j2 kq l1 x6_2 x7_2 x9_24 x10_2 x344000_2 x344001_2 = some (r1, r2)) ∧ Aside0 (kq ≤ k2) ∧ Aside0 (Kd.R (Kd.int .i64) 3 wc w.heap.size (fun k_ => some k_ ≠ (v348 : Value).ownBlock ∧ some k_ ≠ (u344000 : Value).ownBlock ∧ some k_ ≠ (u344001 : Value).ownBlock) u6 x6_2) ∧ Aside0 (Kd.R (Kd.int .i64) 3 wc w.heap.size (fun k_ => some k_ ≠ (u6 : Value).ownBlock ∧ some k_ ≠ (u344000 : Value).ownBlock ∧ some k_ ≠ (u344001 : Value).ownBlock) v348 x7_2) ∧ Aside0 (Kd.R (Kd.int .i64) 3 wc w.heap.size (fun k_ => some k_ ≠ (u6 : Value).ownBlock ∧ some k_ ≠ (v348 : Value).ownBlock ∧ some k_ ≠ (u344001 : Value).ownBlock) u344000 x344000_2) ∧ Aside0 (Kd.R (Kd.int .i64) 3 wc w.heap.size (fun k_ => some k_ ≠ (u6 : Value).ownBlock ∧ some k_ ≠ (v348 : Value).ownBlock ∧ some k_ ≠ (u344000 : Value).ownBlock) u344001 x344001_2) ∧ Aside0 (wc.heap[gb341]? = some (.cells #[(.slice none 0 0), (.slice none 0 0)] 29 (0, 0))) ∧ Aside0 (wc.heap[gb343]? = some (.cells #[u344000, u344001] 29 (0, 0))) ∧ Aside0 (Below w.heap.size w wc))
        case first =>
         have H := HC25.out
         clear HC25
         by_cases c26 : x9_2 < 0
         ·rw [if_pos c26] at H
          have c26b0 : decide (x9_2 < 0) = true := decide_eq_true c26
          clear c26
          (first | rw [c26b0] | (simp only [i64_w, i32_w]; rw [c26b0]) | skip)
          replace H := Option.bind_eq_some_iff.mp H
          obtain ⟨t357, A270, H⟩ := H
          replace H : (spec_RunNonPreemptive.j2 k2 l1 x6_2 x7_2 t357 x10_2 x344000_2 x344001_2) = some (r1, r2) := H
          have A27 := Aside0.mk A270
          clear A270
          have H' := Aside0.mk H
          clear H
          obtain ⟨Ao28, co28, eo28⟩ := Kd.R_slice HO_6.out
          subst eo28
          obtain ⟨Ao29, co29, eo29⟩ := Kd.R_slice HO_7.out
          subst eo29
          go_wp2_with (first | ((with_reducible refine gate_callee (f := 58) rfl ?_); refine goesL_ (some 49) rfl rfl Try.func58 (by kernel_rfl) rfl #[.slice A1 l1.length c1, .slice Ao28 x6_2.length co28, .slice Ao29 x7_2.length co29, .int .i64 x10_2] rfl (by (try simp only [List.map_toArray, List.map_cons, List.map_nil]); first | done | rfl | (simp only [List.length_drop, List.length_take]; rfl)) ?_; (with_reducible refine (spec_l3Best.calls k2 _ _ l1 _ _ x6_2 _ _ x7_2 x10_2 t357 _ ?side1 ?side2 ?side3 ?side4 ?side5 ?side6 A27.out).mono ?_); (case side1 => repeat (first | exact (Kd.C_below HR1.out HB.out) | (with_reducible refine Kd.C_alloc ?_ _) | (with_reducible refine Kd.C_drewN ?_ _) | (with_reducible refine Kd.C_drew ?_))); (case side2 => exact HC1.out); (case side3 => repeat (first | exact (Kd.R_reads' HO_6.out).2.2 | (with_reducible refine Kd.C_alloc ?_ _) | (with_reducible refine Kd.C_drewN ?_ _) | (with_reducible refine Kd.C_drew ?_))); (case side4 => exact (Kd.R_reads' HO_6.out).2.1); (case side5 => repeat (first | exact (Kd.R_reads' HO_7.out).2.2 | (with_reducible refine Kd.C_alloc ?_ _) | (with_reducible refine Kd.C_drewN ?_ _) | (with_reducible refine Kd.C_drew ?_))); (case side6 => exact (Kd.R_reads' HO_7.out).2.1); rintro e w' ⟨rfl, ⟨nd, rfl⟩⟩; refine ⟨_, rfl, ?_⟩))
          go_meet
          case rel => exact ⟨_, (t357), (by first | rfl | (simp; done) | (simp [*]; done)), H', ⟨by have := HK1.out; have := HK2.out; first | omega | exact Nat.le_refl _⟩, ⟨by (with_reducible repeat (first | apply Kd.R_alloc | apply Kd.R_drewN | apply Kd.R_drew)); exact HO_6.out⟩, ⟨by (with_reducible repeat (first | apply Kd.R_alloc | apply Kd.R_drewN | apply Kd.R_drew)); exact HO_7.out⟩, ⟨by (with_reducible repeat (first | apply Kd.R_alloc | apply Kd.R_drewN | apply Kd.R_drew)); exact HO_344000.out⟩, ⟨by (with_reducible repeat (first | apply Kd.R_alloc | apply Kd.R_drewN | apply Kd.R_drew)); exact HO_344001.out⟩, ⟨by (with_reducible repeat (first | refine blk_drewN ?_ _ | refine blk_drew ?_ | refine blk_alloc ?_ _)); exact BK341.out⟩, ⟨by (with_reducible repeat (first | refine blk_drewN ?_ _ | refine blk_drew ?_ | refine blk_alloc ?_ _)); exact BK343.out⟩, ⟨by repeat (first | (with_reducible first | exact HB.out | apply below_alloc | apply pw_below_drewN | apply below_drew1 | refine below_set ?_ GE341.out | refine below_set ?_ GE343.out) | exact HB.out)⟩⟩
         ·rw [if_neg c26] at H
          have c26b0 : decide (x9_2 < 0) = false := decide_eq_false c26
          clear c26
          (first | rw [c26b0] | (simp only [i64_w, i32_w]; rw [c26b0]) | skip)
          have H' := Aside0.mk H
          clear H
          go_wp2
          go_meet
          case rel => exact ⟨_, (x9_2), (by first | rfl | (simp; done) | (simp [*]; done)), H', ⟨by have := HK1.out; have := HK2.out; first | omega | exact Nat.le_refl _⟩, ⟨by (with_reducible repeat (first | apply Kd.R_alloc | apply Kd.R_drewN | apply Kd.R_drew)); exact HO_6.out⟩, ⟨by (with_reducible repeat (first | apply Kd.R_alloc | apply Kd.R_drewN | apply Kd.R_drew)); exact HO_7.out⟩, ⟨by (with_reducible repeat (first | apply Kd.R_alloc | apply Kd.R_drewN | apply Kd.R_drew)); exact HO_344000.out⟩, ⟨by (with_reducible repeat (first | apply Kd.R_alloc | apply Kd.R_drewN | apply Kd.R_drew)); exact HO_344001.out⟩, ⟨by (with_reducible repeat (first | refine blk_drewN ?_ _ | refine blk_drew ?_ | refine blk_alloc ?_ _)); exact BK341.out⟩, ⟨by (with_reducible repeat (first | refine blk_drewN ?_ _ | refine blk_drew ?_ | refine blk_alloc ?_ _)); exact BK343.out⟩, ⟨by repeat (first | (with_reducible first | exact HB.out | apply below_alloc | apply pw_below_drewN | apply below_drew1 | refine below_set ?_ GE341.out | refine below_set ?_ GE343.out) | exact HB.out)⟩⟩
        case rest =>
         clear HC25
         try clear c1
         try clear c2
         try clear p2
         try clear p3
         try clear q3
         try clear hx3
         try clear c4
         try clear c5
         try clear p6
         try clear c9
         try clear c14
         try clear c14b0
         try clear c15
         try clear c15b0
         try clear c16
         try clear c17
         try clear c19
         try clear c24
         try clear c24b0
         try clear c26
         try clear c26b0
         try clear hcz10_0
         try clear hcz10_1
         try clear hcz20_0
         try clear hcz20_1
         try clear hcz23_0
         try clear hcz23_1
         try clear hfz10_0
         try clear hfz10_1
         try clear hfz20_0
         try clear hfz20_1
         try clear hfz23_0
         try clear hfz23_1
         try clear hx350_0
         try clear hx350_1
         try clear hx350_2
         try clear hx350_3
         try clear p2
         try clear p3
         try clear p350
         try clear p6
         try clear q3
         try clear q350
         obtain ⟨kq, x9_24, rfl, HA, HJ24, HO_6, HO_7, HO_344000, HO_344001, BK341, BK343, HB⟩ := hcut
         cases kq with
         | zero => exact absurd HA.out (by simp [spec_RunNonPreemptive.j2])
         | succ kj24 =>
          have H := HA.out
          clear HA
          simp only [spec_RunNonPreemptive.j2] at H
          by_cases c30 : x344000_2.length < 17592186044416
          ·rw [if_pos c30] at H
           have LMc30 := Aside0.mk c30
           clear c30
           obtain ⟨y358, hy358⟩ : ∃ y_ : List Int, y_ = (x344000_2 ++ [x9_24]) := ⟨_, rfl⟩
           replace H : (if x9_24 ≥ 0 then (if 0 ≤ x9_24 then (if x9_24 < (x6_2.length : Int) then ((some (x6_2.set (x9_24 : Int).toNat (wrap64 ((rd x6_2 x9_24) - 1)) : List Int)).bind fun y362 => (if (rd y362 x9_24) = 0 then (if x9_24 < (x344001_2.length : Int) then (spec_RunNonPreemptive.l1 kj24 l1 y362 x7_2 (-1) (wrap64 (x10_2 + 1)) y358 (x344001_2.set (x9_24 : Int).toNat (wrap64 (x10_2 + 1)))) else (none)) else (spec_RunNonPreemptive.l1 kj24 l1 y362 x7_2 x9_24 (wrap64 (x10_2 + 1)) y358 x344001_2))) else (none)) else (none)) else (spec_RunNonPreemptive.l1 kj24 l1 x6_2 x7_2 x9_24 (wrap64 (x10_2 + 1)) y358 x344001_2)) = some (r1, r2) := by first | (rw [hy358]; with_reducible exact H) | (have H2_ := (Option.bind_some _ _).symm.trans H; rw [hy358]; with_reducible exact H2_) | (have H2_ := (Option.bind_some _ _).symm.trans H; with_reducible exact H2_) | with_reducible exact H | (rw [hy358]; exact H) | exact H
           have Ny358 := Aside0.mk hy358
           clear hy358
           by_cases c31 : x9_24 ≥ 0
           ·rw [if_pos c31] at H
            have c31b0 : decide (0 ≤ x9_24) = true := decide_eq_true c31
            clear c31
            by_cases c32 : 0 ≤ x9_24
            ·rw [if_pos c32] at H
             have c32b0 : decide (0 ≤ x9_24) = true := decide_eq_true c32
             clear c32
             by_cases c33 : x9_24 < (x6_2.length : Int)
             ·rw [if_pos c33] at H
              have c33b0 : decide (x9_24 < (x6_2.length : Int)) = true := decide_eq_true c33
              clear c33
              obtain ⟨y362, hy362⟩ : ∃ y_ : List Int, y_ = (x6_2.set (x9_24 : Int).toNat (wrap64 ((rd x6_2 x9_24) - 1))) := ⟨_, rfl⟩
              replace H : (if (rd y362 x9_24) = 0 then (if x9_24 < (x344001_2.length : Int) then (spec_RunNonPreemptive.l1 kj24 l1 y362 x7_2 (-1) (wrap64 (x10_2 + 1)) y358 (x344001_2.set (x9_24 : Int).toNat (wrap64 (x10_2 + 1)))) else (none)) else (spec_RunNonPreemptive.l1 kj24 l1 y362 x7_2 x9_24 (wrap64 (x10_2 + 1)) y358 x344001_2)) = some (r1, r2) := by first | (rw [hy362]; with_reducible exact H) | (have H2_ := (Option.bind_some _ _).symm.trans H; rw [hy362]; with_reducible exact H2_) | (have H2_ := (Option.bind_some _ _).symm.trans H; with_reducible exact H2_) | with_reducible exact H | (rw [hy362]; exact H) | exact H
              have Ny362 := Aside0.mk hy362
              clear hy362
              by_cases c35 : (rd y362 x9_24) = 0
              ·rw [if_pos c35] at H
               have c35b0 : ((rd y362 x9_24) == 0) = true := beq_iff_eq.mpr c35
               have c35b1 : ((rd y362 x9_24) != 0) = false := bne_eq_false_iff_eq.mpr c35
               clear c35
               by_cases c36 : x9_24 < (x344001_2.length : Int)
               ·rw [if_pos c36] at H
                have c36b0 : decide (x9_24 < (x344001_2.length : Int)) = true := decide_eq_true c36
                clear c36
                obtain ⟨y364, hy364⟩ : ∃ y_ : List Int, y_ = (x344001_2.set (x9_24 : Int).toNat (wrap64 (x10_2 + 1))) := ⟨_, rfl⟩
                replace H : (spec_RunNonPreemptive.l1 kj24 l1 y362 x7_2 (-1) (wrap64 (x10_2 + 1)) y358 y364) = some (r1, r2) := by first | (rw [hy364]; with_reducible exact H) | (have H2_ := (Option.bind_some _ _).symm.trans H; rw [hy364]; with_reducible exact H2_) | (have H2_ := (Option.bind_some _ _).symm.trans H; with_reducible exact H2_) | with_reducible exact H | (rw [hy364]; exact H) | exact H
                have Ny364 := Aside0.mk hy364
                clear hy364
                have H' := Aside0.mk H
                clear H
                have hnb38 := NB343_341.out
                have hnc38 := NB341_343.out
                have hcz39_0 : wc.cell? ⟨gb343, 0, none⟩ = some (u344000) := (blk_cell BK343.out 0).trans rfl
                have hcz39_1 : wc.cell? ⟨gb343, 1, none⟩ = some (u344001) := (blk_cell BK343.out 1).trans rfl
                have hfz39_0 := blk_frozen BK343.out 0
                have hfz39_1 := blk_frozen BK343.out 1
                go_wp2_with (first | ((with_reducible refine gate_builtin (b := .append) (xs := #[.tmp 51, .tmp 53]) rfl ?_); at_builtin; refine Kd.R_append (Kd.int .i64) (w0 := w) w.heap.size rfl (.tmp 51) (.tmp 53) 27 3 (.int .i64 0) 8 rfl Try.underlying27 info3 rfl (by decide) (by omega) u344000 x344000_2 x9_24 [.int .i64 x9_24] (fun k_ => some k_ ≠ (u6 : Value).ownBlock ∧ some k_ ≠ (v348 : Value).ownBlock ∧ some k_ ≠ (u344001 : Value).ownBlock) (fun _ => False) rfl rfl ?aP (fun _ hk => hk.elim) ?aF ?aO ?aB ?aS ?aL ?_; (case aP => exact rfl); (case aB => exact (by repeat (first | (with_reducible first | exact HB.out | apply below_alloc | apply pw_below_drewN | apply below_drew1 | refine below_set ?_ GE341.out | refine below_set ?_ GE343.out) | exact HB.out))); (case aF => exact (fun k_ hk => ⟨Kd.fresh' (Kd.R_lt (by (with_reducible repeat (first | apply Kd.R_alloc | apply Kd.R_drewN | apply Kd.R_drew)); exact HO_6.out)) k_ hk, Kd.fresh' (Kd.R_lt (by (with_reducible repeat (first | apply Kd.R_alloc | apply Kd.R_drewN | apply Kd.R_drew)); exact HO_7.out)) k_ hk, Kd.fresh' (Kd.R_lt (by (with_reducible repeat (first | apply Kd.R_alloc | apply Kd.R_drewN | apply Kd.R_drew)); exact HO_344001.out)) k_ hk⟩)); (case aO => exact (by (with_reducible repeat (first | apply Kd.R_alloc | apply Kd.R_drewN | apply Kd.R_drew)); exact HO_344000.out)); (case aS => exact (below_size (by repeat (first | (with_reducible first | exact HB.out | apply below_alloc | apply pw_below_drewN | apply below_drew1 | refine below_set ?_ GE341.out | refine below_set ?_ GE343.out) | exact HB.out)))); (case aL => have := LMc30.out; omega); intro v359 w40 ho hb hg hat; rw [← Ny358.out] at ho; have n0_ := Aside0.mk (Kd.R_after (ok := (fun k_ => some k_ ≠ (v348 : Value).ownBlock ∧ some k_ ≠ (u344001 : Value).ownBlock)) (by (with_reducible repeat (first | apply Kd.R_alloc | apply Kd.R_drewN | apply Kd.R_drew)); exact Kd.R_mono HO_6.out (fun _ hk => ⟨⟨hk.1, hk.2.2⟩, hk.2.1⟩)) hg hat); have n1_ := Aside0.mk (Kd.R_after (ok := (fun k_ => some k_ ≠ (u6 : Value).ownBlock ∧ some k_ ≠ (u344001 : Value).ownBlock)) (by (with_reducible repeat (first | apply Kd.R_alloc | apply Kd.R_drewN | apply Kd.R_drew)); exact Kd.R_mono HO_7.out (fun _ hk => ⟨⟨hk.1, hk.2.2⟩, hk.2.1⟩)) hg hat); have n2_ := Aside0.mk (Kd.R_after (ok := (fun k_ => some k_ ≠ (u6 : Value).ownBlock ∧ some k_ ≠ (v348 : Value).ownBlock)) (by (with_reducible repeat (first | apply Kd.R_alloc | apply Kd.R_drewN | apply Kd.R_drew)); exact Kd.R_mono HO_344001.out (fun _ hk => ⟨⟨hk.1, hk.2.1⟩, hk.2.2⟩)) hg hat); have n3_ := Aside0.mk (blk_grown (g := gb341) (o := .cells #[.slice none 0 0, .slice none 0 0] 29 (0, 0)) (by (with_reducible repeat (first | refine blk_drewN ?_ _ | refine blk_drew ?_ | refine blk_alloc ?_ _)); exact BK341.out) hg (Kd.R_ne HO_344000.out BK341.out (by decide))); have n4_ := Aside0.mk (blk_grown (g := gb343) (o := .cells #[u344000, u344001] 29 (0, 0)) (by (with_reducible repeat (first | refine blk_drewN ?_ _ | refine blk_drew ?_ | refine blk_alloc ?_ _)); exact BK343.out) hg (Kd.R_ne HO_344000.out BK343.out (by decide))); have n5_ := Aside0.mk (hb); have n6_ := Aside0.mk (ho); clear HO_6; clear HO_7; clear HO_344001; clear BK341; clear BK343; clear HB; clear HO_344000; have HO_6 := n0_; have HO_7 := n1_; have HO_344001 := n2_; have BK341 := n3_; have BK343 := n4_; have HB := n5_; have HO360 := n6_; clear n0_ n1_ n2_ n3_ n4_ n5_ n6_; clear ho hb hg hat; obtain ⟨Ao41, co41, eo41⟩ := Kd.R_slice HO360.out; subst eo41; have hcz42_0 : w40.cell? ⟨gb343, 0, none⟩ = some (u344000) := (blk_cell BK343.out 0).trans rfl; have hcz42_1 : w40.cell? ⟨gb343, 1, none⟩ = some (u344001) := (blk_cell BK343.out 1).trans rfl; have hfz42_0 := blk_frozen BK343.out 0; have hfz42_1 := blk_frozen BK343.out 1) | ((with_reducible refine gate_store (t := 27) (p := 55) rfl ?_); refine store_event (t := 27) (p := 55) (v := ?vo_w43) (w1 := (w40.setCell ⟨gb343, 0, none⟩ (.slice Ao41 y358.length co41))) ?hg ?ho ?hn ?hr ?_; (case ho => rfl); (case hg => rfl); (case hn => rfl); (case hr => first | (go_simp; done) | (go_simp; rfl)); intro w43 hw; have n0_ : Aside0 (Kd.R (Kd.int .i64) 3 w43 w.heap.size (fun k_ => some k_ ≠ (v348 : Value).ownBlock ∧ some k_ ≠ (u344001 : Value).ownBlock ∧ some k_ ≠ (.slice Ao41 y358.length co41 : Value).ownBlock) u6 x6_2) := ⟨(by rw [hw]; exact (by (with_reducible repeat (first | apply Kd.R_alloc | apply Kd.R_drewN | apply Kd.R_drew)); exact Kd.R_mono (Kd.R_far (p := ⟨gb343, 0, none⟩) (Kd.R_types HO_6.out BK343.out (by decide)) (fun _ hk => hk.2) (.slice Ao41 y358.length co41)) (fun _ hk => ⟨hk.1.1.1, ⟨hk.1.1.2, hk.1.2⟩⟩)))⟩; have n1_ : Aside0 (Kd.R (Kd.int .i64) 3 w43 w.heap.size (fun k_ => some k_ ≠ (u6 : Value).ownBlock ∧ some k_ ≠ (u344001 : Value).ownBlock ∧ some k_ ≠ (.slice Ao41 y358.length co41 : Value).ownBlock) v348 x7_2) := ⟨(by rw [hw]; exact (by (with_reducible repeat (first | apply Kd.R_alloc | apply Kd.R_drewN | apply Kd.R_drew)); exact Kd.R_mono (Kd.R_far (p := ⟨gb343, 0, none⟩) (Kd.R_types HO_7.out BK343.out (by decide)) (fun _ hk => hk.2) (.slice Ao41 y358.length co41)) (fun _ hk => ⟨hk.1.1.1, ⟨hk.1.1.2, hk.1.2⟩⟩)))⟩; have n2_ : Aside0 (Kd.R (Kd.int .i64) 3 w43 w.heap.size (fun k_ => some k_ ≠ (u6 : Value).ownBlock ∧ some k_ ≠ (v348 : Value).ownBlock ∧ some k_ ≠ (.slice Ao41 y358.length co41 : Value).ownBlock) u344001 x344001_2) := ⟨(by rw [hw]; exact (by (with_reducible repeat (first | apply Kd.R_alloc | apply Kd.R_drewN | apply Kd.R_drew)); exact Kd.R_mono (Kd.R_far (p := ⟨gb343, 0, none⟩) (Kd.R_types HO_344001.out BK343.out (by decide)) (fun _ hk => hk.2) (.slice Ao41 y358.length co41)) (fun _ hk => ⟨hk.1.1.1, ⟨hk.1.1.2, hk.1.2⟩⟩)))⟩; have n3_ : Aside0 (Kd.R (Kd.int .i64) 3 w43 w.heap.size (fun k_ => some k_ ≠ (u6 : Value).ownBlock ∧ some k_ ≠ (v348 : Value).ownBlock ∧ some k_ ≠ (u344001 : Value).ownBlock) (.slice Ao41 y358.length co41) y358) := ⟨(by rw [hw]; exact (by (with_reducible repeat (first | apply Kd.R_alloc | apply Kd.R_drewN | apply Kd.R_drew)); exact Kd.R_mono (Kd.R_far (p := ⟨gb343, 0, none⟩) (Kd.R_types HO360.out BK343.out (by decide)) (fun _ hk => hk.2) (.slice Ao41 y358.length co41)) (fun _ hk => ⟨hk.1.1, ⟨hk.1.2.1, hk.1.2.2⟩⟩)))⟩; have n4_ : Aside0 (w43.heap[gb341]? = some (.cells #[.slice none 0 0, .slice none 0 0] 29 (0, 0))) := ⟨(by rw [hw]; exact (by (with_reducible repeat (first | refine blk_drewN ?_ _ | refine blk_drew ?_ | refine blk_alloc ?_ _)); refine blk_far ?_ NB341_343.out _; (with_reducible repeat (first | refine blk_drewN ?_ _ | refine blk_drew ?_ | refine blk_alloc ?_ _)); exact BK341.out))⟩; have n5_ : Aside0 (w43.heap[gb343]? = some (.cells #[.slice Ao41 y358.length co41, u344001] 29 (0, 0))) := ⟨(by rw [hw]; exact (by (with_reducible repeat (first | refine blk_drewN ?_ _ | refine blk_drew ?_ | refine blk_alloc ?_ _)); refine blk_put (cs := #[u344000, u344001]) ?_ 0 _ rfl; (with_reducible repeat (first | refine blk_drewN ?_ _ | refine blk_drew ?_ | refine blk_alloc ?_ _)); exact BK343.out))⟩; have n6_ : Aside0 (Below w.heap.size w w43) := ⟨(by rw [hw]; exact (by repeat (first | (with_reducible first | exact HB.out | apply below_alloc | apply pw_below_drewN | apply below_drew1 | refine below_set ?_ GE341.out | refine below_set ?_ GE343.out) | exact HB.out)))⟩; clear hw; clear HO_6; clear HO_7; clear HO_344001; clear HO360; clear BK341; clear BK343; clear HB; have HO_6 := n0_; have HO_7 := n1_; have HO_344001 := n2_; have HO360 := n3_; have BK341 := n4_; have BK343 := n5_; have HB := n6_; clear n0_ n1_ n2_ n3_ n4_ n5_ n6_; obtain ⟨Ao44, co44, eo44⟩ := Kd.R_slice HO_6.out; subst eo44; have p361 : 0 ≤ (x9_24 : Int) := of_decide_eq_true (by first | (with_reducible assumption) | assumption); have q361 : x9_24 < (x6_2.length : Int) := of_decide_eq_true (by first | (with_reducible assumption) | assumption); obtain ⟨ad361, e361, hx361_0⟩ := Kd.at_int (Kd.R_reads' HO_6.out).2.2 x9_24 p361 q361; cases e361; replace p361 := eq_true p361; replace q361 := eq_true q361; have p34 : 0 ≤ (x9_24 : Int) := of_decide_eq_true (by first | (with_reducible assumption) | assumption); have q34 : (x9_24 : Int) < ((x6_2.length : Int) : Int) := of_decide_eq_true (by first | (with_reducible assumption) | assumption); obtain ⟨go34, co34, eo34, gb34, gl34, cl34, HG34⟩ := Kd.R_form HO_6.out (by omega); (first | cases eo34 | (injection eo34 with ea_ en_ ec_; (first | subst ea_ | (injection ea_ with ea_; subst ea_)); subst ec_; clear en_)); have GB34 := Aside0.mk gb34; have GG34 := Aside0.mk HG34; clear gb34 gl34 HG34; (first | simp only [add_plain] at hx361_0 | skip); obtain ⟨hx34_0, hf34_0⟩ := Kd.R_celln 0 HO_6.out (x9_24 : Int) p34 q34; replace p34 := eq_true p34; replace q34 := eq_true q34; obtain ⟨hy45_, hz45_⟩ := Kd.R_celln 0 HO_6.out (x9_24 : Int) (of_decide_eq_true (by first | (with_reducible assumption) | assumption)) (of_decide_eq_true (by first | (with_reducible assumption) | assumption)); have HP45 := Kd.R_putg HO_6.out (x9_24 : Int) (wrap64 ((rd x6_2 x9_24) - 1))) | ((with_reducible refine gate_store (t := 3) (p := 65) rfl ?_); refine store_event (t := 3) (p := 65) (v := ?vo_w46) (w1 := (w43.setCell ⟨go34, (x9_24 : Int).toNat, none⟩ (.int .i64 (wrap64 ((rd x6_2 x9_24) - 1))))) ?hg ?ho ?hn ?hr ?_; (case ho => rfl); (case hg => rfl); (case hn => rfl); (case hr => first | (go_simp; done) | (go_simp; rfl)); intro w46 hw; have hg : w43.grownBy w46 (some go34) := (by rw [hw]; exact HP45.2); have hp_ : Kd.R (Kd.int .i64) 3 w46 w.heap.size (fun k_ => some k_ ≠ (v348 : Value).ownBlock ∧ some k_ ≠ (u344001 : Value).ownBlock ∧ some k_ ≠ (.slice Ao41 y358.length co41 : Value).ownBlock) (.slice (some ⟨go34, 0, none⟩) x6_2.length co44) y362 := (by rw [hw, Ny362.out]; exact HP45.1); clear HP45; have n0_ := Aside0.mk (hp_); have n1_ := Aside0.mk (Kd.R_after (v := (.slice (some ⟨go34, 0, none⟩) x6_2.length co44)) (v1 := (.slice (some ⟨go34, 0, none⟩) x6_2.length co44)) (ok := (fun k_ => some k_ ≠ (u344001 : Value).ownBlock ∧ some k_ ≠ (.slice Ao41 y358.length co41 : Value).ownBlock)) (by (with_reducible repeat (first | apply Kd.R_alloc | apply Kd.R_drewN | apply Kd.R_drew)); exact Kd.R_mono HO_7.out (fun _ hk => ⟨⟨hk.2.1, hk.2.2⟩, hk.1⟩)) hg (.inl rfl)); have n2_ := Aside0.mk (Kd.R_after (v := (.slice (some ⟨go34, 0, none⟩) x6_2.length co44)) (v1 := (.slice (some ⟨go34, 0, none⟩) x6_2.length co44)) (ok := (fun k_ => some k_ ≠ (v348 : Value).ownBlock ∧ some k_ ≠ (.slice Ao41 y358.length co41 : Value).ownBlock)) (by (with_reducible repeat (first | apply Kd.R_alloc | apply Kd.R_drewN | apply Kd.R_drew)); exact Kd.R_mono HO_344001.out (fun _ hk => ⟨⟨hk.2.1, hk.2.2⟩, hk.1⟩)) hg (.inl rfl)); have n3_ := Aside0.mk (blk_grown (g := gb341) (o := .cells #[.slice none 0 0, .slice none 0 0] 29 (0, 0)) (by (with_reducible repeat (first | refine blk_drewN ?_ _ | refine blk_drew ?_ | refine blk_alloc ?_ _)); exact BK341.out) hg (Kd.R_ne HO_6.out BK341.out (by decide))); have n4_ := Aside0.mk (blk_grown (g := gb343) (o := .cells #[.slice Ao41 y358.length co41, u344001] 29 (0, 0)) (by (with_reducible repeat (first | refine blk_drewN ?_ _ | refine blk_drew ?_ | refine blk_alloc ?_ _)); exact BK343.out) hg (Kd.R_ne HO_6.out BK343.out (by decide))); have n5_ := Aside0.mk (Kd.R_after (v := (.slice (some ⟨go34, 0, none⟩) x6_2.length co44)) (v1 := (.slice (some ⟨go34, 0, none⟩) x6_2.length co44)) (ok := (fun k_ => some k_ ≠ (v348 : Value).ownBlock ∧ some k_ ≠ (u344001 : Value).ownBlock)) (by (with_reducible repeat (first | apply Kd.R_alloc | apply Kd.R_drewN | apply Kd.R_drew)); exact Kd.R_mono HO360.out (fun _ hk => ⟨⟨hk.2.1, hk.2.2⟩, hk.1⟩)) hg (.inl rfl)); have n6_ := Aside0.mk ((by rw [hw]; exact below_set (HB.out) GB34.out : Below w.heap.size w w46)); clear HO_6; clear HO_7; clear HO_344001; clear BK341; clear BK343; clear HO360; clear HB; have HO_6 := n0_; have HO_7 := n1_; have HO_344001 := n2_; have BK341 := n3_; have BK343 := n4_; have HO360 := n5_; have HB := n6_; clear n0_ n1_ n2_ n3_ n4_ n5_ n6_; clear hg hw hp_; have p363 : 0 ≤ (x9_24 : Int) := of_decide_eq_true (by first | (with_reducible assumption) | assumption); have q363 : x9_24 < (y362.length : Int) := (by have h_ : (x9_24 : Int) < ((x6_2.length : Int) : Int) := of_decide_eq_true (by first | (with_reducible assumption) | assumption); first | (have e_ := (Kd.R_reads' HO_6.out).1; omega) | simpa only [Ny362.out, List.length_set] using h_); have ql363 : ((x9_24 : Int) < ((x6_2.length : Int) : Int)) = True := eq_true (of_decide_eq_true (by first | (with_reducible assumption) | assumption)); obtain ⟨ad363, e363, hx363_0⟩ := Kd.at_int (Kd.R_reads' HO_6.out).2.2 x9_24 p363 q363; obtain rfl : (⟨go34, 0, none⟩ : Addr) = ad363 := (by injection e363); (first | simp only [add_plain] at hx363_0 | simp only [add_at] at hx363_0 | simp only [Addr.add, Nat.zero_add] at hx363_0 | skip); replace p363 := eq_true p363; replace q363 := eq_true q363; have hcz47_0 : w46.cell? ⟨gb343, 0, none⟩ = some (.slice Ao41 y358.length co41) := (blk_cell BK343.out 0).trans rfl; have hcz47_1 : w46.cell? ⟨gb343, 1, none⟩ = some (u344001) := (blk_cell BK343.out 1).trans rfl; have hfz47_0 := blk_frozen BK343.out 0; have hfz47_1 := blk_frozen BK343.out 1; have p37 : 0 ≤ (x9_24 : Int) := of_decide_eq_true (by first | (with_reducible assumption) | assumption); have q37 : (x9_24 : Int) < ((x344001_2.length : Int) : Int) := of_decide_eq_true (by first | (with_reducible assumption) | assumption); obtain ⟨go37, co37, eo37, gb37, gl37, cl37, HG37⟩ := Kd.R_form HO_344001.out (by omega); (first | cases eo37 | (injection eo37 with ea_ en_ ec_; (first | subst ea_ | (injection ea_ with ea_; subst ea_)); subst ec_; clear en_)); have GB37 := Aside0.mk gb37; have GG37 := Aside0.mk HG37; clear gb37 gl37 HG37; obtain ⟨hx37_0, hf37_0⟩ := Kd.R_celln 0 HO_344001.out (x9_24 : Int) p37 q37; replace p37 := eq_true p37; replace q37 := eq_true q37; have n_ := Aside0.mk (Kd.R_mono (ok' := (fun k_ => some k_ ≠ (.slice (some ⟨go34, 0, none⟩) x6_2.length co44 : Value).ownBlock ∧ some k_ ≠ (v348 : Value).ownBlock ∧ some k_ ≠ (.slice Ao41 y358.length co41 : Value).ownBlock)) HO_344001.out (fun k_ hk => ⟨hk.2, ⟨hk.1.1, hk.1.2⟩⟩)); clear HO_344001; have HO_344001 := n_; clear n_; obtain ⟨hy48_, hz48_⟩ := Kd.R_celln 0 HO_344001.out (x9_24 : Int) (of_decide_eq_true (by first | (with_reducible assumption) | assumption)) (of_decide_eq_true (by first | (with_reducible assumption) | assumption)); have HP48 := Kd.R_putg HO_344001.out (x9_24 : Int) (wrap64 (x10_2 + 1))) | ((with_reducible refine gate_store (t := 3) (p := 76) rfl ?_); refine store_event (t := 3) (p := 76) (v := ?vo_w49) (w1 := (w46.setCell ⟨go37, (x9_24 : Int).toNat, none⟩ (.int .i64 (wrap64 (x10_2 + 1))))) ?hg ?ho ?hn ?hr ?_; (case ho => rfl); (case hg => rfl); (case hn => rfl); (case hr => first | (go_simp; done) | (go_simp; rfl)); intro w49 hw; have hg : w46.grownBy w49 (some go37) := (by rw [hw]; exact HP48.2); have hp_ : Kd.R (Kd.int .i64) 3 w49 w.heap.size (fun k_ => some k_ ≠ (.slice (some ⟨go34, 0, none⟩) x6_2.length co44 : Value).ownBlock ∧ some k_ ≠ (v348 : Value).ownBlock ∧ some k_ ≠ (.slice Ao41 y358.length co41 : Value).ownBlock) (.slice (some ⟨go37, 0, none⟩) x344001_2.length co37) y364 := (by rw [hw, Ny364.out]; exact HP48.1); clear HP48; have n0_ := Aside0.mk (Kd.R_after (v := (.slice (some ⟨go37, 0, none⟩) x344001_2.length co37)) (v1 := (.slice (some ⟨go37, 0, none⟩) x344001_2.length co37)) (ok := (fun k_ => some k_ ≠ (v348 : Value).ownBlock ∧ some k_ ≠ (.slice Ao41 y358.length co41 : Value).ownBlock)) (by (with_reducible repeat (first | apply Kd.R_alloc | apply Kd.R_drewN | apply Kd.R_drew)); exact Kd.R_mono HO_6.out (fun _ hk => ⟨⟨hk.1, hk.2.2⟩, hk.2.1⟩)) hg (.inl rfl)); have n1_ := Aside0.mk (Kd.R_after (v := (.slice (some ⟨go37, 0, none⟩) x344001_2.length co37)) (v1 := (.slice (some ⟨go37, 0, none⟩) x344001_2.length co37)) (ok := (fun k_ => some k_ ≠ (.slice (some ⟨go34, 0, none⟩) x6_2.length co44 : Value).ownBlock ∧ some k_ ≠ (.slice Ao41 y358.length co41 : Value).ownBlock)) (by (with_reducible repeat (first | apply Kd.R_alloc | apply Kd.R_drewN | apply Kd.R_drew)); exact Kd.R_mono HO_7.out (fun _ hk => ⟨⟨hk.2, hk.1.2⟩, hk.1.1⟩)) hg (.inl rfl)); have n2_ := Aside0.mk (hp_); have n3_ := Aside0.mk (blk_grown (g := gb341) (o := .cells #[.slice none 0 0, .slice none 0 0] 29 (0, 0)) (by (with_reducible repeat (first | refine blk_drewN ?_ _ | refine blk_drew ?_ | refine blk_alloc ?_ _)); exact BK341.out) hg (Kd.R_ne HO_344001.out BK341.out (by decide))); have n4_ := Aside0.mk (blk_grown (g := gb343) (o := .cells #[.slice Ao41 y358.length co41, .slice (some ⟨go37, 0, none⟩) x344001_2.length co37] 29 (0, 0)) (by (with_reducible repeat (first | refine blk_drewN ?_ _ | refine blk_drew ?_ | refine blk_alloc ?_ _)); exact BK343.out) hg (Kd.R_ne HO_344001.out BK343.out (by decide))); have n5_ := Aside0.mk (Kd.R_after (v := (.slice (some ⟨go37, 0, none⟩) x344001_2.length co37)) (v1 := (.slice (some ⟨go37, 0, none⟩) x344001_2.length co37)) (ok := (fun k_ => some k_ ≠ (.slice (some ⟨go34, 0, none⟩) x6_2.length co44 : Value).ownBlock ∧ some k_ ≠ (v348 : Value).ownBlock)) (by (with_reducible repeat (first | apply Kd.R_alloc | apply Kd.R_drewN | apply Kd.R_drew)); exact Kd.R_mono HO360.out (fun _ hk => ⟨⟨hk.2, hk.1.1⟩, hk.1.2⟩)) hg (.inl rfl)); have n6_ := Aside0.mk ((by rw [hw]; exact below_set (HB.out) GB37.out : Below w.heap.size w w49)); clear HO_6; clear HO_7; clear HO_344001; clear BK341; clear BK343; clear HO360; clear HB; have HO_6 := n0_; have HO_7 := n1_; have HO_344001 := n2_; have BK341 := n3_; have BK343 := n4_; have HO360 := n5_; have HB := n6_; clear n0_ n1_ n2_ n3_ n4_ n5_ n6_; clear hg hw hp_))
                go_roundg kj24
                case measure => have := HK1.out; have := HK2.out; have := HJ24.out; omega
                case rel => exact ⟨(y362), (x7_2), ((-1)), (wrap64 (x10_2 + 1)), (y358), (y364), (.slice Ao41 y358.length co41), (.slice (some ⟨go37, 0, none⟩) x344001_2.length co37), (by first | rfl | (simp; done) | (simp [*]; done)), (by first | rfl | (simp; done) | (simp [*]; done)), H', ⟨by have := HK1.out; have := HK2.out; have := HJ24.out; omega⟩, ⟨by (with_reducible repeat (first | apply Kd.R_alloc | apply Kd.R_drewN | apply Kd.R_drew)); exact Kd.R_mono HO_6.out (fun _ hk => ⟨hk.1.1, ⟨hk.1.2, hk.2⟩⟩)⟩, ⟨by (with_reducible repeat (first | apply Kd.R_alloc | apply Kd.R_drewN | apply Kd.R_drew)); exact Kd.R_mono HO_7.out (fun _ hk => ⟨hk.1.1, ⟨hk.1.2, hk.2⟩⟩)⟩, ⟨by (with_reducible repeat (first | apply Kd.R_alloc | apply Kd.R_drewN | apply Kd.R_drew)); exact Kd.R_mono HO360.out (fun _ hk => ⟨hk.1.1, ⟨hk.1.2, hk.2⟩⟩)⟩, ⟨by (with_reducible repeat (first | apply Kd.R_alloc | apply Kd.R_drewN | apply Kd.R_drew)); exact HO_344001.out⟩, ⟨by (with_reducible repeat (first | refine blk_drewN ?_ _ | refine blk_drew ?_ | refine blk_alloc ?_ _)); exact BK341.out⟩, ⟨by (with_reducible repeat (first | refine blk_drewN ?_ _ | refine blk_drew ?_ | refine blk_alloc ?_ _)); exact BK343.out⟩, ⟨by repeat (first | (with_reducible first | exact HB.out | apply below_alloc | apply pw_below_drewN | apply below_drew1 | refine below_set ?_ GE341.out | refine below_set ?_ GE343.out) | exact HB.out)⟩⟩
               ·rw [if_neg c36] at H
                exact absurd H (by simp)
              ·rw [if_neg c35] at H
               have c35b0 : ((rd y362 x9_24) == 0) = false := beq_eq_false_iff_ne.mpr c35
               have c35b1 : ((rd y362 x9_24) != 0) = true := bne_iff_ne.mpr c35
               have H' := Aside0.mk H
               clear H
               have hnb50 := NB343_341.out
               have hnc50 := NB341_343.out
               have hcz51_0 : wc.cell? ⟨gb343, 0, none⟩ = some (u344000) := (blk_cell BK343.out 0).trans rfl
               have hcz51_1 : wc.cell? ⟨gb343, 1, none⟩ = some (u344001) := (blk_cell BK343.out 1).trans rfl
               have hfz51_0 := blk_frozen BK343.out 0
               have hfz51_1 := blk_frozen BK343.out 1
               go_wp2_with (first | ((with_reducible refine gate_builtin (b := .append) (xs := #[.tmp 51, .tmp 53]) rfl ?_); at_builtin; refine Kd.R_append (Kd.int .i64) (w0 := w) w.heap.size rfl (.tmp 51) (.tmp 53) 27 3 (.int .i64 0) 8 rfl Try.underlying27 info3 rfl (by decide) (by omega) u344000 x344000_2 x9_24 [.int .i64 x9_24] (fun k_ => some k_ ≠ (u6 : Value).ownBlock ∧ some k_ ≠ (v348 : Value).ownBlock ∧ some k_ ≠ (u344001 : Value).ownBlock) (fun _ => False) rfl rfl ?aP (fun _ hk => hk.elim) ?aF ?aO ?aB ?aS ?aL ?_; (case aP => exact rfl); (case aB => exact (by repeat (first | (with_reducible first | exact HB.out | apply below_alloc | apply pw_below_drewN | apply below_drew1 | refine below_set ?_ GE341.out | refine below_set ?_ GE343.out) | exact HB.out))); (case aF => exact (fun k_ hk => ⟨Kd.fresh' (Kd.R_lt (by (with_reducible repeat (first | apply Kd.R_alloc | apply Kd.R_drewN | apply Kd.R_drew)); exact HO_6.out)) k_ hk, Kd.fresh' (Kd.R_lt (by (with_reducible repeat (first | apply Kd.R_alloc | apply Kd.R_drewN | apply Kd.R_drew)); exact HO_7.out)) k_ hk, Kd.fresh' (Kd.R_lt (by (with_reducible repeat (first | apply Kd.R_alloc | apply Kd.R_drewN | apply Kd.R_drew)); exact HO_344001.out)) k_ hk⟩)); (case aO => exact (by (with_reducible repeat (first | apply Kd.R_alloc | apply Kd.R_drewN | apply Kd.R_drew)); exact HO_344000.out)); (case aS => exact (below_size (by repeat (first | (with_reducible first | exact HB.out | apply below_alloc | apply pw_below_drewN | apply below_drew1 | refine below_set ?_ GE341.out | refine below_set ?_ GE343.out) | exact HB.out)))); (case aL => have := LMc30.out; omega); intro v359 w52 ho hb hg hat; rw [← Ny358.out] at ho; have n0_ := Aside0.mk (Kd.R_after (ok := (fun k_ => some k_ ≠ (v348 : Value).ownBlock ∧ some k_ ≠ (u344001 : Value).ownBlock)) (by (with_reducible repeat (first | apply Kd.R_alloc | apply Kd.R_drewN | apply Kd.R_drew)); exact Kd.R_mono HO_6.out (fun _ hk => ⟨⟨hk.1, hk.2.2⟩, hk.2.1⟩)) hg hat); have n1_ := Aside0.mk (Kd.R_after (ok := (fun k_ => some k_ ≠ (u6 : Value).ownBlock ∧ some k_ ≠ (u344001 : Value).ownBlock)) (by (with_reducible repeat (first | apply Kd.R_alloc | apply Kd.R_drewN | apply Kd.R_drew)); exact Kd.R_mono HO_7.out (fun _ hk => ⟨⟨hk.1, hk.2.2⟩, hk.2.1⟩)) hg hat); have n2_ := Aside0.mk (Kd.R_after (ok := (fun k_ => some k_ ≠ (u6 : Value).ownBlock ∧ some k_ ≠ (v348 : Value).ownBlock)) (by (with_reducible repeat (first | apply Kd.R_alloc | apply Kd.R_drewN | apply Kd.R_drew)); exact Kd.R_mono HO_344001.out (fun _ hk => ⟨⟨hk.1, hk.2.1⟩, hk.2.2⟩)) hg hat); have n3_ := Aside0.mk (blk_grown (g := gb341) (o := .cells #[.slice none 0 0, .slice none 0 0] 29 (0, 0)) (by (with_reducible repeat (first | refine blk_drewN ?_ _ | refine blk_drew ?_ | refine blk_alloc ?_ _)); exact BK341.out) hg (Kd.R_ne HO_344000.out BK341.out (by decide))); have n4_ := Aside0.mk (blk_grown (g := gb343) (o := .cells #[u344000, u344001] 29 (0, 0)) (by (with_reducible repeat (first | refine blk_drewN ?_ _ | refine blk_drew ?_ | refine blk_alloc ?_ _)); exact BK343.out) hg (Kd.R_ne HO_344000.out BK343.out (by decide))); have n5_ := Aside0.mk (hb); have n6_ := Aside0.mk (ho); clear HO_6; clear HO_7; clear HO_344001; clear BK341; clear BK343; clear HB; clear HO_344000; have HO_6 := n0_; have HO_7 := n1_; have HO_344001 := n2_; have BK341 := n3_; have BK343 := n4_; have HB := n5_; have HO360 := n6_; clear n0_ n1_ n2_ n3_ n4_ n5_ n6_; clear ho hb hg hat; obtain ⟨Ao53, co53, eo53⟩ := Kd.R_slice HO360.out; subst eo53; have hcz54_0 : w52.cell? ⟨gb343, 0, none⟩ = some (u344000) := (blk_cell BK343.out 0).trans rfl; have hcz54_1 : w52.cell? ⟨gb343, 1, none⟩ = some (u344001) := (blk_cell BK343.out 1).trans rfl; have hfz54_0 := blk_frozen BK343.out 0; have hfz54_1 := blk_frozen BK343.out 1) | ((with_reducible refine gate_store (t := 27) (p := 55) rfl ?_); refine store_event (t := 27) (p := 55) (v := ?vo_w55) (w1 := (w52.setCell ⟨gb343, 0, none⟩ (.slice Ao53 y358.length co53))) ?hg ?ho ?hn ?hr ?_; (case ho => rfl); (case hg => rfl); (case hn => rfl); (case hr => first | (go_simp; done) | (go_simp; rfl)); intro w55 hw; have n0_ : Aside0 (Kd.R (Kd.int .i64) 3 w55 w.heap.size (fun k_ => some k_ ≠ (v348 : Value).ownBlock ∧ some k_ ≠ (u344001 : Value).ownBlock ∧ some k_ ≠ (.slice Ao53 y358.length co53 : Value).ownBlock) u6 x6_2) := ⟨(by rw [hw]; exact (by (with_reducible repeat (first | apply Kd.R_alloc | apply Kd.R_drewN | apply Kd.R_drew)); exact Kd.R_mono (Kd.R_far (p := ⟨gb343, 0, none⟩) (Kd.R_types HO_6.out BK343.out (by decide)) (fun _ hk => hk.2) (.slice Ao53 y358.length co53)) (fun _ hk => ⟨hk.1.1.1, ⟨hk.1.1.2, hk.1.2⟩⟩)))⟩; have n1_ : Aside0 (Kd.R (Kd.int .i64) 3 w55 w.heap.size (fun k_ => some k_ ≠ (u6 : Value).ownBlock ∧ some k_ ≠ (u344001 : Value).ownBlock ∧ some k_ ≠ (.slice Ao53 y358.length co53 : Value).ownBlock) v348 x7_2) := ⟨(by rw [hw]; exact (by (with_reducible repeat (first | apply Kd.R_alloc | apply Kd.R_drewN | apply Kd.R_drew)); exact Kd.R_mono (Kd.R_far (p := ⟨gb343, 0, none⟩) (Kd.R_types HO_7.out BK343.out (by decide)) (fun _ hk => hk.2) (.slice Ao53 y358.length co53)) (fun _ hk => ⟨hk.1.1.1, ⟨hk.1.1.2, hk.1.2⟩⟩)))⟩; have n2_ : Aside0 (Kd.R (Kd.int .i64) 3 w55 w.heap.size (fun k_ => some k_ ≠ (u6 : Value).ownBlock ∧ some k_ ≠ (v348 : Value).ownBlock ∧ some k_ ≠ (.slice Ao53 y358.length co53 : Value).ownBlock) u344001 x344001_2) := ⟨(by rw [hw]; exact (by (with_reducible repeat (first | apply Kd.R_alloc | apply Kd.R_drewN | apply Kd.R_drew)); exact Kd.R_mono (Kd.R_far (p := ⟨gb343, 0, none⟩) (Kd.R_types HO_344001.out BK343.out (by decide)) (fun _ hk => hk.2) (.slice Ao53 y358.length co53)) (fun _ hk => ⟨hk.1.1.1, ⟨hk.1.1.2, hk.1.2⟩⟩)))⟩; have n3_ : Aside0 (Kd.R (Kd.int .i64) 3 w55 w.heap.size (fun k_ => some k_ ≠ (u6 : Value).ownBlock ∧ some k_ ≠ (v348 : Value).ownBlock ∧ some k_ ≠ (u344001 : Value).ownBlock) (.slice Ao53 y358.length co53) y358) := ⟨(by rw [hw]; exact (by (with_reducible repeat (first | apply Kd.R_alloc | apply Kd.R_drewN | apply Kd.R_drew)); exact Kd.R_mono (Kd.R_far (p := ⟨gb343, 0, none⟩) (Kd.R_types HO360.out BK343.out (by decide)) (fun _ hk => hk.2) (.slice Ao53 y358.length co53)) (fun _ hk => ⟨hk.1.1, ⟨hk.1.2.1, hk.1.2.2⟩⟩)))⟩; have n4_ : Aside0 (w55.heap[gb341]? = some (.cells #[.slice none 0 0, .slice none 0 0] 29 (0, 0))) := ⟨(by rw [hw]; exact (by (with_reducible repeat (first | refine blk_drewN ?_ _ | refine blk_drew ?_ | refine blk_alloc ?_ _)); refine blk_far ?_ NB341_343.out _; (with_reducible repeat (first | refine blk_drewN ?_ _ | refine blk_drew ?_ | refine blk_alloc ?_ _)); exact BK341.out))⟩; have n5_ : Aside0 (w55.heap[gb343]? = some (.cells #[.slice Ao53 y358.length co53, u344001] 29 (0, 0))) := ⟨(by rw [hw]; exact (by (with_reducible repeat (first | refine blk_drewN ?_ _ | refine blk_drew ?_ | refine blk_alloc ?_ _)); refine blk_put (cs := #[u344000, u344001]) ?_ 0 _ rfl; (with_reducible repeat (first | refine blk_drewN ?_ _ | refine blk_drew ?_ | refine blk_alloc ?_ _)); exact BK343.out))⟩; have n6_ : Aside0 (Below w.heap.size w w55) := ⟨(by rw [hw]; exact (by repeat (first | (with_reducible first | exact HB.out | apply below_alloc | apply pw_below_drewN | apply below_drew1 | refine below_set ?_ GE341.out | refine below_set ?_ GE343.out) | exact HB.out)))⟩; clear hw; clear HO_6; clear HO_7; clear HO_344001; clear HO360; clear BK341; clear BK343; clear HB; have HO_6 := n0_; have HO_7 := n1_; have HO_344001 := n2_; have HO360 := n3_; have BK341 := n4_; have BK343 := n5_; have HB := n6_; clear n0_ n1_ n2_ n3_ n4_ n5_ n6_; obtain ⟨Ao56, co56, eo56⟩ := Kd.R_slice HO_6.out; subst eo56; have p361 : 0 ≤ (x9_24 : Int) := of_decide_eq_true (by first | (with_reducible assumption) | assumption); have q361 : x9_24 < (x6_2.length : Int) := of_decide_eq_true (by first | (with_reducible assumption) | assumption); obtain ⟨ad361, e361, hx361_0⟩ := Kd.at_int (Kd.R_reads' HO_6.out).2.2 x9_24 p361 q361; cases e361; replace p361 := eq_true p361; replace q361 := eq_true q361; have p34 : 0 ≤ (x9_24 : Int) := of_decide_eq_true (by first | (with_reducible assumption) | assumption); have q34 : (x9_24 : Int) < ((x6_2.length : Int) : Int) := of_decide_eq_true (by first | (with_reducible assumption) | assumption); obtain ⟨go34, co34, eo34, gb34, gl34, cl34, HG34⟩ := Kd.R_form HO_6.out (by omega); (first | cases eo34 | (injection eo34 with ea_ en_ ec_; (first | subst ea_ | (injection ea_ with ea_; subst ea_)); subst ec_; clear en_)); have GB34 := Aside0.mk gb34; have GG34 := Aside0.mk HG34; clear gb34 gl34 HG34; (first | simp only [add_plain] at hx361_0 | skip); obtain ⟨hx34_0, hf34_0⟩ := Kd.R_celln 0 HO_6.out (x9_24 : Int) p34 q34; replace p34 := eq_true p34; replace q34 := eq_true q34; obtain ⟨hy57_, hz57_⟩ := Kd.R_celln 0 HO_6.out (x9_24 : Int) (of_decide_eq_true (by first | (with_reducible assumption) | assumption)) (of_decide_eq_true (by first | (with_reducible assumption) | assumption)); have HP57 := Kd.R_putg HO_6.out (x9_24 : Int) (wrap64 ((rd x6_2 x9_24) - 1))) | ((with_reducible refine gate_store (t := 3) (p := 65) rfl ?_); refine store_event (t := 3) (p := 65) (v := ?vo_w58) (w1 := (w55.setCell ⟨go34, (x9_24 : Int).toNat, none⟩ (.int .i64 (wrap64 ((rd x6_2 x9_24) - 1))))) ?hg ?ho ?hn ?hr ?_; (case ho => rfl); (case hg => rfl); (case hn => rfl); (case hr => first | (go_simp; done) | (go_simp; rfl)); intro w58 hw; have hg : w55.grownBy w58 (some go34) := (by rw [hw]; exact HP57.2); have hp_ : Kd.R (Kd.int .i64) 3 w58 w.heap.size (fun k_ => some k_ ≠ (v348 : Value).ownBlock ∧ some k_ ≠ (u344001 : Value).ownBlock ∧ some k_ ≠ (.slice Ao53 y358.length co53 : Value).ownBlock) (.slice (some ⟨go34, 0, none⟩) x6_2.length co56) y362 := (by rw [hw, Ny362.out]; exact HP57.1); clear HP57; have n0_ := Aside0.mk (hp_); have n1_ := Aside0.mk (Kd.R_after (v := (.slice (some ⟨go34, 0, none⟩) x6_2.length co56)) (v1 := (.slice (some ⟨go34, 0, none⟩) x6_2.length co56)) (ok := (fun k_ => some k_ ≠ (u344001 : Value).ownBlock ∧ some k_ ≠ (.slice Ao53 y358.length co53 : Value).ownBlock)) (by (with_reducible repeat (first | apply Kd.R_alloc | apply Kd.R_drewN | apply Kd.R_drew)); exact Kd.R_mono HO_7.out (fun _ hk => ⟨⟨hk.2.1, hk.2.2⟩, hk.1⟩)) hg (.inl rfl)); have n2_ := Aside0.mk (Kd.R_after (v := (.slice (some ⟨go34, 0, none⟩) x6_2.length co56)) (v1 := (.slice (some ⟨go34, 0, none⟩) x6_2.length co56)) (ok := (fun k_ => some k_ ≠ (v348 : Value).ownBlock ∧ some k_ ≠ (.slice Ao53 y358.length co53 : Value).ownBlock)) (by (with_reducible repeat (first | apply Kd.R_alloc | apply Kd.R_drewN | apply Kd.R_drew)); exact Kd.R_mono HO_344001.out (fun _ hk => ⟨⟨hk.2.1, hk.2.2⟩, hk.1⟩)) hg (.inl rfl)); have n3_ := Aside0.mk (blk_grown (g := gb341) (o := .cells #[.slice none 0 0, .slice none 0 0] 29 (0, 0)) (by (with_reducible repeat (first | refine blk_drewN ?_ _ | refine blk_drew ?_ | refine blk_alloc ?_ _)); exact BK341.out) hg (Kd.R_ne HO_6.out BK341.out (by decide))); have n4_ := Aside0.mk (blk_grown (g := gb343) (o := .cells #[.slice Ao53 y358.length co53, u344001] 29 (0, 0)) (by (with_reducible repeat (first | refine blk_drewN ?_ _ | refine blk_drew ?_ | refine blk_alloc ?_ _)); exact BK343.out) hg (Kd.R_ne HO_6.out BK343.out (by decide))); have n5_ := Aside0.mk (Kd.R_after (v := (.slice (some ⟨go34, 0, none⟩) x6_2.length co56)) (v1 := (.slice (some ⟨go34, 0, none⟩) x6_2.length co56)) (ok := (fun k_ => some k_ ≠ (v348 : Value).ownBlock ∧ some k_ ≠ (u344001 : Value).ownBlock)) (by (with_reducible repeat (first | apply Kd.R_alloc | apply Kd.R_drewN | apply Kd.R_drew)); exact Kd.R_mono HO360.out (fun _ hk => ⟨⟨hk.2.1, hk.2.2⟩, hk.1⟩)) hg (.inl rfl)); have n6_ := Aside0.mk ((by rw [hw]; exact below_set (HB.out) GB34.out : Below w.heap.size w w58)); clear HO_6; clear HO_7; clear HO_344001; clear BK341; clear BK343; clear HO360; clear HB; have HO_6 := n0_; have HO_7 := n1_; have HO_344001 := n2_; have BK341 := n3_; have BK343 := n4_; have HO360 := n5_; have HB := n6_; clear n0_ n1_ n2_ n3_ n4_ n5_ n6_; clear hg hw hp_; have p363 : 0 ≤ (x9_24 : Int) := of_decide_eq_true (by first | (with_reducible assumption) | assumption); have q363 : x9_24 < (y362.length : Int) := (by have h_ : (x9_24 : Int) < ((x6_2.length : Int) : Int) := of_decide_eq_true (by first | (with_reducible assumption) | assumption); first | (have e_ := (Kd.R_reads' HO_6.out).1; omega) | simpa only [Ny362.out, List.length_set] using h_); have ql363 : ((x9_24 : Int) < ((x6_2.length : Int) : Int)) = True := eq_true (of_decide_eq_true (by first | (with_reducible assumption) | assumption)); obtain ⟨ad363, e363, hx363_0⟩ := Kd.at_int (Kd.R_reads' HO_6.out).2.2 x9_24 p363 q363; obtain rfl : (⟨go34, 0, none⟩ : Addr) = ad363 := (by injection e363); (first | simp only [add_plain] at hx363_0 | simp only [add_at] at hx363_0 | simp only [Addr.add, Nat.zero_add] at hx363_0 | skip); replace p363 := eq_true p363; replace q363 := eq_true q363))
               go_roundg kj24
               case measure => have := HK1.out; have := HK2.out; have := HJ24.out; omega
               case rel => exact ⟨(y362), (x7_2), (x9_24), (wrap64 (x10_2 + 1)), (y358), (x344001_2), (.slice Ao53 y358.length co53), (u344001), (by first | rfl | (simp; done) | (simp [*]; done)), (by first | rfl | (simp; done) | (simp [*]; done)), H', ⟨by have := HK1.out; have := HK2.out; have := HJ24.out; omega⟩, ⟨by (with_reducible repeat (first | apply Kd.R_alloc | apply Kd.R_drewN | apply Kd.R_drew)); exact Kd.R_mono HO_6.out (fun _ hk => ⟨hk.1, ⟨hk.2.2, hk.2.1⟩⟩)⟩, ⟨by (with_reducible repeat (first | apply Kd.R_alloc | apply Kd.R_drewN | apply Kd.R_drew)); exact Kd.R_mono HO_7.out (fun _ hk => ⟨hk.2, ⟨hk.1.2, hk.1.1⟩⟩)⟩, ⟨by (with_reducible repeat (first | apply Kd.R_alloc | apply Kd.R_drewN | apply Kd.R_drew)); exact Kd.R_mono HO360.out (fun _ hk => ⟨hk.2, ⟨hk.1.1, hk.1.2⟩⟩)⟩, ⟨by (with_reducible repeat (first | apply Kd.R_alloc | apply Kd.R_drewN | apply Kd.R_drew)); exact Kd.R_mono HO_344001.out (fun _ hk => ⟨hk.2, ⟨hk.1.1, hk.1.2⟩⟩)⟩, ⟨by (with_reducible repeat (first | refine blk_drewN ?_ _ | refine blk_drew ?_ | refine blk_alloc ?_ _)); exact BK341.out⟩, ⟨by (with_reducible repeat (first | refine blk_drewN ?_ _ | refine blk_drew ?_ | refine blk_alloc ?_ _)); exact BK343.out⟩, ⟨by repeat (first | (with_reducible first | exact HB.out | apply below_alloc | apply pw_below_drewN | apply below_drew1 | refine below_set ?_ GE341.out | refine below_set ?_ GE343.out) | exact HB.out)⟩⟩
             ·rw [if_neg c33] at H
              exact absurd H (by simp)
            ·rw [if_neg c32] at H
             exact absurd H (by simp)
           ·rw [if_neg c31] at H
            have c31b0 : decide (0 ≤ x9_24) = false := decide_eq_false c31
            clear c31
            have H' := Aside0.mk H
            clear H
            have hnb59 := NB343_341.out
            have hnc59 := NB341_343.out
            have hcz60_0 : wc.cell? ⟨gb343, 0, none⟩ = some (u344000) := (blk_cell BK343.out 0).trans rfl
            have hcz60_1 : wc.cell? ⟨gb343, 1, none⟩ = some (u344001) := (blk_cell BK343.out 1).trans rfl
            have hfz60_0 := blk_frozen BK343.out 0
            have hfz60_1 := blk_frozen BK343.out 1
            go_wp2_with (first | ((with_reducible refine gate_builtin (b := .append) (xs := #[.tmp 51, .tmp 53]) rfl ?_); at_builtin; refine Kd.R_append (Kd.int .i64) (w0 := w) w.heap.size rfl (.tmp 51) (.tmp 53) 27 3 (.int .i64 0) 8 rfl Try.underlying27 info3 rfl (by decide) (by omega) u344000 x344000_2 x9_24 [.int .i64 x9_24] (fun k_ => some k_ ≠ (u6 : Value).ownBlock ∧ some k_ ≠ (v348 : Value).ownBlock ∧ some k_ ≠ (u344001 : Value).ownBlock) (fun _ => False) rfl rfl ?aP (fun _ hk => hk.elim) ?aF ?aO ?aB ?aS ?aL ?_; (case aP => exact rfl); (case aB => exact (by repeat (first | (with_reducible first | exact HB.out | apply below_alloc | apply pw_below_drewN | apply below_drew1 | refine below_set ?_ GE341.out | refine below_set ?_ GE343.out) | exact HB.out))); (case aF => exact (fun k_ hk => ⟨Kd.fresh' (Kd.R_lt (by (with_reducible repeat (first | apply Kd.R_alloc | apply Kd.R_drewN | apply Kd.R_drew)); exact HO_6.out)) k_ hk, Kd.fresh' (Kd.R_lt (by (with_reducible repeat (first | apply Kd.R_alloc | apply Kd.R_drewN | apply Kd.R_drew)); exact HO_7.out)) k_ hk, Kd.fresh' (Kd.R_lt (by (with_reducible repeat (first | apply Kd.R_alloc | apply Kd.R_drewN | apply Kd.R_drew)); exact HO_344001.out)) k_ hk⟩)); (case aO => exact (by (with_reducible repeat (first | apply Kd.R_alloc | apply Kd.R_drewN | apply Kd.R_drew)); exact HO_344000.out)); (case aS => exact (below_size (by repeat (first | (with_reducible first | exact HB.out | apply below_alloc | apply pw_below_drewN | apply below_drew1 | refine below_set ?_ GE341.out | refine below_set ?_ GE343.out) | exact HB.out)))); (case aL => have := LMc30.out; omega); intro v359 w61 ho hb hg hat; rw [← Ny358.out] at ho; have n0_ := Aside0.mk (Kd.R_after (ok := (fun k_ => some k_ ≠ (v348 : Value).ownBlock ∧ some k_ ≠ (u344001 : Value).ownBlock)) (by (with_reducible repeat (first | apply Kd.R_alloc | apply Kd.R_drewN | apply Kd.R_drew)); exact Kd.R_mono HO_6.out (fun _ hk => ⟨⟨hk.1, hk.2.2⟩, hk.2.1⟩)) hg hat); have n1_ := Aside0.mk (Kd.R_after (ok := (fun k_ => some k_ ≠ (u6 : Value).ownBlock ∧ some k_ ≠ (u344001 : Value).ownBlock)) (by (with_reducible repeat (first | apply Kd.R_alloc | apply Kd.R_drewN | apply Kd.R_drew)); exact Kd.R_mono HO_7.out (fun _ hk => ⟨⟨hk.1, hk.2.2⟩, hk.2.1⟩)) hg hat); have n2_ := Aside0.mk (Kd.R_after (ok := (fun k_ => some k_ ≠ (u6 : Value).ownBlock ∧ some k_ ≠ (v348 : Value).ownBlock)) (by (with_reducible repeat (first | apply Kd.R_alloc | apply Kd.R_drewN | apply Kd.R_drew)); exact Kd.R_mono HO_344001.out (fun _ hk => ⟨⟨hk.1, hk.2.1⟩, hk.2.2⟩)) hg hat); have n3_ := Aside0.mk (blk_grown (g := gb341) (o := .cells #[.slice none 0 0, .slice none 0 0] 29 (0, 0)) (by (with_reducible repeat (first | refine blk_drewN ?_ _ | refine blk_drew ?_ | refine blk_alloc ?_ _)); exact BK341.out) hg (Kd.R_ne HO_344000.out BK341.out (by decide))); have n4_ := Aside0.mk (blk_grown (g := gb343) (o := .cells #[u344000, u344001] 29 (0, 0)) (by (with_reducible repeat (first | refine blk_drewN ?_ _ | refine blk_drew ?_ | refine blk_alloc ?_ _)); exact BK343.out) hg (Kd.R_ne HO_344000.out BK343.out (by decide))); have n5_ := Aside0.mk (hb); have n6_ := Aside0.mk (ho); clear HO_6; clear HO_7; clear HO_344001; clear BK341; clear BK343; clear HB; clear HO_344000; have HO_6 := n0_; have HO_7 := n1_; have HO_344001 := n2_; have BK341 := n3_; have BK343 := n4_; have HB := n5_; have HO360 := n6_; clear n0_ n1_ n2_ n3_ n4_ n5_ n6_; clear ho hb hg hat; obtain ⟨Ao62, co62, eo62⟩ := Kd.R_slice HO360.out; subst eo62; have hcz63_0 : w61.cell? ⟨gb343, 0, none⟩ = some (u344000) := (blk_cell BK343.out 0).trans rfl; have hcz63_1 : w61.cell? ⟨gb343, 1, none⟩ = some (u344001) := (blk_cell BK343.out 1).trans rfl; have hfz63_0 := blk_frozen BK343.out 0; have hfz63_1 := blk_frozen BK343.out 1))
            go_roundg kj24
            case measure => have := HK1.out; have := HK2.out; have := HJ24.out; omega
            case rel => exact ⟨(x6_2), (x7_2), (x9_24), (wrap64 (x10_2 + 1)), (y358), (x344001_2), (.slice Ao62 y358.length co62), (u344001), (by first | rfl | (simp; done) | (simp [*]; done)), (by first | rfl | (simp; done) | (simp [*]; done)), H', ⟨by have := HK1.out; have := HK2.out; have := HJ24.out; omega⟩, ⟨by (with_reducible repeat (first | apply Kd.R_alloc | apply Kd.R_drewN | apply Kd.R_drew)); exact Kd.R_mono (Kd.R_far (p := ⟨gb343, 0, none⟩) (Kd.R_types HO_6.out BK343.out (by decide)) (fun _ hk => hk.2) (.slice Ao62 y358.length co62)) (fun _ hk => ⟨hk.1.1.1, ⟨hk.1.2, hk.1.1.2⟩⟩)⟩, ⟨by (with_reducible repeat (first | apply Kd.R_alloc | apply Kd.R_drewN | apply Kd.R_drew)); exact Kd.R_mono (Kd.R_far (p := ⟨gb343, 0, none⟩) (Kd.R_types HO_7.out BK343.out (by decide)) (fun _ hk => hk.2) (.slice Ao62 y358.length co62)) (fun _ hk => ⟨hk.1.1.1, ⟨hk.1.2, hk.1.1.2⟩⟩)⟩, ⟨by (with_reducible repeat (first | apply Kd.R_alloc | apply Kd.R_drewN | apply Kd.R_drew)); exact Kd.R_mono (Kd.R_far (p := ⟨gb343, 0, none⟩) (Kd.R_types HO360.out BK343.out (by decide)) (fun _ hk => hk.2) (.slice Ao62 y358.length co62)) (fun _ hk => ⟨hk.1.1, ⟨hk.1.2.1, hk.1.2.2⟩⟩)⟩, ⟨by (with_reducible repeat (first | apply Kd.R_alloc | apply Kd.R_drewN | apply Kd.R_drew)); exact Kd.R_mono (Kd.R_far (p := ⟨gb343, 0, none⟩) (Kd.R_types HO_344001.out BK343.out (by decide)) (fun _ hk => hk.2) (.slice Ao62 y358.length co62)) (fun _ hk => ⟨hk.1.1.1, ⟨hk.1.1.2, hk.1.2⟩⟩)⟩, ⟨by (with_reducible repeat (first | refine blk_drewN ?_ _ | refine blk_drew ?_ | refine blk_alloc ?_ _)); refine blk_far ?_ NB341_343.out _; (with_reducible repeat (first | refine blk_drewN ?_ _ | refine blk_drew ?_ | refine blk_alloc ?_ _)); exact BK341.out⟩, ⟨by (with_reducible repeat (first | refine blk_drewN ?_ _ | refine blk_drew ?_ | refine blk_alloc ?_ _)); refine blk_put (cs := #[u344000, u344001]) ?_ 0 _ rfl; (with_reducible repeat (first | refine blk_drewN ?_ _ | refine blk_drew ?_ | refine blk_alloc ?_ _)); exact BK343.out⟩, ⟨by repeat (first | (with_reducible first | exact HB.out | apply below_alloc | apply pw_below_drewN | apply below_drew1 | refine below_set ?_ GE341.out | refine below_set ?_ GE343.out) | exact HB.out)⟩⟩
          ·rw [if_neg c30] at H
           exact absurd H (by simp)
       ·rw [if_neg c24] at H
        have c24b0 : decide (x10_2 < 120) = false := decide_eq_false c24
        clear c24
        simp only [Option.some.injEq, Prod.mk.injEq] at H
        obtain ⟨rfl, rfl⟩ := H
        have hnb64 := NB343_341.out
        have hnc64 := NB341_343.out
        have hcz65_0 : wr.cell? ⟨gb343, 0, none⟩ = some (u344000) := (blk_cell BK343.out 0).trans rfl
        have hcz65_1 : wr.cell? ⟨gb343, 1, none⟩ = some (u344001) := (blk_cell BK343.out 1).trans rfl
        have hfz65_0 := blk_frozen BK343.out 0
        have hfz65_1 := blk_frozen BK343.out 1
        obtain ⟨Ao66, co66, eo66⟩ := Kd.R_slice HO_344000.out
        subst eo66
        have hcz67_0 : wr.cell? ⟨gb341, 0, none⟩ = some (.slice none 0 0) := (blk_cell BK341.out 0).trans rfl
        have hcz67_1 : wr.cell? ⟨gb341, 1, none⟩ = some (.slice none 0 0) := (blk_cell BK341.out 1).trans rfl
        have hfz67_0 := blk_frozen BK341.out 0
        have hfz67_1 := blk_frozen BK341.out 1
        obtain ⟨Ao68, co68, eo68⟩ := Kd.R_slice HO_344001.out
        subst eo68
        go_wp2
        refine bodyPost_ret (results_cell_row rfl _ _ gb341 29 #[.slice Ao66 x344000_2.length co66, .slice Ao68 x344001_2.length co68] (0, 0) _ rfl (by (with_reducible repeat (first | refine blk_drewN ?_ _ | refine blk_drew ?_ | refine blk_alloc ?_ _)); refine blk_put (cs := #[.slice Ao66 x344000_2.length co66, .slice none 0 0]) ?_ 1 _ rfl; (with_reducible repeat (first | refine blk_drewN ?_ _ | refine blk_drew ?_ | refine blk_alloc ?_ _)); refine blk_put (cs := #[.slice none 0 0, .slice none 0 0]) ?_ 0 _ rfl; (with_reducible repeat (first | refine blk_drewN ?_ _ | refine blk_drew ?_ | refine blk_alloc ?_ _)); exact BK341.out) Try.underlying29 rfl (by kernel_rfl)) rfl ?_
        exact ⟨_, _, by first | rfl | (simp [errW_none, errW_some] <;> rfl) | (simp [*, errW_none, errW_some] <;> rfl), by (with_reducible repeat (first | apply Kd.R_alloc | apply Kd.R_drewN | apply Kd.R_drew)); exact Kd.R_mono (Kd.R_far (p := ⟨gb341, 1, none⟩) (Kd.R_far (p := ⟨gb341, 0, none⟩) (Kd.R_types HO_344000.out BK341.out (by decide)) (fun _ hk => hk.2) (.slice Ao66 x344000_2.length co66)) (fun _ hk => hk.2) (.slice Ao68 x344001_2.length co68)) (fun _ hk => hk.1.2.2), by (with_reducible repeat (first | apply Kd.R_alloc | apply Kd.R_drewN | apply Kd.R_drew)); exact Kd.R_mono (Kd.R_far (p := ⟨gb341, 1, none⟩) (Kd.R_far (p := ⟨gb341, 0, none⟩) (Kd.R_types HO_344001.out BK341.out (by decide)) (fun _ hk => hk.2) (.slice Ao66 x344000_2.length co66)) (fun _ hk => hk.2) (.slice Ao68 x344001_2.length co68)) (fun _ hk => hk.1.2.2), by repeat (first | (with_reducible first | exact HB.out | apply below_alloc | apply pw_below_drewN | apply below_drew1 | refine below_set ?_ GE341.out | refine below_set ?_ GE343.out) | exact HB.out)⟩
 ·replace c4 := Bool.eq_false_iff.mpr c4
  subst c4
  have H1 : (some (([] : List Int), ([] : List Int))) = some (r1, r2) := by rw [if_neg (show ¬ (false = true) by decide)] at H; exact H
  clear H
  have H := H1
  clear H1
  simp only [Option.some.injEq, Prod.mk.injEq] at H
  obtain ⟨rfl, rfl⟩ := H
  go_enter Try.func14, Try.ntmps14
  go_wp2_with (first | ((with_reducible refine gate_dst (N := 4) rfl ?_); refine box_event ?hg (N := 4) ?hd (cs := #[.slice none 0 0, .slice none 0 0]) (t := 29) ?hr ?_; (case hd => rfl); (case hg => rfl); (case hr => first | (go_simp; done) | (go_simp; rfl)); intro gb341 hg w69 hbox hb; have n0_ := Aside0.mk (below_step (by repeat (first | (with_reducible first | exact HB.out | apply below_alloc | apply pw_below_drewN | apply below_drew1) | exact HB.out)) hb); have n1_ := Aside0.mk (hbox); have n2_ := Aside0.mk ((by rw [hg]; exact (below_size (by repeat (first | (with_reducible first | exact HB.out | apply below_alloc | apply pw_below_drewN | apply below_drew1) | exact HB.out))) : w.heap.size ≤ gb341)); have n3_ := Aside0.mk ((by rw [hg]; exact (below_size (by repeat (first | (with_reducible first | exact HB.out | apply below_alloc | apply pw_below_drewN | apply below_drew1) | exact HB.out))) : w.heap.size ≤ gb341)); clear HB; have HB := n0_; have BK341 := n1_; have GW341 := n2_; have GE341 := n3_; clear n0_ n1_ n2_ n3_; clear hb hbox hg) | ((with_reducible refine gate_callee (f := 56) rfl ?_); refine goesL_ (some 13) rfl rfl Try.func56 (by kernel_rfl) rfl #[.slice A0 l0.length c0, .slice A1 l1.length c1] rfl (by (try simp only [List.map_toArray, List.map_cons, List.map_nil]); first | done | rfl | (simp only [List.length_drop, List.length_take]; rfl)) ?_; (with_reducible refine (spec_JobsLegal.calls k _ _ l0 _ _ l1 false _ ?side1 ?side2 ?side3 ?side4 A3.out).mono ?_); (case side1 => repeat (first | exact (Kd.C_below HR0.out HB.out) | (with_reducible refine Kd.C_alloc ?_ _) | (with_reducible refine Kd.C_drewN ?_ _) | (with_reducible refine Kd.C_drew ?_))); (case side2 => exact HC0.out); (case side3 => repeat (first | exact (Kd.C_below HR1.out HB.out) | (with_reducible refine Kd.C_alloc ?_ _) | (with_reducible refine Kd.C_drewN ?_ _) | (with_reducible refine Kd.C_drew ?_))); (case side4 => exact HC1.out); rintro e w70 ⟨rfl, hb⟩; refine ⟨_, rfl, ?_⟩; have n0_ := Aside0.mk (blk_below (g := gb341) (o := .cells #[.slice none 0 0, .slice none 0 0] 29 (0, 0)) (by (with_reducible repeat (first | refine blk_drewN ?_ _ | refine blk_drew ?_ | refine blk_alloc ?_ _)); exact BK341.out) hb); have n1_ := Aside0.mk (below_step (by repeat (first | (with_reducible first | exact HB.out | apply below_alloc | apply pw_below_drewN | apply below_drew1 | refine below_set ?_ GE341.out) | exact HB.out)) hb); clear BK341; clear HB; have BK341 := n0_; have HB := n1_; clear n0_ n1_; (try clear hb); (try clear hb2); (try clear hk); (try clear hi); have hcz71_0 : w70.cell? ⟨gb341, 0, none⟩ = some (.slice none 0 0) := (blk_cell BK341.out 0).trans rfl; have hcz71_1 : w70.cell? ⟨gb341, 1, none⟩ = some (.slice none 0 0) := (blk_cell BK341.out 1).trans rfl; have hfz71_0 := blk_frozen BK341.out 0; have hfz71_1 := blk_frozen BK341.out 1))
  refine bodyPost_ret (results_cell_row rfl _ _ gb341 29 #[.slice none 0 0, .slice none 0 0] (0, 0) _ rfl (by (with_reducible repeat (first | refine blk_drewN ?_ _ | refine blk_drew ?_ | refine blk_alloc ?_ _)); refine blk_put (cs := #[.slice none 0 0, .slice none 0 0]) ?_ 1 _ rfl; (with_reducible repeat (first | refine blk_drewN ?_ _ | refine blk_drew ?_ | refine blk_alloc ?_ _)); refine blk_put (cs := #[.slice none 0 0, .slice none 0 0]) ?_ 0 _ rfl; (with_reducible repeat (first | refine blk_drewN ?_ _ | refine blk_drew ?_ | refine blk_alloc ?_ _)); exact BK341.out) Try.underlying29 rfl (by kernel_rfl)) rfl ?_
  exact ⟨_, _, by first | rfl | (simp [errW_none, errW_some] <;> rfl) | (simp [*, errW_none, errW_some] <;> rfl), by first | exact Kd.R_nil _ _ _ _ _ | exact Kd.N_nil _ _ _ _ _ | exact Kd.V_nil _ _ _ _ _ | exact Kd.Q_nil _ _ _ _ _ | exact Kd.S_nil _ _ _ _ _, by first | exact Kd.R_nil _ _ _ _ _ | exact Kd.N_nil _ _ _ _ _ | exact Kd.V_nil _ _ _ _ _ | exact Kd.Q_nil _ _ _ _ _ | exact Kd.S_nil _ _ _ _ _, by repeat (first | (with_reducible first | exact HB.out | apply below_alloc | apply pw_below_drewN | apply below_drew1 | refine below_set ?_ GE341.out) | exact HB.out)⟩

end Go.Proofs.Ytkdfjomhichkoaa.P
-- Laid by a program of this work.
namespace Go.Proofs.Ytkdfjomhichkoaa.P
open Go.RowKit Go.Proofs.YtkdfjomhichkoaaW.PrintWords Go.Proofs.YtkdfjomhichkoaaW.PrintLast Go.Proofs.YtkdfjomhichkoaaW.PrintMore
attribute [local go_sem] max2_int min2_int max_two min_two max_three min_three max_four min_four   -- for this text's walks alone
set_option linter.unusedVariables false
set_option linter.unusedSimpArgs false

/-! ### laws_alive: function 15 -/
def laws_alive.f  : Option (Bool) := (impl_TaskValid.f 1 1 1).bind fun t365 => (some t365)
set_option maxHeartbeats 8000000 in
set_option maxRecDepth 100000 in
theorem laws_alive.calls  (r : Bool) (w : World) (h : laws_alive.f  = some r) :
  Calls Try.prog 15 #[] w fun e w' => e = .returned (.bool r) ∧ Below w.heap.size w w' := by
 have hu88 := Try.underlying88
 have HB := Aside0.mk (Below.refl w.heap.size w)
 have H : ((impl_TaskValid.f 1 1 1).bind fun t365 => (some t365)) = some r := h
 clear h
 replace H := Option.bind_eq_some_iff.mp H
 obtain ⟨t365, A10, H⟩ := H
 replace H : (some t365) = some r := H
 have A1 := Aside0.mk A10
 clear A10
 obtain rfl := Option.some.inj H
 go_enter Try.func15, Try.ntmps15
 go_wp2_with (first | ((with_reducible refine gate_callee (f := 59) rfl ?_); refine goesL_ (some 2) rfl rfl Try.func59 (by kernel_rfl) rfl #[.agg #[.int .i64 1, .int .i64 1, .int .i64 1]] rfl (by (try simp only [List.map_toArray, List.map_cons, List.map_nil]); first | done | rfl | (simp only [List.length_drop, List.length_take]; rfl)) ?_; (with_reducible refine (impl_TaskValid.calls 1 1 1 t365 _ A1.out).mono ?_); rintro e w2 ⟨rfl, hb⟩; refine ⟨_, rfl, ?_⟩; have n0_ := Aside0.mk (below_step (by repeat (first | (with_reducible first | exact HB.out | apply below_alloc | apply pw_below_drewN | apply below_drew1) | exact HB.out)) hb); clear HB; have HB := n0_; clear n0_; (try clear hb); (try clear hb2); (try clear hk); (try clear hi)))
 go_ret
 exact ⟨by first | rfl | (simp [errW_none, errW_some] <;> rfl) | (simp [*, errW_none, errW_some] <;> rfl), by repeat (first | (with_reducible first | exact HB.out | apply below_alloc | apply pw_below_drewN | apply below_drew1) | exact HB.out)⟩

end Go.Proofs.Ytkdfjomhichkoaa.P
-- Laid by a program of this work.
namespace Go.Proofs.Ytkdfjomhichkoaa.P
open Go.RowKit Go.Proofs.YtkdfjomhichkoaaW.PrintWords Go.Proofs.YtkdfjomhichkoaaW.PrintLast Go.Proofs.YtkdfjomhichkoaaW.PrintMore
attribute [local go_sem] max2_int min2_int max_two min_two max_three min_three max_four min_four   -- for this text's walks alone
set_option linter.unusedVariables false
set_option linter.unusedSimpArgs false

/-! ### impl_RunEdf: function 16: by hand -/
def impl_RunEdf.f (l0 : List S88) (l1 : List S34) : Option (List Int × List Int) := (impl_JobsLegal.f l0 l1).bind fun t => (if t = true then (if l1.length ≤ 1000 then (some (simR (edfD l1) l1)) else (none)) else (some ([], [])))
set_option maxHeartbeats 8000000 in
set_option maxRecDepth 100000 in
theorem impl_RunEdf.calls (A0 : Option Addr) (c0 : Nat) (l0 : List S88) (A1 : Option Addr) (c1 : Nat) (l1 : List S34) (r1 : List Int) (r2 : List Int) (w : World) (hr0 : Kd.C k88 w A0 l0.length l0) (hc0 : l0.length ≤ c0) (hr1 : Kd.C k34 w A1 l1.length l1) (hc1 : l1.length ≤ c1) (h : impl_RunEdf.f l0 l1 = some (r1, r2)) :
    Calls Try.prog 16 #[.slice A0 l0.length c0, .slice A1 l1.length c1] w fun e w' => ∃ v0_ v1_ : Value, e = .returned (.agg #[v0_, v1_]) ∧ Kd.R (Kd.int .i64) 3 w' w.heap.size (fun k_ => some k_ ≠ (v1_ : Value).ownBlock) v0_ r1 ∧ Kd.R (Kd.int .i64) 3 w' w.heap.size (fun k_ => some k_ ≠ (v0_ : Value).ownBlock) v1_ r2 ∧ Below w.heap.size w w' := by
  unfold impl_RunEdf.f at h
  have HR0 := Aside0.mk hr0
  have HC0 := Aside0.mk hc0
  have HR1 := Aside0.mk hr1
  have HC1 := Aside0.mk hc1
  clear hr0 hc0 hr1 hc1
  cases hs : impl_JobsLegal.f l0 l1 with
  | none => rw [hs] at h; simp at h
  | some t =>
    rw [hs] at h
    have HS := Aside0.mk hs
    clear hs
    have B0 := Aside0.mk (below_alloc (Below.refl w.heap.size w) (.cells #[.slice none 0 0, .slice none 0 0] 29))
    have K0 := Aside0.mk (blk_new w (.cells #[.slice none 0 0, .slice none 0 0] 29))
    cases t with
    | false =>
      simp at h
      obtain ⟨rfl, rfl⟩ := h
      go_enter Try.func16, Try.ntmps16
      go_wp2_with (go_at_call 48; refine (impl_JobsLegal.calls A0 c0 l0 A1 c1 l1 false _ (Kd.C_below HR0.out B0.out) HC0.out (Kd.C_below HR1.out B0.out) HC1.out HS.out).mono ?_; rintro e w1 ⟨rfl, hb⟩; have BK1 := blk_below K0.out hb; have r0 := (blk_cell BK1 0); have r1 := (blk_cell BK1 1); have f0 := blk_frozen BK1 0; have f1 := blk_frozen BK1 1; have BK := Aside0.mk BK1; have HB := Aside0.mk (below_step B0.out hb); clear hb BK1)
      refine bodyPost_ret (results_cell_row rfl _ _ w.heap.size 29 #[.slice none 0 0, .slice none 0 0] (0, 0) _ rfl (by first | exact BK.out | (refine blk_put (cs := #[.slice none 0 0, .slice none 0 0]) ?_ 1 _ rfl; refine blk_put (cs := #[.slice none 0 0, .slice none 0 0]) ?_ 0 _ rfl; exact BK.out)) Try.underlying29 rfl (by kernel_rfl)) rfl ?_
      exact ⟨_, _, rfl, Kd.R_nil _ _ _ _ _, Kd.R_nil _ _ _ _ _, by first | exact HB.out | exact (HB.out.setCell (Nat.le_refl _) _).setCell (Nat.le_refl _) _⟩
    | true =>
      simp only [Option.bind_some, if_true] at h
      by_cases hl : l1.length ≤ 1000
      · rw [if_pos hl] at h
        have h := Option.some.inj h
        have e1 := congrArg Prod.fst h
        have e2 := congrArg Prod.snd h
        simp only at e1 e2
        subst e1 e2
        clear h
        have S0 := Aside0.mk (show w.heap.size < (w.alloc (.cells #[.slice none 0 0, .slice none 0 0] 29)).heap.size by simp)
        have HSM := Aside0.mk (fun (W : World) (hb1 : Below (w.alloc (.cells #[.slice none 0 0, .slice none 0 0] 29)).heap.size (w.alloc (.cells #[.slice none 0 0, .slice none 0 0] 29)) W) => simulate_calls (edfD l1) 54 #[] #[] (enters_of Try.func54 (by kernel_rfl) rfl) A1 c1 l1 W (Kd.C_below (Kd.C_below HR1.out B0.out) hb1) hl (edfD_rng l1)
          (fun W2 g D cd dn t htl hb hM => edf_calls g A1 c1 l1 D cd dn (t : Int) W2 hM))
        go_enter Try.func16, Try.ntmps16
        go_wp2_with (first
          | (go_at_call 48; refine (impl_JobsLegal.calls A0 c0 l0 A1 c1 l1 true _ (Kd.C_below HR0.out B0.out) HC0.out (Kd.C_below HR1.out B0.out) HC1.out HS.out).mono ?_; rintro e w1 ⟨rfl, hb⟩; have HB := Aside0.mk hb; have BK1 := Aside0.mk (blk_below K0.out hb); clear hb)
          | (go_at_call 49; refine (HSM.out w1 HB.out).mono ?_; rintro e w2 ⟨v0, v1, rfl, hR0, hR1, hb⟩; obtain ⟨X0, y0, ev⟩ := Kd.R_slice hR0; subst ev; obtain ⟨X1, y1, ev⟩ := Kd.R_slice hR1; subst ev; have H0 := Aside0.mk hR0; have H1 := Aside0.mk hR1; have S1 := Aside0.mk (Nat.lt_of_lt_of_le S0.out HB.out.size); have HB2 := Aside0.mk (below_then B0.out B0.out.size (below_then HB.out HB.out.size hb)); have BK2 := blk_below BK1.out hb; have r0 := (blk_cell BK2 0); have r1 := (blk_cell BK2 1); have f0 := blk_frozen BK2 0; have f1 := blk_frozen BK2 1; have BK := Aside0.mk BK2; clear hR0 hR1 hb BK2))
        refine bodyPost_ret (results_cell_row rfl _ _ w.heap.size 29 #[.slice X0 (simR (edfD l1) l1).1.length y0, .slice X1 (simR (edfD l1) l1).2.length y1] (0, 0) _ rfl (by refine blk_put (cs := #[.slice X0 (simR (edfD l1) l1).1.length y0, .slice none 0 0]) ?_ 1 _ rfl; refine blk_put (cs := #[.slice none 0 0, .slice none 0 0]) ?_ 0 _ rfl; exact BK.out) Try.underlying29 rfl (by kernel_rfl)) rfl ?_
        exact ⟨_, _, rfl, Kd.R_lower (Kd.R_mono (R_cells2 S1.out H0.out _ _) (fun k hk => hk.2)) (Nat.le_of_lt S1.out), Kd.R_lower (Kd.R_mono (R_cells2 S1.out H1.out _ _) (fun k hk => hk.2)) (Nat.le_of_lt S1.out), (HB2.out.setCell (Nat.le_refl _) _).setCell (Nat.le_refl _) _⟩
      · rw [if_neg hl] at h
        cases h

end Go.Proofs.Ytkdfjomhichkoaa.P
-- Laid by a program of this work.
namespace Go.Proofs.Ytkdfjomhichkoaa.P
open Go.RowKit Go.Proofs.YtkdfjomhichkoaaW.PrintWords Go.Proofs.YtkdfjomhichkoaaW.PrintLast Go.Proofs.YtkdfjomhichkoaaW.PrintMore
attribute [local go_sem] max2_int min2_int max_two min_two max_three min_three max_four min_four   -- for this text's walks alone
set_option linter.unusedVariables false
set_option linter.unusedSimpArgs false

/-! ### laws_FnRunNonPreemptive: function 3 -/
mutual
def laws_FnRunNonPreemptive.l0 : Nat → List (S88) → List (S34) → Int → List Int → List Int → Option (Bool)
 | 0, _, _, _, _, _ => none
 | k + 1, x3, x4, x6, x379000, x379001 => if x6 < (x4.length : Int) then (laws_FnRunNonPreemptive.l1 k x3 x4 x6 1 x379000 x379001) else ((impl_RunEdf.f x3 x4).bind fun bt391 => (laws_FnRunNonPreemptive.l2 k 0 x379000 x379001 bt391.1 bt391.2))
def laws_FnRunNonPreemptive.l1 : Nat → List (S88) → List (S34) → Int → Int → List Int → List Int → Option (Bool)
 | 0, _, _, _, _, _, _ => none
 | k + 1, x3, x4, x6, x7, x379000, x379001 => if 0 ≤ x6 then (if x6 < (x379001.length : Int) then (if (rd x379001 x6) ≥ 0 then (if x6 < (x4.length : Int) then (laws_FnRunNonPreemptive.j2 k x3 x4 x6 x7 (decide (x7 ≤ ((rd_T34 x4 x6).f3))) x379000 x379001) else (none)) else (laws_FnRunNonPreemptive.j2 k x3 x4 x6 x7 false x379000 x379001)) else (none)) else (none)
def laws_FnRunNonPreemptive.j2 : Nat → List (S88) → List (S34) → Int → Int → Bool → List Int → List Int → Option (Bool)
 | 0, _, _, _, _, _, _, _ => none
 | k + 1, x3, x4, x6, x7, x62, x379000, x379001 => if x62 = true then (if 0 ≤ x6 then (if x6 < (x379001.length : Int) then (if 0 ≤ (wrap64 ((rd x379001 x6) - x7)) then (if (wrap64 ((rd x379001 x6) - x7)) < (x379000.length : Int) then (if (rd x379000 (wrap64 ((rd x379001 x6) - x7))) = x6 then (laws_FnRunNonPreemptive.l1 k x3 x4 x6 (wrap64 (x7 + 1)) x379000 x379001) else (some false)) else (none)) else (none)) else (none)) else (none)) else (laws_FnRunNonPreemptive.l0 k x3 x4 (wrap64 (x6 + 1)) x379000 x379001)
def laws_FnRunNonPreemptive.l2 : Nat → Int → List Int → List Int → List Int → List Int → Option (Bool)
 | 0, _, _, _, _, _ => none
 | k + 1, x9, x379000, x379001, x398000, x398001 => if x9 < 120 then (if 0 ≤ x9 then (if x9 < (x379000.length : Int) then (if x9 < (x398000.length : Int) then (if ((decide ((rd x379000 x9) < 0)) != (decide ((rd x398000 x9) < 0))) = true then (some false) else (laws_FnRunNonPreemptive.l2 k (wrap64 (x9 + 1)) x379000 x379001 x398000 x398001)) else (none)) else (none)) else (none)) else (some true)
end
def laws_FnRunNonPreemptive.f (k : Nat) (l0 : List Int) : Option (Bool) := if (l0.length : Int) > 1048576 then (some true) else ((spec_DrawRunNonPreemptive.f k l0).bind fun bt366 => ((impl_RunNonPreemptive.f bt366.1 bt366.2).bind fun bt372 => ((spec_RunNonPreemptive.f k bt366.1 bt366.2).bind fun bt379 => ((laws_sameSchedule.f k bt372.1 bt372.2 bt379.1 bt379.2).bind fun t385 => (if t385 = true then (if (bt372.1.length : Int) = 120 then (laws_FnRunNonPreemptive.l0 k bt366.1 bt366.2 0 bt372.1 bt372.2) else (if (wrap64 ((bt372.1.length : Int) + (bt372.2.length : Int))) = 0 then ((laws_alive.f).bind fun t386 => (some t386)) else (some false))) else (some false))))))
theorem laws_FnRunNonPreemptive.mono_l : ∀ k, (∀ y0 y1 y2 y3 y4, LeO (laws_FnRunNonPreemptive.l0 k y0 y1 y2 y3 y4) (laws_FnRunNonPreemptive.l0 (k + 1) y0 y1 y2 y3 y4)) ∧ (∀ y0 y1 y2 y3 y4 y5, LeO (laws_FnRunNonPreemptive.l1 k y0 y1 y2 y3 y4 y5) (laws_FnRunNonPreemptive.l1 (k + 1) y0 y1 y2 y3 y4 y5)) ∧ (∀ y0 y1 y2 y3 y4 y5 y6, LeO (laws_FnRunNonPreemptive.j2 k y0 y1 y2 y3 y4 y5 y6) (laws_FnRunNonPreemptive.j2 (k + 1) y0 y1 y2 y3 y4 y5 y6)) ∧ (∀ y0 y1 y2 y3 y4, LeO (laws_FnRunNonPreemptive.l2 k y0 y1 y2 y3 y4) (laws_FnRunNonPreemptive.l2 (k + 1) y0 y1 y2 y3 y4))
 | 0 => ⟨fun _ _ _ _ _ r h => by simp [laws_FnRunNonPreemptive.l0] at h, fun _ _ _ _ _ _ r h => by simp [laws_FnRunNonPreemptive.l1] at h, fun _ _ _ _ _ _ _ r h => by simp [laws_FnRunNonPreemptive.j2] at h, fun _ _ _ _ _ r h => by simp [laws_FnRunNonPreemptive.l2] at h⟩
 | k + 1 => by
  obtain ⟨ih0, ih1, ih2, ih3⟩ := laws_FnRunNonPreemptive.mono_l k
  refine ⟨?_, ?_, ?_, ?_⟩
  ·intro y0 y1 y2 y3 y4
   unfold laws_FnRunNonPreemptive.l0
   repeat' first
   | (with_reducible exact ih0 _ _ _ _ _)
   | (with_reducible exact ih1 _ _ _ _ _ _)
   | (with_reducible exact ih2 _ _ _ _ _ _ _)
   | (with_reducible exact ih3 _ _ _ _ _)
   | (with_reducible exact laws_sameSchedule.mono _ _ _ _ _)
   | (with_reducible exact spec_DrawRunNonPreemptive.mono _ _)
   | (with_reducible exact spec_RunNonPreemptive.mono _ _ _)
   | (with_reducible exact LeO.refl _)
   | (with_reducible exact LeO.none _)
   | (with_reducible refine LeO.ite ?_ ?_)
   | (with_reducible refine LeO.bind ?_ (fun _ => ?_))
   | exact ih0 _ _ _ _ _
   | exact ih1 _ _ _ _ _ _
   | exact ih2 _ _ _ _ _ _ _
   | exact ih3 _ _ _ _ _
   | exact laws_sameSchedule.mono _ _ _ _ _
   | exact spec_DrawRunNonPreemptive.mono _ _
   | exact spec_RunNonPreemptive.mono _ _ _
   | exact LeO.none _
   | refine LeO.ite ?_ ?_
   | refine LeO.bind ?_ (fun _ => ?_)
  ·intro y0 y1 y2 y3 y4 y5
   unfold laws_FnRunNonPreemptive.l1
   repeat' first
   | (with_reducible exact ih0 _ _ _ _ _)
   | (with_reducible exact ih1 _ _ _ _ _ _)
   | (with_reducible exact ih2 _ _ _ _ _ _ _)
   | (with_reducible exact ih3 _ _ _ _ _)
   | (with_reducible exact laws_sameSchedule.mono _ _ _ _ _)
   | (with_reducible exact spec_DrawRunNonPreemptive.mono _ _)
   | (with_reducible exact spec_RunNonPreemptive.mono _ _ _)
   | (with_reducible exact LeO.refl _)
   | (with_reducible exact LeO.none _)
   | (with_reducible refine LeO.ite ?_ ?_)
   | (with_reducible refine LeO.bind ?_ (fun _ => ?_))
   | exact ih0 _ _ _ _ _
   | exact ih1 _ _ _ _ _ _
   | exact ih2 _ _ _ _ _ _ _
   | exact ih3 _ _ _ _ _
   | exact laws_sameSchedule.mono _ _ _ _ _
   | exact spec_DrawRunNonPreemptive.mono _ _
   | exact spec_RunNonPreemptive.mono _ _ _
   | exact LeO.none _
   | refine LeO.ite ?_ ?_
   | refine LeO.bind ?_ (fun _ => ?_)
  ·intro y0 y1 y2 y3 y4 y5 y6
   unfold laws_FnRunNonPreemptive.j2
   repeat' first
   | (with_reducible exact ih0 _ _ _ _ _)
   | (with_reducible exact ih1 _ _ _ _ _ _)
   | (with_reducible exact ih2 _ _ _ _ _ _ _)
   | (with_reducible exact ih3 _ _ _ _ _)
   | (with_reducible exact laws_sameSchedule.mono _ _ _ _ _)
   | (with_reducible exact spec_DrawRunNonPreemptive.mono _ _)
   | (with_reducible exact spec_RunNonPreemptive.mono _ _ _)
   | (with_reducible exact LeO.refl _)
   | (with_reducible exact LeO.none _)
   | (with_reducible refine LeO.ite ?_ ?_)
   | (with_reducible refine LeO.bind ?_ (fun _ => ?_))
   | exact ih0 _ _ _ _ _
   | exact ih1 _ _ _ _ _ _
   | exact ih2 _ _ _ _ _ _ _
   | exact ih3 _ _ _ _ _
   | exact laws_sameSchedule.mono _ _ _ _ _
   | exact spec_DrawRunNonPreemptive.mono _ _
   | exact spec_RunNonPreemptive.mono _ _ _
   | exact LeO.none _
   | refine LeO.ite ?_ ?_
   | refine LeO.bind ?_ (fun _ => ?_)
  ·intro y0 y1 y2 y3 y4
   unfold laws_FnRunNonPreemptive.l2
   repeat' first
   | (with_reducible exact ih0 _ _ _ _ _)
   | (with_reducible exact ih1 _ _ _ _ _ _)
   | (with_reducible exact ih2 _ _ _ _ _ _ _)
   | (with_reducible exact ih3 _ _ _ _ _)
   | (with_reducible exact laws_sameSchedule.mono _ _ _ _ _)
   | (with_reducible exact spec_DrawRunNonPreemptive.mono _ _)
   | (with_reducible exact spec_RunNonPreemptive.mono _ _ _)
   | (with_reducible exact LeO.refl _)
   | (with_reducible exact LeO.none _)
   | (with_reducible refine LeO.ite ?_ ?_)
   | (with_reducible refine LeO.bind ?_ (fun _ => ?_))
   | exact ih0 _ _ _ _ _
   | exact ih1 _ _ _ _ _ _
   | exact ih2 _ _ _ _ _ _ _
   | exact ih3 _ _ _ _ _
   | exact laws_sameSchedule.mono _ _ _ _ _
   | exact spec_DrawRunNonPreemptive.mono _ _
   | exact spec_RunNonPreemptive.mono _ _ _
   | exact LeO.none _
   | refine LeO.ite ?_ ?_
   | refine LeO.bind ?_ (fun _ => ?_)
theorem laws_FnRunNonPreemptive.mono : ∀ a0 k, LeO (laws_FnRunNonPreemptive.f k a0) (laws_FnRunNonPreemptive.f (k + 1) a0) := by
 intro a0 k
 obtain ⟨ih0, ih1, ih2, ih3⟩ := laws_FnRunNonPreemptive.mono_l k
 unfold laws_FnRunNonPreemptive.f
 repeat' first
   | (with_reducible exact ih0 _ _ _ _ _)
   | (with_reducible exact ih1 _ _ _ _ _ _)
   | (with_reducible exact ih2 _ _ _ _ _ _ _)
   | (with_reducible exact ih3 _ _ _ _ _)
   | (with_reducible exact laws_sameSchedule.mono _ _ _ _ _)
   | (with_reducible exact spec_DrawRunNonPreemptive.mono _ _)
   | (with_reducible exact spec_RunNonPreemptive.mono _ _ _)
   | (with_reducible exact LeO.refl _)
   | (with_reducible exact LeO.none _)
   | (with_reducible refine LeO.ite ?_ ?_)
   | (with_reducible refine LeO.bind ?_ (fun _ => ?_))
   | exact ih0 _ _ _ _ _
   | exact ih1 _ _ _ _ _ _
   | exact ih2 _ _ _ _ _ _ _
   | exact ih3 _ _ _ _ _
   | exact laws_sameSchedule.mono _ _ _ _ _
   | exact spec_DrawRunNonPreemptive.mono _ _
   | exact spec_RunNonPreemptive.mono _ _ _
   | exact LeO.none _
   | refine LeO.ite ?_ ?_
   | refine LeO.bind ?_ (fun _ => ?_)
def laws_FnRunNonPreemptive.T15 : Bool × List (List Nat × List Nat) := (true, [([], []), ([0], [0]), ([], []), ([2], [2]), ([], []), ([3, 4], [3, 4]), ([5], [5]), ([], []), ([6, 7], [6, 7]), ([1, 8], [1, 8]), ([9], [9]), ([], []), ([10, 11], [10, 11])])
def laws_FnRunNonPreemptive.B15 : List Nat := [0, 1, 0, 4, 0, 28, 60, 0, 252, 511, 1023, 0, 4095]
theorem laws_FnRunNonPreemptive.tab15 : rtab .any (opsOf Try.f3 15) = laws_FnRunNonPreemptive.T15 := by kernel_rfl
theorem laws_FnRunNonPreemptive.bits15 : waitsOk laws_FnRunNonPreemptive.T15.2 laws_FnRunNonPreemptive.B15 = true := by kernel_rfl
def laws_FnRunNonPreemptive.T21 : Bool × List (List Nat × List Nat) := (true, [([], []), ([0], [0]), ([], []), ([1, 2], [1, 2]), ([3], [3]), ([4], [4]), ([], []), ([6], [6]), ([], []), ([7, 8], [7, 8]), ([9], [9]), ([10], [10]), ([5, 11], [5, 11])])
def laws_FnRunNonPreemptive.B21 : List Nat := [0, 1, 0, 7, 15, 31, 0, 64, 0, 448, 960, 1984, 4095]
theorem laws_FnRunNonPreemptive.tab21 : rtab .any (opsOf Try.f3 21) = laws_FnRunNonPreemptive.T21 := by kernel_rfl
theorem laws_FnRunNonPreemptive.bits21 : waitsOk laws_FnRunNonPreemptive.T21.2 laws_FnRunNonPreemptive.B21 = true := by kernel_rfl
set_option maxHeartbeats 8000000 in
set_option maxRecDepth 100000 in
theorem laws_FnRunNonPreemptive.calls (k : Nat) (A0 : Option Addr) (c0 : Nat) (l0 : List Int) (r : Bool) (w : World) (hr0 : Kd.C (Kd.int .u8) w A0 l0.length l0) (hc0 : l0.length ≤ c0) (h : laws_FnRunNonPreemptive.f k l0 = some r) (hrt : r = true) :
  Calls Try.prog 3 #[.slice A0 l0.length c0] w fun e w' => e = .returned (.bool r) ∧ Below w.heap.size w w' := by
 have HRT := Aside0.mk hrt
 clear hrt
 have hu29 := Try.underlying29
 have HR0 := Aside0.mk hr0
 have HC0 := Aside0.mk hc0
 clear hr0 hc0
 have HB := Aside0.mk (Below.refl w.heap.size w)
 have H : (if (l0.length : Int) > 1048576 then (some true) else ((spec_DrawRunNonPreemptive.f k l0).bind fun bt366 => ((impl_RunNonPreemptive.f bt366.1 bt366.2).bind fun bt372 => ((spec_RunNonPreemptive.f k bt366.1 bt366.2).bind fun bt379 => ((laws_sameSchedule.f k bt372.1 bt372.2 bt379.1 bt379.2).bind fun t385 => (if t385 = true then (if (bt372.1.length : Int) = 120 then (laws_FnRunNonPreemptive.l0 k bt366.1 bt366.2 0 bt372.1 bt372.2) else (if (wrap64 ((bt372.1.length : Int) + (bt372.2.length : Int))) = 0 then ((laws_alive.f).bind fun t386 => (some t386)) else (some false))) else (some false))))))) = some r := h
 clear h
 by_cases c2 : (l0.length : Int) > 1048576
 ·rw [if_pos c2] at H
  have c2b0 : decide (1048576 < (l0.length : Int)) = true := decide_eq_true c2
  have c2b1 : decide (1048576 < l0.length) = true := decide_eq_true (by omega)
  clear c2
  obtain rfl := Option.some.inj H
  go_enter Try.func3, Try.ntmps3
  go_wp2
  go_ret
  exact ⟨by first | rfl | (simp [errW_none, errW_some] <;> rfl) | (simp [*, errW_none, errW_some] <;> rfl), by repeat (first | (with_reducible first | exact HB.out | apply below_alloc | apply pw_below_drewN | apply below_drew1) | exact HB.out)⟩
 ·rw [if_neg c2] at H
  have c2b0 : decide (1048576 < (l0.length : Int)) = false := decide_eq_false c2
  have c2b1 : decide (1048576 < l0.length) = false := decide_eq_false (by omega)
  clear c2
  replace H := Option.bind_eq_some_iff.mp H
  obtain ⟨⟨t366, t367⟩, A30, H⟩ := H
  replace H : ((impl_RunNonPreemptive.f t366 t367).bind fun bt372 => ((spec_RunNonPreemptive.f k t366 t367).bind fun bt379 => ((laws_sameSchedule.f k bt372.1 bt372.2 bt379.1 bt379.2).bind fun t385 => (if t385 = true then (if (bt372.1.length : Int) = 120 then (laws_FnRunNonPreemptive.l0 k t366 t367 0 bt372.1 bt372.2) else (if (wrap64 ((bt372.1.length : Int) + (bt372.2.length : Int))) = 0 then ((laws_alive.f).bind fun t386 => (some t386)) else (some false))) else (some false))))) = some r := H
  have A3 := Aside0.mk A30
  clear A30
  replace H := Option.bind_eq_some_iff.mp H
  obtain ⟨⟨t372, t375⟩, A40, H⟩ := H
  replace H : ((spec_RunNonPreemptive.f k t366 t367).bind fun bt379 => ((laws_sameSchedule.f k t372 t375 bt379.1 bt379.2).bind fun t385 => (if t385 = true then (if (t372.length : Int) = 120 then (laws_FnRunNonPreemptive.l0 k t366 t367 0 t372 t375) else (if (wrap64 ((t372.length : Int) + (t375.length : Int))) = 0 then ((laws_alive.f).bind fun t386 => (some t386)) else (some false))) else (some false)))) = some r := H
  have A4 := Aside0.mk A40
  clear A40
  replace H := Option.bind_eq_some_iff.mp H
  obtain ⟨⟨t379, t382⟩, A50, H⟩ := H
  replace H : ((laws_sameSchedule.f k t372 t375 t379 t382).bind fun t385 => (if t385 = true then (if (t372.length : Int) = 120 then (laws_FnRunNonPreemptive.l0 k t366 t367 0 t372 t375) else (if (wrap64 ((t372.length : Int) + (t375.length : Int))) = 0 then ((laws_alive.f).bind fun t386 => (some t386)) else (some false))) else (some false))) = some r := H
  have A5 := Aside0.mk A50
  clear A50
  replace H := Option.bind_eq_some_iff.mp H
  obtain ⟨t385, A60, H⟩ := H
  replace H : (if t385 = true then (if (t372.length : Int) = 120 then (laws_FnRunNonPreemptive.l0 k t366 t367 0 t372 t375) else (if (wrap64 ((t372.length : Int) + (t375.length : Int))) = 0 then ((laws_alive.f).bind fun t386 => (some t386)) else (some false))) else (some false)) = some r := H
  have A6 := Aside0.mk A60
  clear A60
  by_cases c7 : t385 = true
  ·subst c7
   have H1 : (if (t372.length : Int) = 120 then (laws_FnRunNonPreemptive.l0 k t366 t367 0 t372 t375) else (if (wrap64 ((t372.length : Int) + (t375.length : Int))) = 0 then ((laws_alive.f).bind fun t386 => (some t386)) else (some false))) = some r := by rw [if_pos rfl] at H; exact H
   clear H
   have H := H1
   clear H1
   by_cases c8 : (t372.length : Int) = 120
   ·rw [if_pos c8] at H
    have c8b0 : ((t372.length : Int) == 120) = true := beq_iff_eq.mpr c8
    have c8b1 : ((t372.length : Int) != 120) = false := bne_eq_false_iff_eq.mpr c8
    clear c8
    have H' := Aside0.mk H
    clear H
    go_enter Try.func3, Try.ntmps3
    try go_wp2_with (first | ((with_reducible refine gate_callee (f := 11) rfl ?_); refine goesL_ (some 15) rfl rfl Try.func11 (by kernel_rfl) rfl #[.slice A0 l0.length c0] rfl (by (try simp only [List.map_toArray, List.map_cons, List.map_nil]); first | done | rfl | (simp only [List.length_drop, List.length_take]; rfl)) ?_; (with_reducible refine (spec_DrawRunNonPreemptive.calls k _ _ l0 t366 t367 _ ?side1 ?side2 A3.out).mono ?_); (case side1 => repeat (first | exact HR0.out | (with_reducible refine Kd.C_alloc ?_ _) | (with_reducible refine Kd.C_drewN ?_ _) | (with_reducible refine Kd.C_drew ?_))); (case side2 => exact HC0.out); rintro e w9 ⟨v368, v370, rfl, ho0, ho1, hb⟩; refine ⟨_, rfl, ?_⟩; have n0_ := Aside0.mk (Kd.R_lower ho0 (below_size (by repeat (first | (with_reducible first | exact HB.out | apply below_alloc | apply pw_below_drewN | apply below_drew1) | exact HB.out)))); have n1_ := Aside0.mk (Kd.R_lower ho1 (below_size (by repeat (first | (with_reducible first | exact HB.out | apply below_alloc | apply pw_below_drewN | apply below_drew1) | exact HB.out)))); have n2_ := Aside0.mk (below_step (by repeat (first | (with_reducible first | exact HB.out | apply below_alloc | apply pw_below_drewN | apply below_drew1) | exact HB.out)) hb); clear HB; have HO369 := n0_; have HO371 := n1_; have HB := n2_; clear n0_ n1_ n2_; (try clear hb); (try clear hb2); (try clear hk); (try clear hi); (try clear ho0); (try clear ho1); obtain ⟨Ao10, co10, eo10⟩ := Kd.R_slice HO369.out; subst eo10; obtain ⟨Ao11, co11, eo11⟩ := Kd.R_slice HO371.out; subst eo11) | ((with_reducible refine gate_callee (f := 12) rfl ?_); refine goesL_ (some 20) rfl rfl Try.func12 (by kernel_rfl) rfl #[.slice Ao10 t366.length co10, .slice Ao11 t367.length co11] rfl (by (try simp only [List.map_toArray, List.map_cons, List.map_nil]); first | done | rfl | (simp only [List.length_drop, List.length_take]; rfl)) ?_; (with_reducible refine (impl_RunNonPreemptive.calls _ _ t366 _ _ t367 t372 t375 _ ?side1 ?side2 ?side3 ?side4 A4.out).mono ?_); (case side1 => repeat (first | exact (Kd.R_reads' HO369.out).2.2 | (with_reducible refine Kd.C_alloc ?_ _) | (with_reducible refine Kd.C_drewN ?_ _) | (with_reducible refine Kd.C_drew ?_))); (case side2 => exact (Kd.R_reads' HO369.out).2.1); (case side3 => repeat (first | exact (Kd.R_reads' HO371.out).2.2 | (with_reducible refine Kd.C_alloc ?_ _) | (with_reducible refine Kd.C_drewN ?_ _) | (with_reducible refine Kd.C_drew ?_))); (case side4 => exact (Kd.R_reads' HO371.out).2.1); rintro e w12 ⟨v373, v376, rfl, ho0, ho1, hb⟩; refine ⟨_, rfl, ?_⟩; have n0_ := Aside0.mk (Kd.R_below (by (with_reducible repeat (first | apply Kd.R_alloc | apply Kd.R_drewN | apply Kd.R_drew)); exact HO369.out) hb); have n1_ := Aside0.mk (Kd.R_below (by (with_reducible repeat (first | apply Kd.R_alloc | apply Kd.R_drewN | apply Kd.R_drew)); exact HO371.out) hb); have n2_ := Aside0.mk (Kd.R_lower ho0 (below_size (by repeat (first | (with_reducible first | exact HB.out | apply below_alloc | apply pw_below_drewN | apply below_drew1) | exact HB.out)))); have n3_ := Aside0.mk (Kd.R_lower ho1 (below_size (by repeat (first | (with_reducible first | exact HB.out | apply below_alloc | apply pw_below_drewN | apply below_drew1) | exact HB.out)))); have n4_ := Aside0.mk (below_step (by repeat (first | (with_reducible first | exact HB.out | apply below_alloc | apply pw_below_drewN | apply below_drew1) | exact HB.out)) hb); clear HO369; clear HO371; clear HB; have HO369 := n0_; have HO371 := n1_; have HO374 := n2_; have HO377 := n3_; have HB := n4_; clear n0_ n1_ n2_ n3_ n4_; (try clear hb); (try clear hb2); (try clear hk); (try clear hi); (try clear ho0); (try clear ho1)) | ((with_reducible refine gate_dst (N := 5) rfl ?_); refine box_event ?hg (N := 5) ?hd (cs := #[.slice none 0 0, .slice none 0 0]) (t := 29) ?hr ?_; (case hd => rfl); (case hg => rfl); (case hr => first | (go_simp; done) | (go_simp; rfl)); intro gb378 hg w13 hbox hb; have n0_ := Aside0.mk (Kd.R_below (by (with_reducible repeat (first | apply Kd.R_alloc | apply Kd.R_drewN | apply Kd.R_drew)); exact HO369.out) hb); have n1_ := Aside0.mk (Kd.R_below (by (with_reducible repeat (first | apply Kd.R_alloc | apply Kd.R_drewN | apply Kd.R_drew)); exact HO371.out) hb); have n2_ := Aside0.mk (Kd.R_below (by (with_reducible repeat (first | apply Kd.R_alloc | apply Kd.R_drewN | apply Kd.R_drew)); exact HO374.out) hb); have n3_ := Aside0.mk (Kd.R_below (by (with_reducible repeat (first | apply Kd.R_alloc | apply Kd.R_drewN | apply Kd.R_drew)); exact HO377.out) hb); have n4_ := Aside0.mk (below_step (by repeat (first | (with_reducible first | exact HB.out | apply below_alloc | apply pw_below_drewN | apply below_drew1) | exact HB.out)) hb); have n5_ := Aside0.mk (hbox); have n6_ := Aside0.mk ((by rw [hg]; exact (below_size (by repeat (first | (with_reducible first | exact HB.out | apply below_alloc | apply pw_below_drewN | apply below_drew1) | exact HB.out))) : w.heap.size ≤ gb378)); have n7_ := Aside0.mk ((by rw [hg]; exact (below_size (by repeat (first | (with_reducible first | exact HB.out | apply below_alloc | apply pw_below_drewN | apply below_drew1) | exact HB.out))) : w.heap.size ≤ gb378)); clear HO369; clear HO371; clear HO374; clear HO377; clear HB; have HO369 := n0_; have HO371 := n1_; have HO374 := n2_; have HO377 := n3_; have HB := n4_; have BK378 := n5_; have GW378 := n6_; have GE378 := n7_; clear n0_ n1_ n2_ n3_ n4_ n5_ n6_ n7_; clear hb hbox hg; obtain ⟨Ao14, co14, eo14⟩ := Kd.R_slice HO374.out; subst eo14; have hcz15_0 : w13.cell? ⟨gb378, 0, none⟩ = some (.slice none 0 0) := (blk_cell BK378.out 0).trans rfl; have hcz15_1 : w13.cell? ⟨gb378, 1, none⟩ = some (.slice none 0 0) := (blk_cell BK378.out 1).trans rfl; have hfz15_0 := blk_frozen BK378.out 0; have hfz15_1 := blk_frozen BK378.out 1; obtain ⟨Ao16, co16, eo16⟩ := Kd.R_slice HO377.out; subst eo16))
    have n0_ : Aside0 (Kd.R k88 88 ((w13.setCell ⟨gb378, 0, none⟩ (.slice Ao14 t372.length co14)).setCell ⟨gb378, 1, none⟩ (.slice Ao16 t375.length co16)) w.heap.size (fun _ => True) (.slice Ao10 t366.length co10) t366) := ⟨by (with_reducible repeat (first | apply Kd.R_alloc | apply Kd.R_drewN | apply Kd.R_drew)); exact Kd.R_mono (Kd.R_far (p := ⟨gb378, 1, none⟩) (Kd.R_far (p := ⟨gb378, 0, none⟩) (Kd.R_types HO369.out BK378.out (by decide)) (fun _ hk => hk.2) (.slice Ao14 t372.length co14)) (fun _ hk => hk.2) (.slice Ao16 t375.length co16)) (fun _ hk => trivial)⟩
    have n1_ : Aside0 (Kd.R k34 34 ((w13.setCell ⟨gb378, 0, none⟩ (.slice Ao14 t372.length co14)).setCell ⟨gb378, 1, none⟩ (.slice Ao16 t375.length co16)) w.heap.size (fun _ => True) (.slice Ao11 t367.length co11) t367) := ⟨by (with_reducible repeat (first | apply Kd.R_alloc | apply Kd.R_drewN | apply Kd.R_drew)); exact Kd.R_mono (Kd.R_far (p := ⟨gb378, 1, none⟩) (Kd.R_far (p := ⟨gb378, 0, none⟩) (Kd.R_types HO371.out BK378.out (by decide)) (fun _ hk => hk.2) (.slice Ao14 t372.length co14)) (fun _ hk => hk.2) (.slice Ao16 t375.length co16)) (fun _ hk => trivial)⟩
    have n2_ : Aside0 (Kd.R (Kd.int .i64) 3 ((w13.setCell ⟨gb378, 0, none⟩ (.slice Ao14 t372.length co14)).setCell ⟨gb378, 1, none⟩ (.slice Ao16 t375.length co16)) w.heap.size (fun k_ => some k_ ≠ (.slice Ao16 t375.length co16 : Value).ownBlock) (.slice Ao14 t372.length co14) t372) := ⟨by (with_reducible repeat (first | apply Kd.R_alloc | apply Kd.R_drewN | apply Kd.R_drew)); exact Kd.R_mono (Kd.R_far (p := ⟨gb378, 1, none⟩) (Kd.R_far (p := ⟨gb378, 0, none⟩) (Kd.R_types HO374.out BK378.out (by decide)) (fun _ hk => hk.2) (.slice Ao14 t372.length co14)) (fun _ hk => hk.2) (.slice Ao16 t375.length co16)) (fun _ hk => hk.1)⟩
    have n3_ : Aside0 (Kd.R (Kd.int .i64) 3 ((w13.setCell ⟨gb378, 0, none⟩ (.slice Ao14 t372.length co14)).setCell ⟨gb378, 1, none⟩ (.slice Ao16 t375.length co16)) w.heap.size (fun k_ => some k_ ≠ (.slice Ao14 t372.length co14 : Value).ownBlock) (.slice Ao16 t375.length co16) t375) := ⟨by (with_reducible repeat (first | apply Kd.R_alloc | apply Kd.R_drewN | apply Kd.R_drew)); exact Kd.R_mono (Kd.R_far (p := ⟨gb378, 1, none⟩) (Kd.R_far (p := ⟨gb378, 0, none⟩) (Kd.R_types HO377.out BK378.out (by decide)) (fun _ hk => hk.2) (.slice Ao14 t372.length co14)) (fun _ hk => hk.2) (.slice Ao16 t375.length co16)) (fun _ hk => hk.1)⟩
    have n4_ : Aside0 (((w13.setCell ⟨gb378, 0, none⟩ (.slice Ao14 t372.length co14)).setCell ⟨gb378, 1, none⟩ (.slice Ao16 t375.length co16)).heap[gb378]? = some (.cells #[.slice Ao14 t372.length co14, .slice Ao16 t375.length co16] 29 (0, 0))) := ⟨by (with_reducible repeat (first | refine blk_drewN ?_ _ | refine blk_drew ?_ | refine blk_alloc ?_ _)); refine blk_put (cs := #[.slice Ao14 t372.length co14, .slice none 0 0]) ?_ 1 _ rfl; (with_reducible repeat (first | refine blk_drewN ?_ _ | refine blk_drew ?_ | refine blk_alloc ?_ _)); refine blk_put (cs := #[.slice none 0 0, .slice none 0 0]) ?_ 0 _ rfl; (with_reducible repeat (first | refine blk_drewN ?_ _ | refine blk_drew ?_ | refine blk_alloc ?_ _)); exact BK378.out⟩
    have n5_ : Aside0 (Below w.heap.size w ((w13.setCell ⟨gb378, 0, none⟩ (.slice Ao14 t372.length co14)).setCell ⟨gb378, 1, none⟩ (.slice Ao16 t375.length co16))) := ⟨by repeat (first | (with_reducible first | exact HB.out | apply below_alloc | apply pw_below_drewN | apply below_drew1 | refine below_set ?_ GE378.out) | exact HB.out)⟩
    (try clear HO369)
    (try clear HO371)
    (try clear HO374)
    (try clear HO377)
    (try clear BK378)
    (try clear HB)
    generalize ((w13.setCell ⟨gb378, 0, none⟩ (.slice Ao14 t372.length co14)).setCell ⟨gb378, 1, none⟩ (.slice Ao16 t375.length co16)) = w17 at n0_ n1_ n2_ n3_ n4_ n5_ ⊢
    have HO369 := n0_
    have HO371 := n1_
    have HO374 := n2_
    have HO377 := n3_
    have BK378 := n4_
    have HB := n5_
    clear n0_ n1_ n2_ n3_ n4_ n5_
    have n0_ := Aside0.mk (Kd.R_drew HO369.out)
    have n1_ := Aside0.mk (Kd.R_drew HO371.out)
    have n2_ := Aside0.mk (Kd.R_drew HO374.out)
    have n3_ := Aside0.mk (Kd.R_drew HO377.out)
    have n4_ := Aside0.mk (blk_drew BK378.out)
    have n5_ := Aside0.mk (below_drew1 HB.out)
    clear HO369
    clear HO371
    clear HO374
    clear HO377
    clear BK378
    clear HB
    have HO369 := n0_
    have HO371 := n1_
    have HO374 := n2_
    have HO377 := n3_
    have BK378 := n4_
    have HB := n5_
    clear n0_ n1_ n2_ n3_ n4_ n5_
    refine start_ (n := 6) (S := fun w' => w'.cell? ⟨gb378, 0, none⟩ = some (.slice Ao14 t372.length co14) ∧ w'.cell? ⟨gb378, 1, none⟩ = some (.slice Ao16 t375.length co16)) (ds := []) #[false, false, false, false, false, false] (by kernel_rfl) rfl rfl ⟨(blk_cell BK378.out 0).trans rfl, (blk_cell BK378.out 1).trans rfl⟩ (fun hHeld => ?_)
    generalize w17.drew = w18 at HO369 HO371 HO374 HO377 BK378 HB hHeld ⊢
    refine pure_ (i := 1) (N := some 22) (v := ?_) (a' := ?_) #[false, true, false, false, false, false] rfl rfl (by kernel_rfl) (fun _ _ _ h => h) (Or.inl ⟨by rfl, ?_⟩) ?_ ?_
    rotate_left
    ·intro w'
     go_simp
     with_reducible rfl
    rotate_left
    ·simp only [Act.put, List.setIfInBounds_toArray, List.set_cons_zero, List.set_cons_succ, i64_w, i32_w]
     rfl
    refine pure_ (i := 2) (N := some 23) (v := ?_) (a' := ?_) #[false, true, true, false, false, false] rfl rfl (by kernel_rfl) (fun _ _ _ h => h) (Or.inl ⟨by rfl, ?_⟩) ?_ ?_
    rotate_left
    ·intro w'
     go_simp
     with_reducible rfl
    rotate_left
    ·simp only [Act.put, List.setIfInBounds_toArray, List.set_cons_zero, List.set_cons_succ, i64_w, i32_w]
     rfl
    refine take_ (i := 0) (N := some 21) (v := ?_) (a' := ?_) #[true, true, true, false, false, false] rfl rfl (by kernel_rfl) (fun _ _ _ h => h) (Or.inl ⟨by rfl, ?_⟩) hHeld ?_ ?_
    rotate_left
    ·rintro w' ⟨s0, s1⟩
     go_simp
     with_reducible rfl
    rotate_left
    ·simp only [Act.put, List.setIfInBounds_toArray, List.set_cons_zero, List.set_cons_succ, i64_w, i32_w]
     rfl
    refine one_ (i := 3) (N := some 24) #[true, true, true, true, false, false] rfl rfl (by kernel_rfl) (by decide) (fun K hK => ?_)
    refine goes_ Try.func14 (by kernel_rfl) rfl #[.slice Ao10 t366.length co10, .slice Ao11 t367.length co11] (by rfl) rfl rfl (by (try simp only [List.map_toArray, List.map_cons, List.map_nil]); first | done | rfl | (simp only [List.length_drop, List.length_take]; rfl)) ?_
    with_reducible refine (spec_RunNonPreemptive.calls k _ _ t366 _ _ t367 t379 t382 _ ?side1 ?side2 ?side3 ?side4 A5.out).mono ?_
    (case side1 => repeat (first | exact (Kd.R_reads' HO369.out).2.2 | (with_reducible refine Kd.C_alloc ?_ _) | (with_reducible refine Kd.C_drewN ?_ _) | (with_reducible refine Kd.C_drew ?_)))
    (case side2 => exact (Kd.R_reads' HO369.out).2.1)
    (case side3 => repeat (first | exact (Kd.R_reads' HO371.out).2.2 | (with_reducible refine Kd.C_alloc ?_ _) | (with_reducible refine Kd.C_drewN ?_ _) | (with_reducible refine Kd.C_drew ?_)))
    (case side4 => exact (Kd.R_reads' HO371.out).2.1)
    rintro e w19 ⟨v380, v383, rfl, ho0, ho1, hb⟩
    refine ⟨_, rfl, ?_⟩
    have n0_ := Aside0.mk (Kd.R_below (by (with_reducible repeat (first | apply Kd.R_alloc | apply Kd.R_drewN | apply Kd.R_drew)); exact HO369.out) hb)
    have n1_ := Aside0.mk (Kd.R_below (by (with_reducible repeat (first | apply Kd.R_alloc | apply Kd.R_drewN | apply Kd.R_drew)); exact HO371.out) hb)
    have n2_ := Aside0.mk (Kd.R_mono (Kd.R_told (Kd.R_told (Kd.R_old (by (with_reducible repeat (first | apply Kd.R_alloc | apply Kd.R_drewN | apply Kd.R_drew)); exact HO374.out) hb) (Kd.R_base ho0)) (Kd.R_base ho1)) (fun _ h_ => h_.1))
    have n3_ := Aside0.mk (Kd.R_mono (Kd.R_told (Kd.R_told (Kd.R_old (by (with_reducible repeat (first | apply Kd.R_alloc | apply Kd.R_drewN | apply Kd.R_drew)); exact HO377.out) hb) (Kd.R_base ho0)) (Kd.R_base ho1)) (fun _ h_ => h_.1))
    have n4_ := Aside0.mk (Kd.R_lower (Kd.R_new' (Kd.R_new' ho0 (Kd.R_lt (by (with_reducible repeat (first | apply Kd.R_alloc | apply Kd.R_drewN | apply Kd.R_drew)); exact HO374.out))) (Kd.R_lt (by (with_reducible repeat (first | apply Kd.R_alloc | apply Kd.R_drewN | apply Kd.R_drew)); exact HO377.out))) (below_size (by repeat (first | (with_reducible first | exact HB.out | apply below_alloc | apply pw_below_drewN | apply below_drew1 | refine below_set ?_ GE378.out) | exact HB.out))))
    have n5_ := Aside0.mk (Kd.R_lower (Kd.R_new' (Kd.R_new' ho1 (Kd.R_lt (by (with_reducible repeat (first | apply Kd.R_alloc | apply Kd.R_drewN | apply Kd.R_drew)); exact HO374.out))) (Kd.R_lt (by (with_reducible repeat (first | apply Kd.R_alloc | apply Kd.R_drewN | apply Kd.R_drew)); exact HO377.out))) (below_size (by repeat (first | (with_reducible first | exact HB.out | apply below_alloc | apply pw_below_drewN | apply below_drew1 | refine below_set ?_ GE378.out) | exact HB.out))))
    have n6_ := Aside0.mk (blk_below (g := gb378) (o := .cells #[.slice Ao14 t372.length co14, .slice Ao16 t375.length co16] 29 (0, 0)) (by (with_reducible repeat (first | refine blk_drewN ?_ _ | refine blk_drew ?_ | refine blk_alloc ?_ _)); exact BK378.out) hb)
    have n7_ := Aside0.mk (below_step (by repeat (first | (with_reducible first | exact HB.out | apply below_alloc | apply pw_below_drewN | apply below_drew1 | refine below_set ?_ GE378.out) | exact HB.out)) hb)
    clear HO369
    clear HO371
    clear HO374
    clear HO377
    clear BK378
    clear HB
    have HO369 := n0_
    have HO371 := n1_
    have HO374 := n2_
    have HO377 := n3_
    have HO381 := n4_
    have HO384 := n5_
    have BK378 := n6_
    have HB := n7_
    clear n0_ n1_ n2_ n3_ n4_ n5_ n6_ n7_
    (try clear hb)
    (try clear hb2)
    (try clear hk)
    (try clear hi)
    (try clear ho0)
    (try clear ho1)
    obtain ⟨Ao20, co20, eo20⟩ := Kd.R_slice HO381.out
    (first | subst eo20 | (injection eo20 with f1_ f2_ f3_; have f4_ := f1_.symm; have f5_ := f3_.symm; clear f1_ f2_ f3_; subst f4_; subst f5_))
    obtain ⟨Ao21, co21, eo21⟩ := Kd.R_slice HO384.out
    (first | subst eo21 | (injection eo21 with f1_ f2_ f3_; have f4_ := f1_.symm; have f5_ := f3_.symm; clear f1_ f2_ f3_; subst f4_; subst f5_))
    refine hK.out _ _ ⟨(blk_cell BK378.out 0).trans rfl, (blk_cell BK378.out 1).trans rfl⟩ (fun hHeld => ?_)
    clear hK K
    refine norm_ (a' := ?_) ?_ ?_
    rotate_left
    ·show Act.put _ (some 24) _ = _
     simp only [Act.put, List.setIfInBounds_toArray, List.set_cons_zero, List.set_cons_succ, i64_w, i32_w]
     rfl
    refine one_ (i := 4) (N := some 25) #[true, true, true, true, true, false] rfl rfl (by kernel_rfl) (by decide) (fun K hK => ?_)
    refine goes_ Try.func13 (by kernel_rfl) rfl #[.agg #[.slice Ao14 t372.length co14, .slice Ao16 t375.length co16], .agg #[.slice Ao20 t379.length co20, .slice Ao21 t382.length co21]] (by rfl) rfl rfl (by (try simp only [List.map_toArray, List.map_cons, List.map_nil]); first | done | rfl | (simp only [List.length_drop, List.length_take]; rfl)) ?_
    with_reducible refine (laws_sameSchedule.calls k _ _ t372 _ _ t375 _ _ t379 _ _ t382 true _ ?side1 ?side2 ?side3 ?side4 ?side5 ?side6 ?side7 ?side8 A6.out).mono ?_
    (case side1 => repeat (first | exact (Kd.R_reads' HO374.out).2.2 | (with_reducible refine Kd.C_alloc ?_ _) | (with_reducible refine Kd.C_drewN ?_ _) | (with_reducible refine Kd.C_drew ?_)))
    (case side2 => exact (Kd.R_reads' HO374.out).2.1)
    (case side3 => repeat (first | exact (Kd.R_reads' HO377.out).2.2 | (with_reducible refine Kd.C_alloc ?_ _) | (with_reducible refine Kd.C_drewN ?_ _) | (with_reducible refine Kd.C_drew ?_)))
    (case side4 => exact (Kd.R_reads' HO377.out).2.1)
    (case side5 => repeat (first | exact (Kd.R_reads' HO381.out).2.2 | (with_reducible refine Kd.C_alloc ?_ _) | (with_reducible refine Kd.C_drewN ?_ _) | (with_reducible refine Kd.C_drew ?_)))
    (case side6 => exact (Kd.R_reads' HO381.out).2.1)
    (case side7 => repeat (first | exact (Kd.R_reads' HO384.out).2.2 | (with_reducible refine Kd.C_alloc ?_ _) | (with_reducible refine Kd.C_drewN ?_ _) | (with_reducible refine Kd.C_drew ?_)))
    (case side8 => exact (Kd.R_reads' HO384.out).2.1)
    rintro e w22 ⟨rfl, hb⟩
    refine ⟨_, rfl, ?_⟩
    have n0_ := Aside0.mk (Kd.R_below (by (with_reducible repeat (first | apply Kd.R_alloc | apply Kd.R_drewN | apply Kd.R_drew)); exact HO369.out) hb)
    have n1_ := Aside0.mk (Kd.R_below (by (with_reducible repeat (first | apply Kd.R_alloc | apply Kd.R_drewN | apply Kd.R_drew)); exact HO371.out) hb)
    have n2_ := Aside0.mk (Kd.R_below (by (with_reducible repeat (first | apply Kd.R_alloc | apply Kd.R_drewN | apply Kd.R_drew)); exact HO374.out) hb)
    have n3_ := Aside0.mk (Kd.R_below (by (with_reducible repeat (first | apply Kd.R_alloc | apply Kd.R_drewN | apply Kd.R_drew)); exact HO377.out) hb)
    have n4_ := Aside0.mk (Kd.R_below (by (with_reducible repeat (first | apply Kd.R_alloc | apply Kd.R_drewN | apply Kd.R_drew)); exact HO381.out) hb)
    have n5_ := Aside0.mk (Kd.R_below (by (with_reducible repeat (first | apply Kd.R_alloc | apply Kd.R_drewN | apply Kd.R_drew)); exact HO384.out) hb)
    have n6_ := Aside0.mk (blk_below (g := gb378) (o := .cells #[.slice Ao14 t372.length co14, .slice Ao16 t375.length co16] 29 (0, 0)) (by (with_reducible repeat (first | refine blk_drewN ?_ _ | refine blk_drew ?_ | refine blk_alloc ?_ _)); exact BK378.out) hb)
    have n7_ := Aside0.mk (below_step (by repeat (first | (with_reducible first | exact HB.out | apply below_alloc | apply pw_below_drewN | apply below_drew1 | refine below_set ?_ GE378.out) | exact HB.out)) hb)
    clear HO369
    clear HO371
    clear HO374
    clear HO377
    clear HO381
    clear HO384
    clear BK378
    clear HB
    have HO369 := n0_
    have HO371 := n1_
    have HO374 := n2_
    have HO377 := n3_
    have HO381 := n4_
    have HO384 := n5_
    have BK378 := n6_
    have HB := n7_
    clear n0_ n1_ n2_ n3_ n4_ n5_ n6_ n7_
    (try clear hb)
    (try clear hb2)
    (try clear hk)
    (try clear hi)
    refine hK.out _ _ ⟨(blk_cell BK378.out 0).trans rfl, (blk_cell BK378.out 1).trans rfl⟩ (fun hHeld => ?_)
    clear hK K
    refine norm_ (a' := ?_) ?_ ?_
    rotate_left
    ·show Act.put _ (some 25) _ = _
     simp only [Act.put, List.setIfInBounds_toArray, List.set_cons_zero, List.set_cons_succ, i64_w, i32_w]
     rfl
    refine pure_ (i := 5) (N := some 26) (v := ?_) (a' := ?_) #[true, true, true, true, true, true] rfl rfl (by kernel_rfl) (fun _ _ _ h => h) (Or.inl ⟨by rfl, ?_⟩) ?_ ?_
    rotate_left
    ·intro w'
     go_simp
     with_reducible rfl
    rotate_left
    ·simp only [Act.put, List.setIfInBounds_toArray, List.set_cons_zero, List.set_cons_succ, i64_w, i32_w]
     rfl
    refine done_ (by kernel_rfl) ?_
    have hcz23_0 : w22.cell? ⟨gb378, 0, none⟩ = some (.slice Ao14 t372.length co14) := (blk_cell BK378.out 0).trans rfl
    have hcz23_1 : w22.cell? ⟨gb378, 1, none⟩ = some (.slice Ao16 t375.length co16) := (blk_cell BK378.out 1).trans rfl
    have hfz23_0 := blk_frozen BK378.out 0
    have hfz23_1 := blk_frozen BK378.out 1
    try go_wp2
    go_loopg [6] k (fun kq v6 w' => ∃ (x6_1 : Int), v6 = .int .i64 x6_1 ∧ Aside0 (laws_FnRunNonPreemptive.l0 kq t366 t367 x6_1 t372 t375 = some r) ∧ Aside0 (kq ≤ k) ∧ Aside0 (Kd.R k88 88 w' w.heap.size (fun _ => True) (.slice Ao10 t366.length co10) t366) ∧ Aside0 (Kd.R k34 34 w' w.heap.size (fun _ => True) (.slice Ao11 t367.length co11) t367) ∧ Aside0 (Kd.R (Kd.int .i64) 3 w' w.heap.size (fun k_ => some k_ ≠ ((.slice Ao16 t375.length co16) : Value).ownBlock) (.slice Ao14 t372.length co14) t372) ∧ Aside0 (Kd.R (Kd.int .i64) 3 w' w.heap.size (fun k_ => some k_ ≠ ((.slice Ao14 t372.length co14) : Value).ownBlock) (.slice Ao16 t375.length co16) t375) ∧ Aside0 (w'.heap[gb378]? = some (.cells #[(.slice Ao14 t372.length co14), (.slice Ao16 t375.length co16)] 29 (0, 0))) ∧ Aside0 (Below w.heap.size w w'))
    case atStart => exact ⟨(0), (by first | rfl | (simp; done) | (simp [*]; done)), H', ⟨Nat.le_refl _⟩, ⟨by (with_reducible repeat (first | apply Kd.R_alloc | apply Kd.R_drewN | apply Kd.R_drew)); exact HO369.out⟩, ⟨by (with_reducible repeat (first | apply Kd.R_alloc | apply Kd.R_drewN | apply Kd.R_drew)); exact HO371.out⟩, ⟨by (with_reducible repeat (first | apply Kd.R_alloc | apply Kd.R_drewN | apply Kd.R_drew)); exact Kd.R_mono HO374.out (fun _ hk => hk.1.1)⟩, ⟨by (with_reducible repeat (first | apply Kd.R_alloc | apply Kd.R_drewN | apply Kd.R_drew)); exact Kd.R_mono HO377.out (fun _ hk => hk.1.1)⟩, ⟨by (with_reducible repeat (first | refine blk_drewN ?_ _ | refine blk_drew ?_ | refine blk_alloc ?_ _)); exact BK378.out⟩, ⟨by repeat (first | (with_reducible first | exact HB.out | apply below_alloc | apply pw_below_drewN | apply below_drew1 | refine below_set ?_ GE378.out) | exact HB.out)⟩⟩
    case round =>
     clear H'
     try clear c1
     try clear c2
     try clear c2b0
     try clear c2b1
     try clear p2
     try clear c3
     try clear p6
     try clear c7
     try clear c8
     try clear c8b0
     try clear c8b1
     try clear c11
     try clear c12
     try clear c13
     try clear c14
     try clear hcz15_0
     try clear hcz15_1
     try clear hcz23_0
     try clear hcz23_1
     try clear hfz15_0
     try clear hfz15_1
     try clear hfz23_0
     try clear hfz23_1
     obtain ⟨x6_1, rfl, HA, HK1, HO_3, HO_4, HO_379000, HO_379001, BK378, HB⟩ := hrel
     cases gk with
     | zero => exact absurd HA.out (by simp [laws_FnRunNonPreemptive.l0])
     | succ k1 =>
      have H := HA.out
      clear HA
      simp only [laws_FnRunNonPreemptive.l0] at H
      by_cases c24 : x6_1 < (t367.length : Int)
      ·rw [if_pos c24] at H
       have c24b0 : decide (x6_1 < (t367.length : Int)) = true := decide_eq_true c24
       clear c24
       have H' := Aside0.mk H
       clear H
       go_wp2
       go_loopg [7] k1 (fun kq v7 w' => ∃ (x7_2 : Int), v7 = .int .i64 x7_2 ∧ Aside0 (laws_FnRunNonPreemptive.l1 kq t366 t367 x6_1 x7_2 t372 t375 = some r) ∧ Aside0 (kq ≤ k1) ∧ Aside0 (Kd.R k88 88 w' w.heap.size (fun _ => True) (.slice Ao10 t366.length co10) t366) ∧ Aside0 (Kd.R k34 34 w' w.heap.size (fun _ => True) (.slice Ao11 t367.length co11) t367) ∧ Aside0 (Kd.R (Kd.int .i64) 3 w' w.heap.size (fun k_ => some k_ ≠ ((.slice Ao16 t375.length co16) : Value).ownBlock) (.slice Ao14 t372.length co14) t372) ∧ Aside0 (Kd.R (Kd.int .i64) 3 w' w.heap.size (fun k_ => some k_ ≠ ((.slice Ao14 t372.length co14) : Value).ownBlock) (.slice Ao16 t375.length co16) t375) ∧ Aside0 (w'.heap[gb378]? = some (.cells #[(.slice Ao14 t372.length co14), (.slice Ao16 t375.length co16)] 29 (0, 0))) ∧ Aside0 (Below w.heap.size w w'))
       case atStart => exact ⟨(1), (by first | rfl | (simp; done) | (simp [*]; done)), H', ⟨Nat.le_refl _⟩, ⟨by (with_reducible repeat (first | apply Kd.R_alloc | apply Kd.R_drewN | apply Kd.R_drew)); exact HO_3.out⟩, ⟨by (with_reducible repeat (first | apply Kd.R_alloc | apply Kd.R_drewN | apply Kd.R_drew)); exact HO_4.out⟩, ⟨by (with_reducible repeat (first | apply Kd.R_alloc | apply Kd.R_drewN | apply Kd.R_drew)); exact HO_379000.out⟩, ⟨by (with_reducible repeat (first | apply Kd.R_alloc | apply Kd.R_drewN | apply Kd.R_drew)); exact HO_379001.out⟩, ⟨by (with_reducible repeat (first | refine blk_drewN ?_ _ | refine blk_drew ?_ | refine blk_alloc ?_ _)); exact BK378.out⟩, ⟨by repeat (first | (with_reducible first | exact HB.out | apply below_alloc | apply pw_below_drewN | apply below_drew1 | refine below_set ?_ GE378.out) | exact HB.out)⟩⟩
       case round =>
        clear H'
        try clear c1
        try clear c2
        try clear c2b0
        try clear c2b1
        try clear p2
        try clear c3
        try clear p6
        try clear c7
        try clear c8
        try clear c8b0
        try clear c8b1
        try clear c11
        try clear c12
        try clear c13
        try clear c14
        try clear c24
        try clear c24b0
        try clear hcz15_0
        try clear hcz15_1
        try clear hcz23_0
        try clear hcz23_1
        try clear hfz15_0
        try clear hfz15_1
        try clear hfz23_0
        try clear hfz23_1
        try clear p2
        try clear p6
        obtain ⟨x7_2, rfl, HA, HK2, HO_3, HO_4, HO_379000, HO_379001, BK378, HB⟩ := hrel
        cases gk with
        | zero => exact absurd HA.out (by simp [laws_FnRunNonPreemptive.l1])
        | succ k2 =>
         have H := HA.out
         clear HA
         simp only [laws_FnRunNonPreemptive.l1] at H
         have HC25 := Aside0.mk H
         clear H
         go_upto_region 13 with (fail)
         go_cut [62] (fun v62 wc => ∃ (kq : Nat) (x62_24 : Bool), v62 = .bool x62_24 ∧ Aside0 (laws_FnRunNonPreemptive.j2 kq t366 t367 x6_1 x7_2 x62_24 t372 t375 = some r) ∧ Aside0 (kq ≤ k2) ∧ Aside0 (Kd.R k88 88 wc w.heap.size (fun _ => True) (.slice Ao10 t366.length co10) t366) ∧ Aside0 (Kd.R k34 34 wc w.heap.size (fun _ => True) (.slice Ao11 t367.length co11) t367) ∧ Aside0 (Kd.R (Kd.int .i64) 3 wc w.heap.size (fun k_ => some k_ ≠ ((.slice Ao16 t375.length co16) : Value).ownBlock) (.slice Ao14 t372.length co14) t372) ∧ Aside0 (Kd.R (Kd.int .i64) 3 wc w.heap.size (fun k_ => some k_ ≠ ((.slice Ao14 t372.length co14) : Value).ownBlock) (.slice Ao16 t375.length co16) t375) ∧ Aside0 (wc.heap[gb378]? = some (.cells #[(.slice Ao14 t372.length co14), (.slice Ao16 t375.length co16)] 29 (0, 0))) ∧ Aside0 (Below w.heap.size w wc))
         case first =>
          have H := HC25.out
          clear HC25
          by_cases c26 : 0 ≤ x6_1
          ·rw [if_pos c26] at H
           have c26b0 : decide (0 ≤ x6_1) = true := decide_eq_true c26
           clear c26
           (first | rw [c26b0] | (simp only [i64_w, i32_w]; rw [c26b0]) | skip)
           by_cases c27 : x6_1 < (t375.length : Int)
           ·rw [if_pos c27] at H
            have c27b0 : decide (x6_1 < (t375.length : Int)) = true := decide_eq_true c27
            clear c27
            by_cases c28 : (rd t375 x6_1) ≥ 0
            ·rw [if_pos c28] at H
             have c28b0 : decide (0 ≤ (rd t375 x6_1)) = true := decide_eq_true c28
             clear c28
             by_cases c29 : x6_1 < (t367.length : Int)
             ·rw [if_pos c29] at H
              have c29b0 : decide (x6_1 < (t367.length : Int)) = true := decide_eq_true c29
              clear c29
              have H' := Aside0.mk H
              clear H
              have hcz30_0 : wr.cell? ⟨gb378, 0, none⟩ = some (.slice Ao14 t372.length co14) := (blk_cell BK378.out 0).trans rfl
              have hcz30_1 : wr.cell? ⟨gb378, 1, none⟩ = some (.slice Ao16 t375.length co16) := (blk_cell BK378.out 1).trans rfl
              have hfz30_0 := blk_frozen BK378.out 0
              have hfz30_1 := blk_frozen BK378.out 1
              have p387 : 0 ≤ (x6_1 : Int) := of_decide_eq_true (by first | (with_reducible assumption) | assumption)
              have q387 : x6_1 < (t375.length : Int) := of_decide_eq_true (by first | (with_reducible assumption) | assumption)
              obtain ⟨ad387, e387, hx387_0⟩ := Kd.at_int (Kd.R_reads' HO_379001.out).2.2 x6_1 p387 q387
              cases e387
              replace p387 := eq_true p387
              replace q387 := eq_true q387
              have p388 : 0 ≤ (x6_1 : Int) := of_decide_eq_true (by first | (with_reducible assumption) | assumption)
              have q388 : x6_1 < (t367.length : Int) := of_decide_eq_true (by first | (with_reducible assumption) | assumption)
              obtain ⟨ad388, e388, hx388_0, hx388_1, hx388_2, hx388_3⟩ := at_T34 (Kd.R_reads' HO_4.out).2.2 x6_1 p388 q388
              cases e388
              replace p388 := eq_true p388
              replace q388 := eq_true q388
              go_wp2
              go_meet
              case rel => exact ⟨_, (decide (x7_2 ≤ ((rd_T34 t367 x6_1).f3))), (by first | rfl | (simp; done) | (simp [*]; done)), H', ⟨by have := HK1.out; have := HK2.out; first | omega | exact Nat.le_refl _⟩, ⟨by (with_reducible repeat (first | apply Kd.R_alloc | apply Kd.R_drewN | apply Kd.R_drew)); exact HO_3.out⟩, ⟨by (with_reducible repeat (first | apply Kd.R_alloc | apply Kd.R_drewN | apply Kd.R_drew)); exact HO_4.out⟩, ⟨by (with_reducible repeat (first | apply Kd.R_alloc | apply Kd.R_drewN | apply Kd.R_drew)); exact HO_379000.out⟩, ⟨by (with_reducible repeat (first | apply Kd.R_alloc | apply Kd.R_drewN | apply Kd.R_drew)); exact HO_379001.out⟩, ⟨by (with_reducible repeat (first | refine blk_drewN ?_ _ | refine blk_drew ?_ | refine blk_alloc ?_ _)); exact BK378.out⟩, ⟨by repeat (first | (with_reducible first | exact HB.out | apply below_alloc | apply pw_below_drewN | apply below_drew1 | refine below_set ?_ GE378.out) | exact HB.out)⟩⟩
             ·rw [if_neg c29] at H
              exact absurd H (by simp)
            ·rw [if_neg c28] at H
             have c28b0 : decide (0 ≤ (rd t375 x6_1)) = false := decide_eq_false c28
             clear c28
             have H' := Aside0.mk H
             clear H
             have hcz31_0 : wr.cell? ⟨gb378, 0, none⟩ = some (.slice Ao14 t372.length co14) := (blk_cell BK378.out 0).trans rfl
             have hcz31_1 : wr.cell? ⟨gb378, 1, none⟩ = some (.slice Ao16 t375.length co16) := (blk_cell BK378.out 1).trans rfl
             have hfz31_0 := blk_frozen BK378.out 0
             have hfz31_1 := blk_frozen BK378.out 1
             have p387 : 0 ≤ (x6_1 : Int) := of_decide_eq_true (by first | (with_reducible assumption) | assumption)
             have q387 : x6_1 < (t375.length : Int) := of_decide_eq_true (by first | (with_reducible assumption) | assumption)
             obtain ⟨ad387, e387, hx387_0⟩ := Kd.at_int (Kd.R_reads' HO_379001.out).2.2 x6_1 p387 q387
             cases e387
             replace p387 := eq_true p387
             replace q387 := eq_true q387
             go_wp2
             go_meet
             case rel => exact ⟨_, (false), (by first | rfl | (simp; done) | (simp [*]; done)), H', ⟨by have := HK1.out; have := HK2.out; first | omega | exact Nat.le_refl _⟩, ⟨by (with_reducible repeat (first | apply Kd.R_alloc | apply Kd.R_drewN | apply Kd.R_drew)); exact HO_3.out⟩, ⟨by (with_reducible repeat (first | apply Kd.R_alloc | apply Kd.R_drewN | apply Kd.R_drew)); exact HO_4.out⟩, ⟨by (with_reducible repeat (first | apply Kd.R_alloc | apply Kd.R_drewN | apply Kd.R_drew)); exact HO_379000.out⟩, ⟨by (with_reducible repeat (first | apply Kd.R_alloc | apply Kd.R_drewN | apply Kd.R_drew)); exact HO_379001.out⟩, ⟨by (with_reducible repeat (first | refine blk_drewN ?_ _ | refine blk_drew ?_ | refine blk_alloc ?_ _)); exact BK378.out⟩, ⟨by repeat (first | (with_reducible first | exact HB.out | apply below_alloc | apply pw_below_drewN | apply below_drew1 | refine below_set ?_ GE378.out) | exact HB.out)⟩⟩
           ·rw [if_neg c27] at H
            exact absurd H (by simp)
          ·rw [if_neg c26] at H
           exact absurd H (by simp)
         case rest =>
          clear HC25
          try clear c1
          try clear c2
          try clear c2b0
          try clear c2b1
          try clear p2
          try clear c3
          try clear p3
          try clear q3
          try clear hx3
          try clear p6
          try clear c7
          try clear c8
          try clear c8b0
          try clear c8b1
          try clear c11
          try clear c12
          try clear c13
          try clear c14
          try clear c24
          try clear c24b0
          try clear c26
          try clear c26b0
          try clear c27
          try clear c27b0
          try clear c28
          try clear c28b0
          try clear c29
          try clear c29b0
          try clear hcz15_0
          try clear hcz15_1
          try clear hcz23_0
          try clear hcz23_1
          try clear hcz30_0
          try clear hcz30_1
          try clear hcz31_0
          try clear hcz31_1
          try clear hfz15_0
          try clear hfz15_1
          try clear hfz23_0
          try clear hfz23_1
          try clear hfz30_0
          try clear hfz30_1
          try clear hfz31_0
          try clear hfz31_1
          try clear hx387_0
          try clear hx388_0
          try clear hx388_1
          try clear hx388_2
          try clear hx388_3
          try clear p2
          try clear p387
          try clear p388
          try clear p6
          try clear q387
          try clear q388
          obtain ⟨kq, x62_24, rfl, HA, HJ24, HO_3, HO_4, HO_379000, HO_379001, BK378, HB⟩ := hcut
          cases kq with
          | zero => exact absurd HA.out (by simp [laws_FnRunNonPreemptive.j2])
          | succ kj24 =>
           have H := HA.out
           clear HA
           simp only [laws_FnRunNonPreemptive.j2] at H
           by_cases c32 : x62_24 = true
           ·subst c32
            have H1 : (if 0 ≤ x6_1 then (if x6_1 < (t375.length : Int) then (if 0 ≤ (wrap64 ((rd t375 x6_1) - x7_2)) then (if (wrap64 ((rd t375 x6_1) - x7_2)) < (t372.length : Int) then (if (rd t372 (wrap64 ((rd t375 x6_1) - x7_2))) = x6_1 then (laws_FnRunNonPreemptive.l1 kj24 t366 t367 x6_1 (wrap64 (x7_2 + 1)) t372 t375) else (some false)) else (none)) else (none)) else (none)) else (none)) = some r := by rw [if_pos rfl] at H; exact H
            clear H
            have H := H1
            clear H1
            by_cases c33 : 0 ≤ x6_1
            ·rw [if_pos c33] at H
             have c33b0 : decide (0 ≤ x6_1) = true := decide_eq_true c33
             clear c33
             by_cases c34 : x6_1 < (t375.length : Int)
             ·rw [if_pos c34] at H
              have c34b0 : decide (x6_1 < (t375.length : Int)) = true := decide_eq_true c34
              clear c34
              obtain ⟨ji35, hji35⟩ : ∃ j_ : Int, (wrap64 ((rd t375 x6_1) - x7_2)) = j_ := ⟨_, rfl⟩
              replace H : (if 0 ≤ (ji35) then (if (ji35) < (t372.length : Int) then (if (rd t372 (ji35)) = x6_1 then (laws_FnRunNonPreemptive.l1 kj24 t366 t367 x6_1 (wrap64 (x7_2 + 1)) t372 t375) else (some false)) else (none)) else (none)) = some r := by first | (rw [hji35] at H; exact H) | (simp only [hji35] at H ⊢; exact H)
              have hji35w : (IntKind.i64.wrap ((rd t375 x6_1) - x7_2)) = ji35 := (i64_w _).trans hji35
              by_cases c36 : 0 ≤ (ji35)
              ·rw [if_pos c36] at H
               have c36b0 : decide (0 ≤ (ji35)) = true := decide_eq_true c36
               clear c36
               by_cases c37 : (ji35) < (t372.length : Int)
               ·rw [if_pos c37] at H
                have c37b0 : decide ((ji35) < (t372.length : Int)) = true := decide_eq_true c37
                clear c37
                by_cases c38 : (rd t372 (ji35)) = x6_1
                ·rw [if_pos c38] at H
                 have c38b0 : ((rd t372 (ji35)) == x6_1) = true := beq_iff_eq.mpr c38
                 have c38b1 : ((rd t372 (ji35)) != x6_1) = false := bne_eq_false_iff_eq.mpr c38
                 clear c38
                 have H' := Aside0.mk H
                 clear H
                 try go_wp2
                 have n0_ := Aside0.mk (Kd.R_drew HO_3.out)
                 have n1_ := Aside0.mk (Kd.R_drew HO_4.out)
                 have n2_ := Aside0.mk (Kd.R_drew HO_379000.out)
                 have n3_ := Aside0.mk (Kd.R_drew HO_379001.out)
                 have n4_ := Aside0.mk (blk_drew BK378.out)
                 have n5_ := Aside0.mk (below_drew1 HB.out)
                 clear HO_3
                 clear HO_4
                 clear HO_379000
                 clear HO_379001
                 clear BK378
                 clear HB
                 have HO_3 := n0_
                 have HO_4 := n1_
                 have HO_379000 := n2_
                 have HO_379001 := n3_
                 have BK378 := n4_
                 have HB := n5_
                 clear n0_ n1_ n2_ n3_ n4_ n5_
                 have p389 : 0 ≤ (x6_1 : Int) := of_decide_eq_true (by first | (with_reducible assumption) | assumption)
                 have q389 : x6_1 < (t375.length : Int) := of_decide_eq_true (by first | (with_reducible assumption) | assumption)
                 obtain ⟨ad389, e389, hx389_0⟩ := Kd.at_int (Kd.R_reads' HO_379001.out).2.2 x6_1 p389 q389
                 cases e389
                 replace p389 := eq_true p389
                 replace q389 := eq_true q389
                 have p390 : 0 ≤ ((ji35) : Int) := of_decide_eq_true (by first | (with_reducible assumption) | assumption)
                 have q390 : (ji35) < (t372.length : Int) := of_decide_eq_true (by first | (with_reducible assumption) | assumption)
                 obtain ⟨ad390, e390, hx390_0⟩ := Kd.at_int (Kd.R_reads' HO_379000.out).2.2 (ji35) p390 q390
                 cases e390
                 replace p390 := eq_true p390
                 replace q390 := eq_true q390
                 refine start_ (n := 13) (S := fun w' => w'.cell? ⟨gb378, 0, none⟩ = some (.slice (some ad390) t372.length co14) ∧ w'.cell? ⟨gb378, 1, none⟩ = some (.slice (some ad389) t375.length co16) ∧ w'.cell? (ad389.add (x6_1).toNat) = some (.int .i64 (rd t375 x6_1)) ∧ w'.cell? (ad390.add ((ji35)).toNat) = some (.int .i64 (rd t372 (ji35)))) (ds := []) #[false, false, false, false, false, false, false, false, false, false, false, false, false] (by kernel_rfl) rfl rfl ⟨(blk_cell BK378.out 0).trans rfl, (blk_cell BK378.out 1).trans rfl, hx389_0, hx390_0⟩ (fun hHeld => ?_); refine with_tabW laws_FnRunNonPreemptive.tab15 laws_FnRunNonPreemptive.bits15 (fun HT_ HW_ => ?_)
                 generalize wc.drew = w39 at HO_3 HO_4 HO_379000 HO_379001 BK378 HB hx389_0 hx390_0 hHeld ⊢
                 refine pure_ (i := 0) (N := some 65) (v := ?_) (a' := ?_) #[true, false, false, false, false, false, false, false, false, false, false, false, false] rfl rfl (any_of HT_.out (by kernel_rfl)) (fun _ _ _ h => h) (Or.inl ⟨by rfl, ?_⟩) ?_ ?_
                 rotate_left
                 ·intro w'
                  go_simp
                  with_reducible rfl
                 rotate_left
                 ·simp only [Act.put, List.setIfInBounds_toArray, List.set_cons_zero, List.set_cons_succ, i64_w, i32_w]
                  rfl
                 refine pure_ (i := 2) (N := some 67) (v := ?_) (a' := ?_) #[true, false, true, false, false, false, false, false, false, false, false, false, false] rfl rfl (any_of HT_.out (by kernel_rfl)) (fun _ _ _ h => h) (Or.inl ⟨by rfl, ?_⟩) ?_ ?_
                 rotate_left
                 ·intro w'
                  go_simp
                  with_reducible rfl
                 rotate_left
                 ·simp only [Act.put, List.setIfInBounds_toArray, List.set_cons_zero, List.set_cons_succ, i64_w, i32_w]
                  rfl
                 refine pure_ (i := 4) (N := some 69) (v := ?_) (a' := ?_) #[true, false, true, false, true, false, false, false, false, false, false, false, false] rfl rfl (any_of HT_.out (by kernel_rfl)) (fun _ _ _ h => h) (Or.inl ⟨by rfl, ?_⟩) ?_ ?_
                 rotate_left
                 ·intro w'
                  go_simp
                  with_reducible rfl
                 rotate_left
                 ·simp only [Act.put, List.setIfInBounds_toArray, List.set_cons_zero, List.set_cons_succ, i64_w, i32_w]
                  rfl
                 refine pure_ (i := 7) (N := some 72) (v := ?_) (a' := ?_) #[true, false, true, false, true, false, false, true, false, false, false, false, false] rfl rfl (any_of HT_.out (by kernel_rfl)) (fun _ _ _ h => h) (Or.inl ⟨by rfl, ?_⟩) ?_ ?_
                 rotate_left
                 ·intro w'
                  go_simp
                  with_reducible rfl
                 rotate_left
                 ·simp only [Act.put, List.setIfInBounds_toArray, List.set_cons_zero, List.set_cons_succ, i64_w, i32_w]
                  rfl
                 refine pure_ (i := 11) (N := some 76) (v := ?_) (a' := ?_) #[true, false, true, false, true, false, false, true, false, false, false, true, false] rfl rfl (any_of HT_.out (by kernel_rfl)) (fun _ _ _ h => h) (Or.inl ⟨by rfl, ?_⟩) ?_ ?_
                 rotate_left
                 ·intro w'
                  go_simp
                  with_reducible rfl
                 rotate_left
                 ·simp only [Act.put, List.setIfInBounds_toArray, List.set_cons_zero, List.set_cons_succ, i64_w, i32_w]
                  rfl
                 refine take_ (i := 1) (N := some 66) (v := ?_) (a' := ?_) #[true, true, true, false, true, false, false, true, false, false, false, true, false] rfl rfl (take_ofW HT_.out HW_.out (by kernel_rfl)) (fun _ _ _ h => h) (Or.inl ⟨by rfl, ?_⟩) hHeld ?_ ?_
                 rotate_left
                 ·rintro w' ⟨s0, s1, s2, s3⟩
                  go_simp
                  with_reducible rfl
                 rotate_left
                 ·simp only [Act.put, List.setIfInBounds_toArray, List.set_cons_zero, List.set_cons_succ, i64_w, i32_w]
                  rfl
                 refine take_ (i := 3) (N := some 68) (v := ?_) (a' := ?_) #[true, true, true, true, true, false, false, true, false, false, false, true, false] rfl rfl (take_ofW HT_.out HW_.out (by kernel_rfl)) (fun _ _ _ h => h) (Or.inl ⟨by rfl, ?_⟩) hHeld ?_ ?_
                 rotate_left
                 ·rintro w' ⟨s0, s1, s2, s3⟩
                  go_simp
                  with_reducible rfl
                 rotate_left
                 ·simp only [Act.put, List.setIfInBounds_toArray, List.set_cons_zero, List.set_cons_succ, i64_w, i32_w]
                  rfl
                 refine pure_ (i := 5) (N := some 70) (v := ?_) (a' := ?_) #[true, true, true, true, true, true, false, true, false, false, false, true, false] rfl rfl (any_of HT_.out (by kernel_rfl)) (fun _ _ _ h => h) (Or.inl ⟨by rfl, ?_⟩) ?_ ?_
                 rotate_left
                 ·intro w'
                  go_simp
                  with_reducible rfl
                 rotate_left
                 ·simp only [Act.put, List.setIfInBounds_toArray, List.set_cons_zero, List.set_cons_succ, i64_w, i32_w]
                  rfl
                 refine take_ (i := 6) (N := some 71) (v := ?_) (a' := ?_) #[true, true, true, true, true, true, true, true, false, false, false, true, false] rfl rfl (take_ofW HT_.out HW_.out (by kernel_rfl)) (fun _ _ _ h => h) (Or.inl ⟨by rfl, ?_⟩) hHeld ?_ ?_
                 rotate_left
                 ·rintro w' ⟨s0, s1, s2, s3⟩
                  go_simp
                  with_reducible rfl
                 rotate_left
                 ·simp only [Act.put, List.setIfInBounds_toArray, List.set_cons_zero, List.set_cons_succ, i64_w, i32_w]
                  rfl
                 refine pure_ (i := 8) (N := some 73) (v := ?_) (a' := ?_) #[true, true, true, true, true, true, true, true, true, false, false, true, false] rfl rfl (any_of HT_.out (by kernel_rfl)) (fun _ _ _ h => h) (Or.inl ⟨by rfl, ?_⟩) ?_ ?_
                 rotate_left
                 ·intro w'
                  go_simp
                  with_reducible rfl
                 rotate_left
                 ·simp only [Act.put, List.setIfInBounds_toArray, List.set_cons_zero, List.set_cons_succ, i64_w, i32_w]
                  rfl
                 refine pure_ (i := 9) (N := some 74) (v := ?_) (a' := ?_) #[true, true, true, true, true, true, true, true, true, true, false, true, false] rfl rfl (any_of HT_.out (by kernel_rfl)) (fun _ _ _ h => h) (Or.inl ⟨by rfl, ?_⟩) ?_ ?_
                 rotate_left
                 ·intro w'
                  go_simp
                  with_reducible rfl
                 rotate_left
                 ·simp only [Act.put, List.setIfInBounds_toArray, List.set_cons_zero, List.set_cons_succ, i64_w, i32_w]
                  rfl
                 refine take_ (i := 10) (N := some 75) (v := ?_) (a' := ?_) #[true, true, true, true, true, true, true, true, true, true, true, true, false] rfl rfl (take_ofW HT_.out HW_.out (by kernel_rfl)) (fun _ _ _ h => h) (Or.inl ⟨by rfl, ?_⟩) hHeld ?_ ?_
                 rotate_left
                 ·rintro w' ⟨s0, s1, s2, s3⟩
                  go_simp
                  with_reducible rfl
                 rotate_left
                 ·simp only [Act.put, List.setIfInBounds_toArray, List.set_cons_zero, List.set_cons_succ, i64_w, i32_w]
                  rfl
                 refine pure_ (i := 12) (N := some 77) (v := ?_) (a' := ?_) #[true, true, true, true, true, true, true, true, true, true, true, true, true] rfl rfl (any_of HT_.out (by kernel_rfl)) (fun _ _ _ h => h) (Or.inl ⟨by rfl, ?_⟩) ?_ ?_
                 rotate_left
                 ·intro w'
                  go_simp
                  with_reducible rfl
                 rotate_left
                 ·simp only [Act.put, List.setIfInBounds_toArray, List.set_cons_zero, List.set_cons_succ, i64_w, i32_w]
                  rfl
                 refine done_ (done_of HT_.out (by kernel_rfl)) ?_
                 try go_wp2
                 go_roundg kj24
                 case measure => have := HK1.out; have := HK2.out; have := HJ24.out; omega
                 case rel => exact ⟨(wrap64 (x7_2 + 1)), (by first | rfl | (simp; done) | (simp [*]; done)), H', ⟨by have := HK1.out; have := HK2.out; have := HJ24.out; omega⟩, ⟨by (with_reducible repeat (first | apply Kd.R_alloc | apply Kd.R_drewN | apply Kd.R_drew)); exact HO_3.out⟩, ⟨by (with_reducible repeat (first | apply Kd.R_alloc | apply Kd.R_drewN | apply Kd.R_drew)); exact HO_4.out⟩, ⟨by (with_reducible repeat (first | apply Kd.R_alloc | apply Kd.R_drewN | apply Kd.R_drew)); exact HO_379000.out⟩, ⟨by (with_reducible repeat (first | apply Kd.R_alloc | apply Kd.R_drewN | apply Kd.R_drew)); exact HO_379001.out⟩, ⟨by (with_reducible repeat (first | refine blk_drewN ?_ _ | refine blk_drew ?_ | refine blk_alloc ?_ _)); exact BK378.out⟩, ⟨by repeat (first | (with_reducible first | exact HB.out | apply below_alloc | apply pw_below_drewN | apply below_drew1 | refine below_set ?_ GE378.out) | exact HB.out)⟩⟩
                ·rw [if_neg c38] at H
                 exact Bool.noConfusion ((Option.some.inj H).trans HRT.out)
               ·rw [if_neg c37] at H
                exact absurd H (by simp)
              ·rw [if_neg c36] at H
               exact absurd H (by simp)
             ·rw [if_neg c34] at H
              exact absurd H (by simp)
            ·rw [if_neg c33] at H
             exact absurd H (by simp)
           ·replace c32 := Bool.eq_false_iff.mpr c32
            subst c32
            have H1 : (laws_FnRunNonPreemptive.l0 kj24 t366 t367 (wrap64 (x6_1 + 1)) t372 t375) = some r := by rw [if_neg (show ¬ (false = true) by decide)] at H; exact H
            clear H
            have H := H1
            clear H1
            have H' := Aside0.mk H
            clear H
            go_wp2
            go_roundg kj24
            case measure => have := HK1.out; have := HK2.out; have := HJ24.out; omega
            case rel => exact ⟨(wrap64 (x6_1 + 1)), (by first | rfl | (simp; done) | (simp [*]; done)), H', ⟨by have := HK1.out; have := HK2.out; have := HJ24.out; omega⟩, ⟨by (with_reducible repeat (first | apply Kd.R_alloc | apply Kd.R_drewN | apply Kd.R_drew)); exact HO_3.out⟩, ⟨by (with_reducible repeat (first | apply Kd.R_alloc | apply Kd.R_drewN | apply Kd.R_drew)); exact HO_4.out⟩, ⟨by (with_reducible repeat (first | apply Kd.R_alloc | apply Kd.R_drewN | apply Kd.R_drew)); exact HO_379000.out⟩, ⟨by (with_reducible repeat (first | apply Kd.R_alloc | apply Kd.R_drewN | apply Kd.R_drew)); exact HO_379001.out⟩, ⟨by (with_reducible repeat (first | refine blk_drewN ?_ _ | refine blk_drew ?_ | refine blk_alloc ?_ _)); exact BK378.out⟩, ⟨by repeat (first | (with_reducible first | exact HB.out | apply below_alloc | apply pw_below_drewN | apply below_drew1 | refine below_set ?_ GE378.out) | exact HB.out)⟩⟩
      ·rw [if_neg c24] at H
       have c24b0 : decide (x6_1 < (t367.length : Int)) = false := decide_eq_false c24
       clear c24
       replace H := Option.bind_eq_some_iff.mp H
       obtain ⟨⟨t391, t394⟩, A410, H⟩ := H
       replace H : (laws_FnRunNonPreemptive.l2 k1 0 t372 t375 t391 t394) = some r := H
       have A41 := Aside0.mk A410
       clear A410
       have H' := Aside0.mk H
       clear H
       go_wp2_with (first | ((with_reducible refine gate_callee (f := 16) rfl ?_); refine goesL_ (some 80) rfl rfl Try.func16 (by kernel_rfl) rfl #[.slice Ao10 t366.length co10, .slice Ao11 t367.length co11] rfl (by (try simp only [List.map_toArray, List.map_cons, List.map_nil]); first | done | rfl | (simp only [List.length_drop, List.length_take]; rfl)) ?_; (with_reducible refine (impl_RunEdf.calls _ _ t366 _ _ t367 t391 t394 _ ?side1 ?side2 ?side3 ?side4 A41.out).mono ?_); (case side1 => repeat (first | exact (Kd.R_reads' HO_3.out).2.2 | (with_reducible refine Kd.C_alloc ?_ _) | (with_reducible refine Kd.C_drewN ?_ _) | (with_reducible refine Kd.C_drew ?_))); (case side2 => exact (Kd.R_reads' HO_3.out).2.1); (case side3 => repeat (first | exact (Kd.R_reads' HO_4.out).2.2 | (with_reducible refine Kd.C_alloc ?_ _) | (with_reducible refine Kd.C_drewN ?_ _) | (with_reducible refine Kd.C_drew ?_))); (case side4 => exact (Kd.R_reads' HO_4.out).2.1); rintro e w42 ⟨v392, v395, rfl, ho0, ho1, hb⟩; refine ⟨_, rfl, ?_⟩; have n0_ := Aside0.mk (Kd.R_below (by (with_reducible repeat (first | apply Kd.R_alloc | apply Kd.R_drewN | apply Kd.R_drew)); exact HO_3.out) hb); have n1_ := Aside0.mk (Kd.R_below (by (with_reducible repeat (first | apply Kd.R_alloc | apply Kd.R_drewN | apply Kd.R_drew)); exact HO_4.out) hb); have n2_ := Aside0.mk (Kd.R_mono (Kd.R_told (Kd.R_told (Kd.R_old (by (with_reducible repeat (first | apply Kd.R_alloc | apply Kd.R_drewN | apply Kd.R_drew)); exact HO_379000.out) hb) (Kd.R_base ho0)) (Kd.R_base ho1)) (fun _ h_ => h_.1)); have n3_ := Aside0.mk (Kd.R_mono (Kd.R_told (Kd.R_told (Kd.R_old (by (with_reducible repeat (first | apply Kd.R_alloc | apply Kd.R_drewN | apply Kd.R_drew)); exact HO_379001.out) hb) (Kd.R_base ho0)) (Kd.R_base ho1)) (fun _ h_ => h_.1)); have n4_ := Aside0.mk (Kd.R_lower (Kd.R_new' (Kd.R_new' ho0 (Kd.R_lt (by (with_reducible repeat (first | apply Kd.R_alloc | apply Kd.R_drewN | apply Kd.R_drew)); exact HO_379000.out))) (Kd.R_lt (by (with_reducible repeat (first | apply Kd.R_alloc | apply Kd.R_drewN | apply Kd.R_drew)); exact HO_379001.out))) (below_size (by repeat (first | (with_reducible first | exact HB.out | apply below_alloc | apply pw_below_drewN | apply below_drew1 | refine below_set ?_ GE378.out) | exact HB.out)))); have n5_ := Aside0.mk (Kd.R_lower (Kd.R_new' (Kd.R_new' ho1 (Kd.R_lt (by (with_reducible repeat (first | apply Kd.R_alloc | apply Kd.R_drewN | apply Kd.R_drew)); exact HO_379000.out))) (Kd.R_lt (by (with_reducible repeat (first | apply Kd.R_alloc | apply Kd.R_drewN | apply Kd.R_drew)); exact HO_379001.out))) (below_size (by repeat (first | (with_reducible first | exact HB.out | apply below_alloc | apply pw_below_drewN | apply below_drew1 | refine below_set ?_ GE378.out) | exact HB.out)))); have n6_ := Aside0.mk (blk_below (g := gb378) (o := .cells #[.slice Ao14 t372.length co14, .slice Ao16 t375.length co16] 29 (0, 0)) (by (with_reducible repeat (first | refine blk_drewN ?_ _ | refine blk_drew ?_ | refine blk_alloc ?_ _)); exact BK378.out) hb); have n7_ := Aside0.mk (below_step (by repeat (first | (with_reducible first | exact HB.out | apply below_alloc | apply pw_below_drewN | apply below_drew1 | refine below_set ?_ GE378.out) | exact HB.out)) hb); clear HO_3; clear HO_4; clear HO_379000; clear HO_379001; clear BK378; clear HB; have HO_3 := n0_; have HO_4 := n1_; have HO_379000 := n2_; have HO_379001 := n3_; have HO393 := n4_; have HO396 := n5_; have BK378 := n6_; have HB := n7_; clear n0_ n1_ n2_ n3_ n4_ n5_ n6_ n7_; (try clear hb); (try clear hb2); (try clear hk); (try clear hi); (try clear ho0); (try clear ho1)) | ((with_reducible refine gate_dst (N := 8) rfl ?_); refine box_event ?hg (N := 8) ?hd (cs := #[.slice none 0 0, .slice none 0 0]) (t := 29) ?hr ?_; (case hd => rfl); (case hg => rfl); (case hr => first | (go_simp; done) | (go_simp; rfl)); intro gb397 hg w43 hbox hb; have n0_ := Aside0.mk (Kd.R_below (by (with_reducible repeat (first | apply Kd.R_alloc | apply Kd.R_drewN | apply Kd.R_drew)); exact HO_3.out) hb); have n1_ := Aside0.mk (Kd.R_below (by (with_reducible repeat (first | apply Kd.R_alloc | apply Kd.R_drewN | apply Kd.R_drew)); exact HO_4.out) hb); have n2_ := Aside0.mk (Kd.R_below (by (with_reducible repeat (first | apply Kd.R_alloc | apply Kd.R_drewN | apply Kd.R_drew)); exact HO_379000.out) hb); have n3_ := Aside0.mk (Kd.R_below (by (with_reducible repeat (first | apply Kd.R_alloc | apply Kd.R_drewN | apply Kd.R_drew)); exact HO_379001.out) hb); have n4_ := Aside0.mk (Kd.R_below (by (with_reducible repeat (first | apply Kd.R_alloc | apply Kd.R_drewN | apply Kd.R_drew)); exact HO393.out) hb); have n5_ := Aside0.mk (Kd.R_below (by (with_reducible repeat (first | apply Kd.R_alloc | apply Kd.R_drewN | apply Kd.R_drew)); exact HO396.out) hb); have n6_ := Aside0.mk (blk_below (g := gb378) (o := .cells #[.slice Ao14 t372.length co14, .slice Ao16 t375.length co16] 29 (0, 0)) (by (with_reducible repeat (first | refine blk_drewN ?_ _ | refine blk_drew ?_ | refine blk_alloc ?_ _)); exact BK378.out) hb); have n7_ := Aside0.mk (below_step (by repeat (first | (with_reducible first | exact HB.out | apply below_alloc | apply pw_below_drewN | apply below_drew1 | refine below_set ?_ GE378.out) | exact HB.out)) hb); have n8_ := Aside0.mk (hbox); have n9_ := Aside0.mk ((by rw [hg]; exact (below_size (by repeat (first | (with_reducible first | exact HB.out | apply below_alloc | apply pw_below_drewN | apply below_drew1 | refine below_set ?_ GE378.out) | exact HB.out))) : w.heap.size ≤ gb397)); have n10_ := Aside0.mk ((by rw [hg]; exact (below_size (by repeat (first | (with_reducible first | exact HB.out | apply below_alloc | apply pw_below_drewN | apply below_drew1 | refine below_set ?_ GE378.out) | exact HB.out))) : w.heap.size ≤ gb397)); have n11_ := Aside0.mk ((by rw [hg]; exact Nat.ne_of_lt (blk_lt (g := gb378) (o := .cells #[.slice Ao14 t372.length co14, .slice Ao16 t375.length co16] 29 (0, 0)) (by (with_reducible repeat (first | refine blk_drewN ?_ _ | refine blk_drew ?_ | refine blk_alloc ?_ _)); exact BK378.out)) : gb378 ≠ gb397)); have n12_ := Aside0.mk ((by rw [hg]; exact Nat.ne_of_gt (blk_lt (g := gb378) (o := .cells #[.slice Ao14 t372.length co14, .slice Ao16 t375.length co16] 29 (0, 0)) (by (with_reducible repeat (first | refine blk_drewN ?_ _ | refine blk_drew ?_ | refine blk_alloc ?_ _)); exact BK378.out)) : gb397 ≠ gb378)); clear HO_3; clear HO_4; clear HO_379000; clear HO_379001; clear HO393; clear HO396; clear BK378; clear HB; have HO_3 := n0_; have HO_4 := n1_; have HO_379000 := n2_; have HO_379001 := n3_; have HO393 := n4_; have HO396 := n5_; have BK378 := n6_; have HB := n7_; have BK397 := n8_; have GW397 := n9_; have GE397 := n10_; have NB378_397 := n11_; have NB397_378 := n12_; clear n0_ n1_ n2_ n3_ n4_ n5_ n6_ n7_ n8_ n9_ n10_ n11_ n12_; clear hb hbox hg; obtain ⟨Ao44, co44, eo44⟩ := Kd.R_slice HO393.out; subst eo44; have hnb45 := NB397_378.out; have hnc45 := NB378_397.out; have hcz46_0 : w43.cell? ⟨gb397, 0, none⟩ = some (.slice none 0 0) := (blk_cell BK397.out 0).trans rfl; have hcz46_1 : w43.cell? ⟨gb397, 1, none⟩ = some (.slice none 0 0) := (blk_cell BK397.out 1).trans rfl; have hfz46_0 := blk_frozen BK397.out 0; have hfz46_1 := blk_frozen BK397.out 1; obtain ⟨Ao47, co47, eo47⟩ := Kd.R_slice HO396.out; subst eo47))
       go_loopg [9] k1 (fun kq v9 w' => ∃ (x9_2 : Int), v9 = .int .i64 x9_2 ∧ Aside0 (laws_FnRunNonPreemptive.l2 kq x9_2 t372 t375 t391 t394 = some r) ∧ Aside0 (kq ≤ k1) ∧ Aside0 (Kd.R (Kd.int .i64) 3 w' w.heap.size (fun k_ => some k_ ≠ ((.slice Ao16 t375.length co16) : Value).ownBlock ∧ some k_ ≠ ((.slice Ao44 t391.length co44) : Value).ownBlock ∧ some k_ ≠ ((.slice Ao47 t394.length co47) : Value).ownBlock) (.slice Ao14 t372.length co14) t372) ∧ Aside0 (Kd.R (Kd.int .i64) 3 w' w.heap.size (fun k_ => some k_ ≠ ((.slice Ao14 t372.length co14) : Value).ownBlock ∧ some k_ ≠ ((.slice Ao44 t391.length co44) : Value).ownBlock ∧ some k_ ≠ ((.slice Ao47 t394.length co47) : Value).ownBlock) (.slice Ao16 t375.length co16) t375) ∧ Aside0 (Kd.R (Kd.int .i64) 3 w' w.heap.size (fun k_ => some k_ ≠ ((.slice Ao14 t372.length co14) : Value).ownBlock ∧ some k_ ≠ ((.slice Ao16 t375.length co16) : Value).ownBlock ∧ some k_ ≠ ((.slice Ao47 t394.length co47) : Value).ownBlock) (.slice Ao44 t391.length co44) t391) ∧ Aside0 (Kd.R (Kd.int .i64) 3 w' w.heap.size (fun k_ => some k_ ≠ ((.slice Ao14 t372.length co14) : Value).ownBlock ∧ some k_ ≠ ((.slice Ao16 t375.length co16) : Value).ownBlock ∧ some k_ ≠ ((.slice Ao44 t391.length co44) : Value).ownBlock) (.slice Ao47 t394.length co47) t394) ∧ Aside0 (w'.heap[gb378]? = some (.cells #[(.slice Ao14 t372.length co14), (.slice Ao16 t375.length co16)] 29 (0, 0))) ∧ Aside0 (w'.heap[gb397]? = some (.cells #[(.slice Ao44 t391.length co44), (.slice Ao47 t394.length co47)] 29 (0, 0))) ∧ Aside0 (Below w.heap.size w w'))
       case atStart => exact ⟨(0), (by first | rfl | (simp; done) | (simp [*]; done)), H', ⟨Nat.le_refl _⟩, ⟨by (with_reducible repeat (first | apply Kd.R_alloc | apply Kd.R_drewN | apply Kd.R_drew)); exact Kd.R_mono (Kd.R_far (p := ⟨gb397, 1, none⟩) (Kd.R_far (p := ⟨gb397, 0, none⟩) (Kd.R_types HO_379000.out BK397.out (by decide)) (fun _ hk => hk.2) (.slice Ao44 t391.length co44)) (fun _ hk => hk.2) (.slice Ao47 t394.length co47)) (fun _ hk => ⟨hk.1.1.1, ⟨hk.1.1.2, hk.1.2⟩⟩)⟩, ⟨by (with_reducible repeat (first | apply Kd.R_alloc | apply Kd.R_drewN | apply Kd.R_drew)); exact Kd.R_mono (Kd.R_far (p := ⟨gb397, 1, none⟩) (Kd.R_far (p := ⟨gb397, 0, none⟩) (Kd.R_types HO_379001.out BK397.out (by decide)) (fun _ hk => hk.2) (.slice Ao44 t391.length co44)) (fun _ hk => hk.2) (.slice Ao47 t394.length co47)) (fun _ hk => ⟨hk.1.1.1, ⟨hk.1.1.2, hk.1.2⟩⟩)⟩, ⟨by (with_reducible repeat (first | apply Kd.R_alloc | apply Kd.R_drewN | apply Kd.R_drew)); exact Kd.R_mono (Kd.R_far (p := ⟨gb397, 1, none⟩) (Kd.R_far (p := ⟨gb397, 0, none⟩) (Kd.R_types HO393.out BK397.out (by decide)) (fun _ hk => hk.2) (.slice Ao44 t391.length co44)) (fun _ hk => hk.2) (.slice Ao47 t394.length co47)) (fun _ hk => ⟨hk.1.1.2, ⟨hk.1.2, hk.1.1.1⟩⟩)⟩, ⟨by (with_reducible repeat (first | apply Kd.R_alloc | apply Kd.R_drewN | apply Kd.R_drew)); exact Kd.R_mono (Kd.R_far (p := ⟨gb397, 1, none⟩) (Kd.R_far (p := ⟨gb397, 0, none⟩) (Kd.R_types HO396.out BK397.out (by decide)) (fun _ hk => hk.2) (.slice Ao44 t391.length co44)) (fun _ hk => hk.2) (.slice Ao47 t394.length co47)) (fun _ hk => ⟨hk.1.1.2, ⟨hk.1.2, hk.1.1.1⟩⟩)⟩, ⟨by (with_reducible repeat (first | refine blk_drewN ?_ _ | refine blk_drew ?_ | refine blk_alloc ?_ _)); refine blk_far ?_ NB378_397.out _; (with_reducible repeat (first | refine blk_drewN ?_ _ | refine blk_drew ?_ | refine blk_alloc ?_ _)); refine blk_far ?_ NB378_397.out _; (with_reducible repeat (first | refine blk_drewN ?_ _ | refine blk_drew ?_ | refine blk_alloc ?_ _)); exact BK378.out⟩, ⟨by (with_reducible repeat (first | refine blk_drewN ?_ _ | refine blk_drew ?_ | refine blk_alloc ?_ _)); refine blk_put (cs := #[.slice Ao44 t391.length co44, .slice none 0 0]) ?_ 1 _ rfl; (with_reducible repeat (first | refine blk_drewN ?_ _ | refine blk_drew ?_ | refine blk_alloc ?_ _)); refine blk_put (cs := #[.slice none 0 0, .slice none 0 0]) ?_ 0 _ rfl; (with_reducible repeat (first | refine blk_drewN ?_ _ | refine blk_drew ?_ | refine blk_alloc ?_ _)); exact BK397.out⟩, ⟨by repeat (first | (with_reducible first | exact HB.out | apply below_alloc | apply pw_below_drewN | apply below_drew1 | refine below_set ?_ GE378.out | refine below_set ?_ GE397.out) | exact HB.out)⟩⟩
       case round =>
        clear H'
        try clear c1
        try clear c2
        try clear c2b0
        try clear c2b1
        try clear p2
        try clear c3
        try clear p3
        try clear q3
        try clear hx3
        try clear c4
        try clear p6
        try clear c7
        try clear c8
        try clear c8b0
        try clear c8b1
        try clear c11
        try clear c12
        try clear c13
        try clear c14
        try clear c16
        try clear c24
        try clear c24b0
        try clear c26
        try clear c26b0
        try clear c27
        try clear c27b0
        try clear c28
        try clear c28b0
        try clear c29
        try clear c29b0
        try clear c32
        try clear c33
        try clear c33b0
        try clear c34
        try clear c34b0
        try clear c36
        try clear c36b0
        try clear c37
        try clear c37b0
        try clear c38
        try clear c38b0
        try clear c38b1
        try clear p38
        try clear q38
        try clear hx38
        try clear p39
        try clear q39
        try clear hx39
        try clear c45
        try clear hcz15_0
        try clear hcz15_1
        try clear hcz23_0
        try clear hcz23_1
        try clear hcz30_0
        try clear hcz30_1
        try clear hcz31_0
        try clear hcz31_1
        try clear hcz46_0
        try clear hcz46_1
        try clear hfz15_0
        try clear hfz15_1
        try clear hfz23_0
        try clear hfz23_1
        try clear hfz30_0
        try clear hfz30_1
        try clear hfz31_0
        try clear hfz31_1
        try clear hfz46_0
        try clear hfz46_1
        try clear hx387_0
        try clear hx388_0
        try clear hx388_1
        try clear hx388_2
        try clear hx388_3
        try clear hx389_0
        try clear hx390_0
        try clear p2
        try clear p3
        try clear p387
        try clear p388
        try clear p389
        try clear p390
        try clear p6
        try clear q3
        try clear q387
        try clear q388
        try clear q389
        try clear q390
        obtain ⟨x9_2, rfl, HA, HK2, HO_379000, HO_379001, HO_398000, HO_398001, BK378, BK397, HB⟩ := hrel
        cases gk with
        | zero => exact absurd HA.out (by simp [laws_FnRunNonPreemptive.l2])
        | succ k2 =>
         have H := HA.out
         clear HA
         simp only [laws_FnRunNonPreemptive.l2] at H
         by_cases c48 : x9_2 < 120
         ·rw [if_pos c48] at H
          have c48b0 : decide (x9_2 < 120) = true := decide_eq_true c48
          clear c48
          by_cases c49 : 0 ≤ x9_2
          ·rw [if_pos c49] at H
           have c49b0 : decide (0 ≤ x9_2) = true := decide_eq_true c49
           clear c49
           by_cases c50 : x9_2 < (t372.length : Int)
           ·rw [if_pos c50] at H
            have c50b0 : decide (x9_2 < (t372.length : Int)) = true := decide_eq_true c50
            clear c50
            by_cases c51 : x9_2 < (t391.length : Int)
            ·rw [if_pos c51] at H
             have c51b0 : decide (x9_2 < (t391.length : Int)) = true := decide_eq_true c51
             clear c51
             by_cases c52 : ((decide ((rd t372 x9_2) < 0)) != (decide ((rd t391 x9_2) < 0))) = true
             ·rw [if_pos c52] at H
              have c52b0 : ((decide ((rd t372 x9_2) < 0)) != (decide ((rd t391 x9_2) < 0))) = true := c52
              (try (have c52b1 : decide ((decide ((rd t372 x9_2) < 0)) = (decide ((rd t391 x9_2) < 0))) = false := by simpa using c52))
              (try (have c52b2 : ((decide ((rd t372 x9_2) < 0)) == (decide ((rd t391 x9_2) < 0))) = false := by simpa using c52))
              (try (have c52b3 : ¬ ((decide ((rd t372 x9_2) < 0)) = (decide ((rd t391 x9_2) < 0))) := by simpa using c52))
              clear c52
              obtain rfl := Option.some.inj H
              try go_wp2
              have n0_ := Aside0.mk (Kd.R_drew HO_379000.out)
              have n1_ := Aside0.mk (Kd.R_drew HO_379001.out)
              have n2_ := Aside0.mk (Kd.R_drew HO_398000.out)
              have n3_ := Aside0.mk (Kd.R_drew HO_398001.out)
              have n4_ := Aside0.mk (blk_drew BK378.out)
              have n5_ := Aside0.mk (blk_drew BK397.out)
              have n6_ := Aside0.mk (below_drew1 HB.out)
              clear HO_379000
              clear HO_379001
              clear HO_398000
              clear HO_398001
              clear BK378
              clear BK397
              clear HB
              have HO_379000 := n0_
              have HO_379001 := n1_
              have HO_398000 := n2_
              have HO_398001 := n3_
              have BK378 := n4_
              have BK397 := n5_
              have HB := n6_
              clear n0_ n1_ n2_ n3_ n4_ n5_ n6_
              have p398 : 0 ≤ (x9_2 : Int) := of_decide_eq_true (by first | (with_reducible assumption) | assumption)
              have q398 : x9_2 < (t372.length : Int) := of_decide_eq_true (by first | (with_reducible assumption) | assumption)
              obtain ⟨ad398, e398, hx398_0⟩ := Kd.at_int (Kd.R_reads' HO_379000.out).2.2 x9_2 p398 q398
              cases e398
              replace p398 := eq_true p398
              replace q398 := eq_true q398
              have p399 : 0 ≤ (x9_2 : Int) := of_decide_eq_true (by first | (with_reducible assumption) | assumption)
              have q399 : x9_2 < (t391.length : Int) := of_decide_eq_true (by first | (with_reducible assumption) | assumption)
              obtain ⟨ad399, e399, hx399_0⟩ := Kd.at_int (Kd.R_reads' HO_398000.out).2.2 x9_2 p399 q399
              cases e399
              replace p399 := eq_true p399
              replace q399 := eq_true q399
              refine start_ (n := 13) (S := fun w' => w'.cell? ⟨gb378, 0, none⟩ = some (.slice (some ad398) t372.length co14) ∧ w'.cell? ⟨gb378, 1, none⟩ = some (.slice Ao16 t375.length co16) ∧ w'.cell? ⟨gb397, 0, none⟩ = some (.slice (some ad399) t391.length co44) ∧ w'.cell? ⟨gb397, 1, none⟩ = some (.slice Ao47 t394.length co47) ∧ w'.cell? (ad398.add (x9_2).toNat) = some (.int .i64 (rd t372 x9_2)) ∧ w'.cell? (ad399.add (x9_2).toNat) = some (.int .i64 (rd t391 x9_2))) (ds := []) #[false, false, false, false, false, false, false, false, false, false, false, false, false] (by kernel_rfl) rfl rfl ⟨(blk_cell BK378.out 0).trans rfl, (blk_cell BK378.out 1).trans rfl, (blk_cell BK397.out 0).trans rfl, (blk_cell BK397.out 1).trans rfl, hx398_0, hx399_0⟩ (fun hHeld => ?_); refine with_tabW laws_FnRunNonPreemptive.tab21 laws_FnRunNonPreemptive.bits21 (fun HT_ HW_ => ?_)
              generalize wr.drew = w53 at HO_379000 HO_379001 HO_398000 HO_398001 BK378 BK397 HB hx398_0 hx399_0 hHeld ⊢
              refine pure_ (i := 0) (N := some 85) (v := ?_) (a' := ?_) #[true, false, false, false, false, false, false, false, false, false, false, false, false] rfl rfl (any_of HT_.out (by kernel_rfl)) (fun _ _ _ h => h) (Or.inl ⟨by rfl, ?_⟩) ?_ ?_
              rotate_left
              ·intro w'
               go_simp
               with_reducible rfl
              rotate_left
              ·simp only [Act.put, List.setIfInBounds_toArray, List.set_cons_zero, List.set_cons_succ, i64_w, i32_w]
               rfl
              refine pure_ (i := 2) (N := some 87) (v := ?_) (a' := ?_) #[true, false, true, false, false, false, false, false, false, false, false, false, false] rfl rfl (any_of HT_.out (by kernel_rfl)) (fun _ _ _ h => h) (Or.inl ⟨by rfl, ?_⟩) ?_ ?_
              rotate_left
              ·intro w'
               go_simp
               with_reducible rfl
              rotate_left
              ·simp only [Act.put, List.setIfInBounds_toArray, List.set_cons_zero, List.set_cons_succ, i64_w, i32_w]
               rfl
              refine pure_ (i := 6) (N := some 91) (v := ?_) (a' := ?_) #[true, false, true, false, false, false, true, false, false, false, false, false, false] rfl rfl (any_of HT_.out (by kernel_rfl)) (fun _ _ _ h => h) (Or.inl ⟨by rfl, ?_⟩) ?_ ?_
              rotate_left
              ·intro w'
               go_simp
               with_reducible rfl
              rotate_left
              ·simp only [Act.put, List.setIfInBounds_toArray, List.set_cons_zero, List.set_cons_succ, i64_w, i32_w]
               rfl
              refine pure_ (i := 8) (N := some 93) (v := ?_) (a' := ?_) #[true, false, true, false, false, false, true, false, true, false, false, false, false] rfl rfl (any_of HT_.out (by kernel_rfl)) (fun _ _ _ h => h) (Or.inl ⟨by rfl, ?_⟩) ?_ ?_
              rotate_left
              ·intro w'
               go_simp
               with_reducible rfl
              rotate_left
              ·simp only [Act.put, List.setIfInBounds_toArray, List.set_cons_zero, List.set_cons_succ, i64_w, i32_w]
               rfl
              refine take_ (i := 1) (N := some 86) (v := ?_) (a' := ?_) #[true, true, true, false, false, false, true, false, true, false, false, false, false] rfl rfl (take_ofW HT_.out HW_.out (by kernel_rfl)) (fun _ _ _ h => h) (Or.inl ⟨by rfl, ?_⟩) hHeld ?_ ?_
              rotate_left
              ·rintro w' ⟨s0, s1, s2, s3, s4, s5⟩
               go_simp
               with_reducible rfl
              rotate_left
              ·simp only [Act.put, List.setIfInBounds_toArray, List.set_cons_zero, List.set_cons_succ, i64_w, i32_w]
               rfl
              refine pure_ (i := 3) (N := some 88) (v := ?_) (a' := ?_) #[true, true, true, true, false, false, true, false, true, false, false, false, false] rfl rfl (any_of HT_.out (by kernel_rfl)) (fun _ _ _ h => h) (Or.inl ⟨by rfl, ?_⟩) ?_ ?_
              rotate_left
              ·intro w'
               go_simp
               with_reducible rfl
              rotate_left
              ·simp only [Act.put, List.setIfInBounds_toArray, List.set_cons_zero, List.set_cons_succ, i64_w, i32_w]
               rfl
              refine take_ (i := 4) (N := some 89) (v := ?_) (a' := ?_) #[true, true, true, true, true, false, true, false, true, false, false, false, false] rfl rfl (take_ofW HT_.out HW_.out (by kernel_rfl)) (fun _ _ _ h => h) (Or.inl ⟨by rfl, ?_⟩) hHeld ?_ ?_
              rotate_left
              ·rintro w' ⟨s0, s1, s2, s3, s4, s5⟩
               go_simp
               with_reducible rfl
              rotate_left
              ·simp only [Act.put, List.setIfInBounds_toArray, List.set_cons_zero, List.set_cons_succ, i64_w, i32_w]
               rfl
              refine pure_ (i := 5) (N := some 90) (v := ?_) (a' := ?_) #[true, true, true, true, true, true, true, false, true, false, false, false, false] rfl rfl (any_of HT_.out (by kernel_rfl)) (fun _ _ _ h => h) (Or.inl ⟨by rfl, ?_⟩) ?_ ?_
              rotate_left
              ·intro w'
               go_simp
               with_reducible rfl
              rotate_left
              ·simp only [Act.put, List.setIfInBounds_toArray, List.set_cons_zero, List.set_cons_succ, i64_w, i32_w]
               rfl
              refine take_ (i := 7) (N := some 92) (v := ?_) (a' := ?_) #[true, true, true, true, true, true, true, true, true, false, false, false, false] rfl rfl (take_ofW HT_.out HW_.out (by kernel_rfl)) (fun _ _ _ h => h) (Or.inl ⟨by rfl, ?_⟩) hHeld ?_ ?_
              rotate_left
              ·rintro w' ⟨s0, s1, s2, s3, s4, s5⟩
               go_simp
               with_reducible rfl
              rotate_left
              ·simp only [Act.put, List.setIfInBounds_toArray, List.set_cons_zero, List.set_cons_succ, i64_w, i32_w]
               rfl
              refine pure_ (i := 9) (N := some 94) (v := ?_) (a' := ?_) #[true, true, true, true, true, true, true, true, true, true, false, false, false] rfl rfl (any_of HT_.out (by kernel_rfl)) (fun _ _ _ h => h) (Or.inl ⟨by rfl, ?_⟩) ?_ ?_
              rotate_left
              ·intro w'
               go_simp
               with_reducible rfl
              rotate_left
              ·simp only [Act.put, List.setIfInBounds_toArray, List.set_cons_zero, List.set_cons_succ, i64_w, i32_w]
               rfl
              refine take_ (i := 10) (N := some 95) (v := ?_) (a' := ?_) #[true, true, true, true, true, true, true, true, true, true, true, false, false] rfl rfl (take_ofW HT_.out HW_.out (by kernel_rfl)) (fun _ _ _ h => h) (Or.inl ⟨by rfl, ?_⟩) hHeld ?_ ?_
              rotate_left
              ·rintro w' ⟨s0, s1, s2, s3, s4, s5⟩
               go_simp
               with_reducible rfl
              rotate_left
              ·simp only [Act.put, List.setIfInBounds_toArray, List.set_cons_zero, List.set_cons_succ, i64_w, i32_w]
               rfl
              refine pure_ (i := 11) (N := some 96) (v := ?_) (a' := ?_) #[true, true, true, true, true, true, true, true, true, true, true, true, false] rfl rfl (any_of HT_.out (by kernel_rfl)) (fun _ _ _ h => h) (Or.inl ⟨by rfl, ?_⟩) ?_ ?_
              rotate_left
              ·intro w'
               go_simp
               with_reducible rfl
              rotate_left
              ·simp only [Act.put, List.setIfInBounds_toArray, List.set_cons_zero, List.set_cons_succ, i64_w, i32_w]
               rfl
              refine pure_ (i := 12) (N := some 97) (v := ?_) (a' := ?_) #[true, true, true, true, true, true, true, true, true, true, true, true, true] rfl rfl (any_of HT_.out (by kernel_rfl)) (fun _ _ _ h => h) (Or.inl ⟨by rfl, ?_⟩) ?_ ?_
              rotate_left
              ·intro w'
               go_simp
               with_reducible rfl
              rotate_left
              ·simp only [Act.put, List.setIfInBounds_toArray, List.set_cons_zero, List.set_cons_succ, i64_w, i32_w]
               rfl
              refine done_ (done_of HT_.out (by kernel_rfl)) ?_
              try go_wp2
              go_ret
              exact ⟨by first | rfl | (simp [errW_none, errW_some] <;> rfl) | (simp [*, errW_none, errW_some] <;> rfl), by repeat (first | (with_reducible first | exact HB.out | apply below_alloc | apply pw_below_drewN | apply below_drew1 | refine below_set ?_ GE378.out | refine below_set ?_ GE397.out) | exact HB.out)⟩
             ·rw [if_neg c52] at H
              have c52b0 : ((decide ((rd t372 x9_2) < 0)) != (decide ((rd t391 x9_2) < 0))) = false := by simpa using c52
              (try (have c52b1 : decide ((decide ((rd t372 x9_2) < 0)) = (decide ((rd t391 x9_2) < 0))) = true := by simpa using c52))
              (try (have c52b2 : ((decide ((rd t372 x9_2) < 0)) == (decide ((rd t391 x9_2) < 0))) = true := by simpa using c52))
              clear c52
              have H' := Aside0.mk H
              clear H
              try go_wp2
              have n0_ := Aside0.mk (Kd.R_drew HO_379000.out)
              have n1_ := Aside0.mk (Kd.R_drew HO_379001.out)
              have n2_ := Aside0.mk (Kd.R_drew HO_398000.out)
              have n3_ := Aside0.mk (Kd.R_drew HO_398001.out)
              have n4_ := Aside0.mk (blk_drew BK378.out)
              have n5_ := Aside0.mk (blk_drew BK397.out)
              have n6_ := Aside0.mk (below_drew1 HB.out)
              clear HO_379000
              clear HO_379001
              clear HO_398000
              clear HO_398001
              clear BK378
              clear BK397
              clear HB
              have HO_379000 := n0_
              have HO_379001 := n1_
              have HO_398000 := n2_
              have HO_398001 := n3_
              have BK378 := n4_
              have BK397 := n5_
              have HB := n6_
              clear n0_ n1_ n2_ n3_ n4_ n5_ n6_
              have p398 : 0 ≤ (x9_2 : Int) := of_decide_eq_true (by first | (with_reducible assumption) | assumption)
              have q398 : x9_2 < (t372.length : Int) := of_decide_eq_true (by first | (with_reducible assumption) | assumption)
              obtain ⟨ad398, e398, hx398_0⟩ := Kd.at_int (Kd.R_reads' HO_379000.out).2.2 x9_2 p398 q398
              cases e398
              replace p398 := eq_true p398
              replace q398 := eq_true q398
              have p399 : 0 ≤ (x9_2 : Int) := of_decide_eq_true (by first | (with_reducible assumption) | assumption)
              have q399 : x9_2 < (t391.length : Int) := of_decide_eq_true (by first | (with_reducible assumption) | assumption)
              obtain ⟨ad399, e399, hx399_0⟩ := Kd.at_int (Kd.R_reads' HO_398000.out).2.2 x9_2 p399 q399
              cases e399
              replace p399 := eq_true p399
              replace q399 := eq_true q399
              refine start_ (n := 13) (S := fun w' => w'.cell? ⟨gb378, 0, none⟩ = some (.slice (some ad398) t372.length co14) ∧ w'.cell? ⟨gb378, 1, none⟩ = some (.slice Ao16 t375.length co16) ∧ w'.cell? ⟨gb397, 0, none⟩ = some (.slice (some ad399) t391.length co44) ∧ w'.cell? ⟨gb397, 1, none⟩ = some (.slice Ao47 t394.length co47) ∧ w'.cell? (ad398.add (x9_2).toNat) = some (.int .i64 (rd t372 x9_2)) ∧ w'.cell? (ad399.add (x9_2).toNat) = some (.int .i64 (rd t391 x9_2))) (ds := []) #[false, false, false, false, false, false, false, false, false, false, false, false, false] (by kernel_rfl) rfl rfl ⟨(blk_cell BK378.out 0).trans rfl, (blk_cell BK378.out 1).trans rfl, (blk_cell BK397.out 0).trans rfl, (blk_cell BK397.out 1).trans rfl, hx398_0, hx399_0⟩ (fun hHeld => ?_); refine with_tabW laws_FnRunNonPreemptive.tab21 laws_FnRunNonPreemptive.bits21 (fun HT_ HW_ => ?_)
              generalize wr.drew = w54 at HO_379000 HO_379001 HO_398000 HO_398001 BK378 BK397 HB hx398_0 hx399_0 hHeld ⊢
              refine pure_ (i := 0) (N := some 85) (v := ?_) (a' := ?_) #[true, false, false, false, false, false, false, false, false, false, false, false, false] rfl rfl (any_of HT_.out (by kernel_rfl)) (fun _ _ _ h => h) (Or.inl ⟨by rfl, ?_⟩) ?_ ?_
              rotate_left
              ·intro w'
               go_simp
               with_reducible rfl
              rotate_left
              ·simp only [Act.put, List.setIfInBounds_toArray, List.set_cons_zero, List.set_cons_succ, i64_w, i32_w]
               rfl
              refine pure_ (i := 2) (N := some 87) (v := ?_) (a' := ?_) #[true, false, true, false, false, false, false, false, false, false, false, false, false] rfl rfl (any_of HT_.out (by kernel_rfl)) (fun _ _ _ h => h) (Or.inl ⟨by rfl, ?_⟩) ?_ ?_
              rotate_left
              ·intro w'
               go_simp
               with_reducible rfl
              rotate_left
              ·simp only [Act.put, List.setIfInBounds_toArray, List.set_cons_zero, List.set_cons_succ, i64_w, i32_w]
               rfl
              refine pure_ (i := 6) (N := some 91) (v := ?_) (a' := ?_) #[true, false, true, false, false, false, true, false, false, false, false, false, false] rfl rfl (any_of HT_.out (by kernel_rfl)) (fun _ _ _ h => h) (Or.inl ⟨by rfl, ?_⟩) ?_ ?_
              rotate_left
              ·intro w'
               go_simp
               with_reducible rfl
              rotate_left
              ·simp only [Act.put, List.setIfInBounds_toArray, List.set_cons_zero, List.set_cons_succ, i64_w, i32_w]
               rfl
              refine pure_ (i := 8) (N := some 93) (v := ?_) (a' := ?_) #[true, false, true, false, false, false, true, false, true, false, false, false, false] rfl rfl (any_of HT_.out (by kernel_rfl)) (fun _ _ _ h => h) (Or.inl ⟨by rfl, ?_⟩) ?_ ?_
              rotate_left
              ·intro w'
               go_simp
               with_reducible rfl
              rotate_left
              ·simp only [Act.put, List.setIfInBounds_toArray, List.set_cons_zero, List.set_cons_succ, i64_w, i32_w]
               rfl
              refine take_ (i := 1) (N := some 86) (v := ?_) (a' := ?_) #[true, true, true, false, false, false, true, false, true, false, false, false, false] rfl rfl (take_ofW HT_.out HW_.out (by kernel_rfl)) (fun _ _ _ h => h) (Or.inl ⟨by rfl, ?_⟩) hHeld ?_ ?_
              rotate_left
              ·rintro w' ⟨s0, s1, s2, s3, s4, s5⟩
               go_simp
               with_reducible rfl
              rotate_left
              ·simp only [Act.put, List.setIfInBounds_toArray, List.set_cons_zero, List.set_cons_succ, i64_w, i32_w]
               rfl
              refine pure_ (i := 3) (N := some 88) (v := ?_) (a' := ?_) #[true, true, true, true, false, false, true, false, true, false, false, false, false] rfl rfl (any_of HT_.out (by kernel_rfl)) (fun _ _ _ h => h) (Or.inl ⟨by rfl, ?_⟩) ?_ ?_
              rotate_left
              ·intro w'
               go_simp
               with_reducible rfl
              rotate_left
              ·simp only [Act.put, List.setIfInBounds_toArray, List.set_cons_zero, List.set_cons_succ, i64_w, i32_w]
               rfl
              refine take_ (i := 4) (N := some 89) (v := ?_) (a' := ?_) #[true, true, true, true, true, false, true, false, true, false, false, false, false] rfl rfl (take_ofW HT_.out HW_.out (by kernel_rfl)) (fun _ _ _ h => h) (Or.inl ⟨by rfl, ?_⟩) hHeld ?_ ?_
              rotate_left
              ·rintro w' ⟨s0, s1, s2, s3, s4, s5⟩
               go_simp
               with_reducible rfl
              rotate_left
              ·simp only [Act.put, List.setIfInBounds_toArray, List.set_cons_zero, List.set_cons_succ, i64_w, i32_w]
               rfl
              refine pure_ (i := 5) (N := some 90) (v := ?_) (a' := ?_) #[true, true, true, true, true, true, true, false, true, false, false, false, false] rfl rfl (any_of HT_.out (by kernel_rfl)) (fun _ _ _ h => h) (Or.inl ⟨by rfl, ?_⟩) ?_ ?_
              rotate_left
              ·intro w'
               go_simp
               with_reducible rfl
              rotate_left
              ·simp only [Act.put, List.setIfInBounds_toArray, List.set_cons_zero, List.set_cons_succ, i64_w, i32_w]
               rfl
              refine take_ (i := 7) (N := some 92) (v := ?_) (a' := ?_) #[true, true, true, true, true, true, true, true, true, false, false, false, false] rfl rfl (take_ofW HT_.out HW_.out (by kernel_rfl)) (fun _ _ _ h => h) (Or.inl ⟨by rfl, ?_⟩) hHeld ?_ ?_
              rotate_left
              ·rintro w' ⟨s0, s1, s2, s3, s4, s5⟩
               go_simp
               with_reducible rfl
              rotate_left
              ·simp only [Act.put, List.setIfInBounds_toArray, List.set_cons_zero, List.set_cons_succ, i64_w, i32_w]
               rfl
              refine pure_ (i := 9) (N := some 94) (v := ?_) (a' := ?_) #[true, true, true, true, true, true, true, true, true, true, false, false, false] rfl rfl (any_of HT_.out (by kernel_rfl)) (fun _ _ _ h => h) (Or.inl ⟨by rfl, ?_⟩) ?_ ?_
              rotate_left
              ·intro w'
               go_simp
               with_reducible rfl
              rotate_left
              ·simp only [Act.put, List.setIfInBounds_toArray, List.set_cons_zero, List.set_cons_succ, i64_w, i32_w]
               rfl
              refine take_ (i := 10) (N := some 95) (v := ?_) (a' := ?_) #[true, true, true, true, true, true, true, true, true, true, true, false, false] rfl rfl (take_ofW HT_.out HW_.out (by kernel_rfl)) (fun _ _ _ h => h) (Or.inl ⟨by rfl, ?_⟩) hHeld ?_ ?_
              rotate_left
              ·rintro w' ⟨s0, s1, s2, s3, s4, s5⟩
               go_simp
               with_reducible rfl
              rotate_left
              ·simp only [Act.put, List.setIfInBounds_toArray, List.set_cons_zero, List.set_cons_succ, i64_w, i32_w]
               rfl
              refine pure_ (i := 11) (N := some 96) (v := ?_) (a' := ?_) #[true, true, true, true, true, true, true, true, true, true, true, true, false] rfl rfl (any_of HT_.out (by kernel_rfl)) (fun _ _ _ h => h) (Or.inl ⟨by rfl, ?_⟩) ?_ ?_
              rotate_left
              ·intro w'
               go_simp
               with_reducible rfl
              rotate_left
              ·simp only [Act.put, List.setIfInBounds_toArray, List.set_cons_zero, List.set_cons_succ, i64_w, i32_w]
               rfl
              refine pure_ (i := 12) (N := some 97) (v := ?_) (a' := ?_) #[true, true, true, true, true, true, true, true, true, true, true, true, true] rfl rfl (any_of HT_.out (by kernel_rfl)) (fun _ _ _ h => h) (Or.inl ⟨by rfl, ?_⟩) ?_ ?_
              rotate_left
              ·intro w'
               go_simp
               with_reducible rfl
              rotate_left
              ·simp only [Act.put, List.setIfInBounds_toArray, List.set_cons_zero, List.set_cons_succ, i64_w, i32_w]
               rfl
              refine done_ (done_of HT_.out (by kernel_rfl)) ?_
              try go_wp2
              go_roundg k2
              case measure => have := HK1.out; have := HK2.out; omega
              case rel => exact ⟨(wrap64 (x9_2 + 1)), (by first | rfl | (simp; done) | (simp [*]; done)), H', ⟨by have := HK1.out; have := HK2.out; omega⟩, ⟨by (with_reducible repeat (first | apply Kd.R_alloc | apply Kd.R_drewN | apply Kd.R_drew)); exact HO_379000.out⟩, ⟨by (with_reducible repeat (first | apply Kd.R_alloc | apply Kd.R_drewN | apply Kd.R_drew)); exact HO_379001.out⟩, ⟨by (with_reducible repeat (first | apply Kd.R_alloc | apply Kd.R_drewN | apply Kd.R_drew)); exact HO_398000.out⟩, ⟨by (with_reducible repeat (first | apply Kd.R_alloc | apply Kd.R_drewN | apply Kd.R_drew)); exact HO_398001.out⟩, ⟨by (with_reducible repeat (first | refine blk_drewN ?_ _ | refine blk_drew ?_ | refine blk_alloc ?_ _)); exact BK378.out⟩, ⟨by (with_reducible repeat (first | refine blk_drewN ?_ _ | refine blk_drew ?_ | refine blk_alloc ?_ _)); exact BK397.out⟩, ⟨by repeat (first | (with_reducible first | exact HB.out | apply below_alloc | apply pw_below_drewN | apply below_drew1 | refine below_set ?_ GE378.out | refine below_set ?_ GE397.out) | exact HB.out)⟩⟩
            ·rw [if_neg c51] at H
             exact absurd H (by simp)
           ·rw [if_neg c50] at H
            exact absurd H (by simp)
          ·rw [if_neg c49] at H
           exact absurd H (by simp)
         ·rw [if_neg c48] at H
          have c48b0 : decide (x9_2 < 120) = false := decide_eq_false c48
          clear c48
          obtain rfl := Option.some.inj H
          go_wp2
          go_ret
          exact ⟨by first | rfl | (simp [errW_none, errW_some] <;> rfl) | (simp [*, errW_none, errW_some] <;> rfl), by repeat (first | (with_reducible first | exact HB.out | apply below_alloc | apply pw_below_drewN | apply below_drew1 | refine below_set ?_ GE378.out | refine below_set ?_ GE397.out) | exact HB.out)⟩
   ·rw [if_neg c8] at H
    have c8b0 : ((t372.length : Int) == 120) = false := beq_eq_false_iff_ne.mpr c8
    have c8b1 : ((t372.length : Int) != 120) = true := bne_iff_ne.mpr c8
    by_cases c55 : (wrap64 ((t372.length : Int) + (t375.length : Int))) = 0
    ·rw [if_pos c55] at H
     have c55b0 : ((wrap64 ((t372.length : Int) + (t375.length : Int))) == 0) = true := beq_iff_eq.mpr c55
     have c55b1 : ((wrap64 ((t372.length : Int) + (t375.length : Int))) != 0) = false := bne_eq_false_iff_eq.mpr c55
     clear c55
     replace H := Option.bind_eq_some_iff.mp H
     obtain ⟨t386, A560, H⟩ := H
     replace H : (some t386) = some r := H
     have A56 := Aside0.mk A560
     clear A560
     obtain rfl := Option.some.inj H
     go_enter Try.func3, Try.ntmps3
     try go_wp2_with (first | ((with_reducible refine gate_callee (f := 11) rfl ?_); refine goesL_ (some 15) rfl rfl Try.func11 (by kernel_rfl) rfl #[.slice A0 l0.length c0] rfl (by (try simp only [List.map_toArray, List.map_cons, List.map_nil]); first | done | rfl | (simp only [List.length_drop, List.length_take]; rfl)) ?_; (with_reducible refine (spec_DrawRunNonPreemptive.calls k _ _ l0 t366 t367 _ ?side1 ?side2 A3.out).mono ?_); (case side1 => repeat (first | exact HR0.out | (with_reducible refine Kd.C_alloc ?_ _) | (with_reducible refine Kd.C_drewN ?_ _) | (with_reducible refine Kd.C_drew ?_))); (case side2 => exact HC0.out); rintro e w57 ⟨v368, v370, rfl, ho0, ho1, hb⟩; refine ⟨_, rfl, ?_⟩; have n0_ := Aside0.mk (Kd.R_lower ho0 (below_size (by repeat (first | (with_reducible first | exact HB.out | apply below_alloc | apply pw_below_drewN | apply below_drew1) | exact HB.out)))); have n1_ := Aside0.mk (Kd.R_lower ho1 (below_size (by repeat (first | (with_reducible first | exact HB.out | apply below_alloc | apply pw_below_drewN | apply below_drew1) | exact HB.out)))); have n2_ := Aside0.mk (below_step (by repeat (first | (with_reducible first | exact HB.out | apply below_alloc | apply pw_below_drewN | apply below_drew1) | exact HB.out)) hb); clear HB; have HO369 := n0_; have HO371 := n1_; have HB := n2_; clear n0_ n1_ n2_; (try clear hb); (try clear hb2); (try clear hk); (try clear hi); (try clear ho0); (try clear ho1); obtain ⟨Ao58, co58, eo58⟩ := Kd.R_slice HO369.out; subst eo58; obtain ⟨Ao59, co59, eo59⟩ := Kd.R_slice HO371.out; subst eo59) | ((with_reducible refine gate_callee (f := 12) rfl ?_); refine goesL_ (some 20) rfl rfl Try.func12 (by kernel_rfl) rfl #[.slice Ao58 t366.length co58, .slice Ao59 t367.length co59] rfl (by (try simp only [List.map_toArray, List.map_cons, List.map_nil]); first | done | rfl | (simp only [List.length_drop, List.length_take]; rfl)) ?_; (with_reducible refine (impl_RunNonPreemptive.calls _ _ t366 _ _ t367 t372 t375 _ ?side1 ?side2 ?side3 ?side4 A4.out).mono ?_); (case side1 => repeat (first | exact (Kd.R_reads' HO369.out).2.2 | (with_reducible refine Kd.C_alloc ?_ _) | (with_reducible refine Kd.C_drewN ?_ _) | (with_reducible refine Kd.C_drew ?_))); (case side2 => exact (Kd.R_reads' HO369.out).2.1); (case side3 => repeat (first | exact (Kd.R_reads' HO371.out).2.2 | (with_reducible refine Kd.C_alloc ?_ _) | (with_reducible refine Kd.C_drewN ?_ _) | (with_reducible refine Kd.C_drew ?_))); (case side4 => exact (Kd.R_reads' HO371.out).2.1); rintro e w60 ⟨v373, v376, rfl, ho0, ho1, hb⟩; refine ⟨_, rfl, ?_⟩; have n0_ := Aside0.mk (Kd.R_below (by (with_reducible repeat (first | apply Kd.R_alloc | apply Kd.R_drewN | apply Kd.R_drew)); exact HO369.out) hb); have n1_ := Aside0.mk (Kd.R_below (by (with_reducible repeat (first | apply Kd.R_alloc | apply Kd.R_drewN | apply Kd.R_drew)); exact HO371.out) hb); have n2_ := Aside0.mk (Kd.R_lower ho0 (below_size (by repeat (first | (with_reducible first | exact HB.out | apply below_alloc | apply pw_below_drewN | apply below_drew1) | exact HB.out)))); have n3_ := Aside0.mk (Kd.R_lower ho1 (below_size (by repeat (first | (with_reducible first | exact HB.out | apply below_alloc | apply pw_below_drewN | apply below_drew1) | exact HB.out)))); have n4_ := Aside0.mk (below_step (by repeat (first | (with_reducible first | exact HB.out | apply below_alloc | apply pw_below_drewN | apply below_drew1) | exact HB.out)) hb); clear HO369; clear HO371; clear HB; have HO369 := n0_; have HO371 := n1_; have HO374 := n2_; have HO377 := n3_; have HB := n4_; clear n0_ n1_ n2_ n3_ n4_; (try clear hb); (try clear hb2); (try clear hk); (try clear hi); (try clear ho0); (try clear ho1)) | ((with_reducible refine gate_dst (N := 5) rfl ?_); refine box_event ?hg (N := 5) ?hd (cs := #[.slice none 0 0, .slice none 0 0]) (t := 29) ?hr ?_; (case hd => rfl); (case hg => rfl); (case hr => first | (go_simp; done) | (go_simp; rfl)); intro gb378 hg w61 hbox hb; have n0_ := Aside0.mk (Kd.R_below (by (with_reducible repeat (first | apply Kd.R_alloc | apply Kd.R_drewN | apply Kd.R_drew)); exact HO369.out) hb); have n1_ := Aside0.mk (Kd.R_below (by (with_reducible repeat (first | apply Kd.R_alloc | apply Kd.R_drewN | apply Kd.R_drew)); exact HO371.out) hb); have n2_ := Aside0.mk (Kd.R_below (by (with_reducible repeat (first | apply Kd.R_alloc | apply Kd.R_drewN | apply Kd.R_drew)); exact HO374.out) hb); have n3_ := Aside0.mk (Kd.R_below (by (with_reducible repeat (first | apply Kd.R_alloc | apply Kd.R_drewN | apply Kd.R_drew)); exact HO377.out) hb); have n4_ := Aside0.mk (below_step (by repeat (first | (with_reducible first | exact HB.out | apply below_alloc | apply pw_below_drewN | apply below_drew1) | exact HB.out)) hb); have n5_ := Aside0.mk (hbox); have n6_ := Aside0.mk ((by rw [hg]; exact (below_size (by repeat (first | (with_reducible first | exact HB.out | apply below_alloc | apply pw_below_drewN | apply below_drew1) | exact HB.out))) : w.heap.size ≤ gb378)); have n7_ := Aside0.mk ((by rw [hg]; exact (below_size (by repeat (first | (with_reducible first | exact HB.out | apply below_alloc | apply pw_below_drewN | apply below_drew1) | exact HB.out))) : w.heap.size ≤ gb378)); clear HO369; clear HO371; clear HO374; clear HO377; clear HB; have HO369 := n0_; have HO371 := n1_; have HO374 := n2_; have HO377 := n3_; have HB := n4_; have BK378 := n5_; have GW378 := n6_; have GE378 := n7_; clear n0_ n1_ n2_ n3_ n4_ n5_ n6_ n7_; clear hb hbox hg; obtain ⟨Ao62, co62, eo62⟩ := Kd.R_slice HO374.out; subst eo62; have hcz63_0 : w61.cell? ⟨gb378, 0, none⟩ = some (.slice none 0 0) := (blk_cell BK378.out 0).trans rfl; have hcz63_1 : w61.cell? ⟨gb378, 1, none⟩ = some (.slice none 0 0) := (blk_cell BK378.out 1).trans rfl; have hfz63_0 := blk_frozen BK378.out 0; have hfz63_1 := blk_frozen BK378.out 1; obtain ⟨Ao64, co64, eo64⟩ := Kd.R_slice HO377.out; subst eo64))
     have n0_ : Aside0 (Kd.R k88 88 ((w61.setCell ⟨gb378, 0, none⟩ (.slice Ao62 t372.length co62)).setCell ⟨gb378, 1, none⟩ (.slice Ao64 t375.length co64)) w.heap.size (fun _ => True) (.slice Ao58 t366.length co58) t366) := ⟨by (with_reducible repeat (first | apply Kd.R_alloc | apply Kd.R_drewN | apply Kd.R_drew)); exact Kd.R_mono (Kd.R_far (p := ⟨gb378, 1, none⟩) (Kd.R_far (p := ⟨gb378, 0, none⟩) (Kd.R_types HO369.out BK378.out (by decide)) (fun _ hk => hk.2) (.slice Ao62 t372.length co62)) (fun _ hk => hk.2) (.slice Ao64 t375.length co64)) (fun _ hk => trivial)⟩
     have n1_ : Aside0 (Kd.R k34 34 ((w61.setCell ⟨gb378, 0, none⟩ (.slice Ao62 t372.length co62)).setCell ⟨gb378, 1, none⟩ (.slice Ao64 t375.length co64)) w.heap.size (fun _ => True) (.slice Ao59 t367.length co59) t367) := ⟨by (with_reducible repeat (first | apply Kd.R_alloc | apply Kd.R_drewN | apply Kd.R_drew)); exact Kd.R_mono (Kd.R_far (p := ⟨gb378, 1, none⟩) (Kd.R_far (p := ⟨gb378, 0, none⟩) (Kd.R_types HO371.out BK378.out (by decide)) (fun _ hk => hk.2) (.slice Ao62 t372.length co62)) (fun _ hk => hk.2) (.slice Ao64 t375.length co64)) (fun _ hk => trivial)⟩
     have n2_ : Aside0 (Kd.R (Kd.int .i64) 3 ((w61.setCell ⟨gb378, 0, none⟩ (.slice Ao62 t372.length co62)).setCell ⟨gb378, 1, none⟩ (.slice Ao64 t375.length co64)) w.heap.size (fun k_ => some k_ ≠ (.slice Ao64 t375.length co64 : Value).ownBlock) (.slice Ao62 t372.length co62) t372) := ⟨by (with_reducible repeat (first | apply Kd.R_alloc | apply Kd.R_drewN | apply Kd.R_drew)); exact Kd.R_mono (Kd.R_far (p := ⟨gb378, 1, none⟩) (Kd.R_far (p := ⟨gb378, 0, none⟩) (Kd.R_types HO374.out BK378.out (by decide)) (fun _ hk => hk.2) (.slice Ao62 t372.length co62)) (fun _ hk => hk.2) (.slice Ao64 t375.length co64)) (fun _ hk => hk.1)⟩
     have n3_ : Aside0 (Kd.R (Kd.int .i64) 3 ((w61.setCell ⟨gb378, 0, none⟩ (.slice Ao62 t372.length co62)).setCell ⟨gb378, 1, none⟩ (.slice Ao64 t375.length co64)) w.heap.size (fun k_ => some k_ ≠ (.slice Ao62 t372.length co62 : Value).ownBlock) (.slice Ao64 t375.length co64) t375) := ⟨by (with_reducible repeat (first | apply Kd.R_alloc | apply Kd.R_drewN | apply Kd.R_drew)); exact Kd.R_mono (Kd.R_far (p := ⟨gb378, 1, none⟩) (Kd.R_far (p := ⟨gb378, 0, none⟩) (Kd.R_types HO377.out BK378.out (by decide)) (fun _ hk => hk.2) (.slice Ao62 t372.length co62)) (fun _ hk => hk.2) (.slice Ao64 t375.length co64)) (fun _ hk => hk.1)⟩
     have n4_ : Aside0 (((w61.setCell ⟨gb378, 0, none⟩ (.slice Ao62 t372.length co62)).setCell ⟨gb378, 1, none⟩ (.slice Ao64 t375.length co64)).heap[gb378]? = some (.cells #[.slice Ao62 t372.length co62, .slice Ao64 t375.length co64] 29 (0, 0))) := ⟨by (with_reducible repeat (first | refine blk_drewN ?_ _ | refine blk_drew ?_ | refine blk_alloc ?_ _)); refine blk_put (cs := #[.slice Ao62 t372.length co62, .slice none 0 0]) ?_ 1 _ rfl; (with_reducible repeat (first | refine blk_drewN ?_ _ | refine blk_drew ?_ | refine blk_alloc ?_ _)); refine blk_put (cs := #[.slice none 0 0, .slice none 0 0]) ?_ 0 _ rfl; (with_reducible repeat (first | refine blk_drewN ?_ _ | refine blk_drew ?_ | refine blk_alloc ?_ _)); exact BK378.out⟩
     have n5_ : Aside0 (Below w.heap.size w ((w61.setCell ⟨gb378, 0, none⟩ (.slice Ao62 t372.length co62)).setCell ⟨gb378, 1, none⟩ (.slice Ao64 t375.length co64))) := ⟨by repeat (first | (with_reducible first | exact HB.out | apply below_alloc | apply pw_below_drewN | apply below_drew1 | refine below_set ?_ GE378.out) | exact HB.out)⟩
     (try clear HO369)
     (try clear HO371)
     (try clear HO374)
     (try clear HO377)
     (try clear BK378)
     (try clear HB)
     generalize ((w61.setCell ⟨gb378, 0, none⟩ (.slice Ao62 t372.length co62)).setCell ⟨gb378, 1, none⟩ (.slice Ao64 t375.length co64)) = w65 at n0_ n1_ n2_ n3_ n4_ n5_ ⊢
     have HO369 := n0_
     have HO371 := n1_
     have HO374 := n2_
     have HO377 := n3_
     have BK378 := n4_
     have HB := n5_
     clear n0_ n1_ n2_ n3_ n4_ n5_
     have n0_ := Aside0.mk (Kd.R_drew HO369.out)
     have n1_ := Aside0.mk (Kd.R_drew HO371.out)
     have n2_ := Aside0.mk (Kd.R_drew HO374.out)
     have n3_ := Aside0.mk (Kd.R_drew HO377.out)
     have n4_ := Aside0.mk (blk_drew BK378.out)
     have n5_ := Aside0.mk (below_drew1 HB.out)
     clear HO369
     clear HO371
     clear HO374
     clear HO377
     clear BK378
     clear HB
     have HO369 := n0_
     have HO371 := n1_
     have HO374 := n2_
     have HO377 := n3_
     have BK378 := n4_
     have HB := n5_
     clear n0_ n1_ n2_ n3_ n4_ n5_
     refine start_ (n := 6) (S := fun w' => w'.cell? ⟨gb378, 0, none⟩ = some (.slice Ao62 t372.length co62) ∧ w'.cell? ⟨gb378, 1, none⟩ = some (.slice Ao64 t375.length co64)) (ds := []) #[false, false, false, false, false, false] (by kernel_rfl) rfl rfl ⟨(blk_cell BK378.out 0).trans rfl, (blk_cell BK378.out 1).trans rfl⟩ (fun hHeld => ?_)
     generalize w65.drew = w66 at HO369 HO371 HO374 HO377 BK378 HB hHeld ⊢
     refine pure_ (i := 1) (N := some 22) (v := ?_) (a' := ?_) #[false, true, false, false, false, false] rfl rfl (by kernel_rfl) (fun _ _ _ h => h) (Or.inl ⟨by rfl, ?_⟩) ?_ ?_
     rotate_left
     ·intro w'
      go_simp
      with_reducible rfl
     rotate_left
     ·simp only [Act.put, List.setIfInBounds_toArray, List.set_cons_zero, List.set_cons_succ, i64_w, i32_w]
      rfl
     refine pure_ (i := 2) (N := some 23) (v := ?_) (a' := ?_) #[false, true, true, false, false, false] rfl rfl (by kernel_rfl) (fun _ _ _ h => h) (Or.inl ⟨by rfl, ?_⟩) ?_ ?_
     rotate_left
     ·intro w'
      go_simp
      with_reducible rfl
     rotate_left
     ·simp only [Act.put, List.setIfInBounds_toArray, List.set_cons_zero, List.set_cons_succ, i64_w, i32_w]
      rfl
     refine take_ (i := 0) (N := some 21) (v := ?_) (a' := ?_) #[true, true, true, false, false, false] rfl rfl (by kernel_rfl) (fun _ _ _ h => h) (Or.inl ⟨by rfl, ?_⟩) hHeld ?_ ?_
     rotate_left
     ·rintro w' ⟨s0, s1⟩
      go_simp
      with_reducible rfl
     rotate_left
     ·simp only [Act.put, List.setIfInBounds_toArray, List.set_cons_zero, List.set_cons_succ, i64_w, i32_w]
      rfl
     refine one_ (i := 3) (N := some 24) #[true, true, true, true, false, false] rfl rfl (by kernel_rfl) (by decide) (fun K hK => ?_)
     refine goes_ Try.func14 (by kernel_rfl) rfl #[.slice Ao58 t366.length co58, .slice Ao59 t367.length co59] (by rfl) rfl rfl (by (try simp only [List.map_toArray, List.map_cons, List.map_nil]); first | done | rfl | (simp only [List.length_drop, List.length_take]; rfl)) ?_
     with_reducible refine (spec_RunNonPreemptive.calls k _ _ t366 _ _ t367 t379 t382 _ ?side1 ?side2 ?side3 ?side4 A5.out).mono ?_
     (case side1 => repeat (first | exact (Kd.R_reads' HO369.out).2.2 | (with_reducible refine Kd.C_alloc ?_ _) | (with_reducible refine Kd.C_drewN ?_ _) | (with_reducible refine Kd.C_drew ?_)))
     (case side2 => exact (Kd.R_reads' HO369.out).2.1)
     (case side3 => repeat (first | exact (Kd.R_reads' HO371.out).2.2 | (with_reducible refine Kd.C_alloc ?_ _) | (with_reducible refine Kd.C_drewN ?_ _) | (with_reducible refine Kd.C_drew ?_)))
     (case side4 => exact (Kd.R_reads' HO371.out).2.1)
     rintro e w67 ⟨v380, v383, rfl, ho0, ho1, hb⟩
     refine ⟨_, rfl, ?_⟩
     have n0_ := Aside0.mk (Kd.R_below (by (with_reducible repeat (first | apply Kd.R_alloc | apply Kd.R_drewN | apply Kd.R_drew)); exact HO369.out) hb)
     have n1_ := Aside0.mk (Kd.R_below (by (with_reducible repeat (first | apply Kd.R_alloc | apply Kd.R_drewN | apply Kd.R_drew)); exact HO371.out) hb)
     have n2_ := Aside0.mk (Kd.R_mono (Kd.R_told (Kd.R_told (Kd.R_old (by (with_reducible repeat (first | apply Kd.R_alloc | apply Kd.R_drewN | apply Kd.R_drew)); exact HO374.out) hb) (Kd.R_base ho0)) (Kd.R_base ho1)) (fun _ h_ => h_.1))
     have n3_ := Aside0.mk (Kd.R_mono (Kd.R_told (Kd.R_told (Kd.R_old (by (with_reducible repeat (first | apply Kd.R_alloc | apply Kd.R_drewN | apply Kd.R_drew)); exact HO377.out) hb) (Kd.R_base ho0)) (Kd.R_base ho1)) (fun _ h_ => h_.1))
     have n4_ := Aside0.mk (Kd.R_lower (Kd.R_new' (Kd.R_new' ho0 (Kd.R_lt (by (with_reducible repeat (first | apply Kd.R_alloc | apply Kd.R_drewN | apply Kd.R_drew)); exact HO374.out))) (Kd.R_lt (by (with_reducible repeat (first | apply Kd.R_alloc | apply Kd.R_drewN | apply Kd.R_drew)); exact HO377.out))) (below_size (by repeat (first | (with_reducible first | exact HB.out | apply below_alloc | apply pw_below_drewN | apply below_drew1 | refine below_set ?_ GE378.out) | exact HB.out))))
     have n5_ := Aside0.mk (Kd.R_lower (Kd.R_new' (Kd.R_new' ho1 (Kd.R_lt (by (with_reducible repeat (first | apply Kd.R_alloc | apply Kd.R_drewN | apply Kd.R_drew)); exact HO374.out))) (Kd.R_lt (by (with_reducible repeat (first | apply Kd.R_alloc | apply Kd.R_drewN | apply Kd.R_drew)); exact HO377.out))) (below_size (by repeat (first | (with_reducible first | exact HB.out | apply below_alloc | apply pw_below_drewN | apply below_drew1 | refine below_set ?_ GE378.out) | exact HB.out))))
     have n6_ := Aside0.mk (blk_below (g := gb378) (o := .cells #[.slice Ao62 t372.length co62, .slice Ao64 t375.length co64] 29 (0, 0)) (by (with_reducible repeat (first | refine blk_drewN ?_ _ | refine blk_drew ?_ | refine blk_alloc ?_ _)); exact BK378.out) hb)
     have n7_ := Aside0.mk (below_step (by repeat (first | (with_reducible first | exact HB.out | apply below_alloc | apply pw_below_drewN | apply below_drew1 | refine below_set ?_ GE378.out) | exact HB.out)) hb)
     clear HO369
     clear HO371
     clear HO374
     clear HO377
     clear BK378
     clear HB
     have HO369 := n0_
     have HO371 := n1_
     have HO374 := n2_
     have HO377 := n3_
     have HO381 := n4_
     have HO384 := n5_
     have BK378 := n6_
     have HB := n7_
     clear n0_ n1_ n2_ n3_ n4_ n5_ n6_ n7_
     (try clear hb)
     (try clear hb2)
     (try clear hk)
     (try clear hi)
     (try clear ho0)
     (try clear ho1)
     obtain ⟨Ao68, co68, eo68⟩ := Kd.R_slice HO381.out
     (first | subst eo68 | (injection eo68 with f1_ f2_ f3_; have f4_ := f1_.symm; have f5_ := f3_.symm; clear f1_ f2_ f3_; subst f4_; subst f5_))
     obtain ⟨Ao69, co69, eo69⟩ := Kd.R_slice HO384.out
     (first | subst eo69 | (injection eo69 with f1_ f2_ f3_; have f4_ := f1_.symm; have f5_ := f3_.symm; clear f1_ f2_ f3_; subst f4_; subst f5_))
     refine hK.out _ _ ⟨(blk_cell BK378.out 0).trans rfl, (blk_cell BK378.out 1).trans rfl⟩ (fun hHeld => ?_)
     clear hK K
     refine norm_ (a' := ?_) ?_ ?_
     rotate_left
     ·show Act.put _ (some 24) _ = _
      simp only [Act.put, List.setIfInBounds_toArray, List.set_cons_zero, List.set_cons_succ, i64_w, i32_w]
      rfl
     refine one_ (i := 4) (N := some 25) #[true, true, true, true, true, false] rfl rfl (by kernel_rfl) (by decide) (fun K hK => ?_)
     refine goes_ Try.func13 (by kernel_rfl) rfl #[.agg #[.slice Ao62 t372.length co62, .slice Ao64 t375.length co64], .agg #[.slice Ao68 t379.length co68, .slice Ao69 t382.length co69]] (by rfl) rfl rfl (by (try simp only [List.map_toArray, List.map_cons, List.map_nil]); first | done | rfl | (simp only [List.length_drop, List.length_take]; rfl)) ?_
     with_reducible refine (laws_sameSchedule.calls k _ _ t372 _ _ t375 _ _ t379 _ _ t382 true _ ?side1 ?side2 ?side3 ?side4 ?side5 ?side6 ?side7 ?side8 A6.out).mono ?_
     (case side1 => repeat (first | exact (Kd.R_reads' HO374.out).2.2 | (with_reducible refine Kd.C_alloc ?_ _) | (with_reducible refine Kd.C_drewN ?_ _) | (with_reducible refine Kd.C_drew ?_)))
     (case side2 => exact (Kd.R_reads' HO374.out).2.1)
     (case side3 => repeat (first | exact (Kd.R_reads' HO377.out).2.2 | (with_reducible refine Kd.C_alloc ?_ _) | (with_reducible refine Kd.C_drewN ?_ _) | (with_reducible refine Kd.C_drew ?_)))
     (case side4 => exact (Kd.R_reads' HO377.out).2.1)
     (case side5 => repeat (first | exact (Kd.R_reads' HO381.out).2.2 | (with_reducible refine Kd.C_alloc ?_ _) | (with_reducible refine Kd.C_drewN ?_ _) | (with_reducible refine Kd.C_drew ?_)))
     (case side6 => exact (Kd.R_reads' HO381.out).2.1)
     (case side7 => repeat (first | exact (Kd.R_reads' HO384.out).2.2 | (with_reducible refine Kd.C_alloc ?_ _) | (with_reducible refine Kd.C_drewN ?_ _) | (with_reducible refine Kd.C_drew ?_)))
     (case side8 => exact (Kd.R_reads' HO384.out).2.1)
     rintro e w70 ⟨rfl, hb⟩
     refine ⟨_, rfl, ?_⟩
     have n0_ := Aside0.mk (Kd.R_below (by (with_reducible repeat (first | apply Kd.R_alloc | apply Kd.R_drewN | apply Kd.R_drew)); exact HO369.out) hb)
     have n1_ := Aside0.mk (Kd.R_below (by (with_reducible repeat (first | apply Kd.R_alloc | apply Kd.R_drewN | apply Kd.R_drew)); exact HO371.out) hb)
     have n2_ := Aside0.mk (Kd.R_below (by (with_reducible repeat (first | apply Kd.R_alloc | apply Kd.R_drewN | apply Kd.R_drew)); exact HO374.out) hb)
     have n3_ := Aside0.mk (Kd.R_below (by (with_reducible repeat (first | apply Kd.R_alloc | apply Kd.R_drewN | apply Kd.R_drew)); exact HO377.out) hb)
     have n4_ := Aside0.mk (Kd.R_below (by (with_reducible repeat (first | apply Kd.R_alloc | apply Kd.R_drewN | apply Kd.R_drew)); exact HO381.out) hb)
     have n5_ := Aside0.mk (Kd.R_below (by (with_reducible repeat (first | apply Kd.R_alloc | apply Kd.R_drewN | apply Kd.R_drew)); exact HO384.out) hb)
     have n6_ := Aside0.mk (blk_below (g := gb378) (o := .cells #[.slice Ao62 t372.length co62, .slice Ao64 t375.length co64] 29 (0, 0)) (by (with_reducible repeat (first | refine blk_drewN ?_ _ | refine blk_drew ?_ | refine blk_alloc ?_ _)); exact BK378.out) hb)
     have n7_ := Aside0.mk (below_step (by repeat (first | (with_reducible first | exact HB.out | apply below_alloc | apply pw_below_drewN | apply below_drew1 | refine below_set ?_ GE378.out) | exact HB.out)) hb)
     clear HO369
     clear HO371
     clear HO374
     clear HO377
     clear HO381
     clear HO384
     clear BK378
     clear HB
     have HO369 := n0_
     have HO371 := n1_
     have HO374 := n2_
     have HO377 := n3_
     have HO381 := n4_
     have HO384 := n5_
     have BK378 := n6_
     have HB := n7_
     clear n0_ n1_ n2_ n3_ n4_ n5_ n6_ n7_
     (try clear hb)
     (try clear hb2)
     (try clear hk)
     (try clear hi)
     refine hK.out _ _ ⟨(blk_cell BK378.out 0).trans rfl, (blk_cell BK378.out 1).trans rfl⟩ (fun hHeld => ?_)
     clear hK K
     refine norm_ (a' := ?_) ?_ ?_
     rotate_left
     ·show Act.put _ (some 25) _ = _
      simp only [Act.put, List.setIfInBounds_toArray, List.set_cons_zero, List.set_cons_succ, i64_w, i32_w]
      rfl
     refine pure_ (i := 5) (N := some 26) (v := ?_) (a' := ?_) #[true, true, true, true, true, true] rfl rfl (by kernel_rfl) (fun _ _ _ h => h) (Or.inl ⟨by rfl, ?_⟩) ?_ ?_
     rotate_left
     ·intro w'
      go_simp
      with_reducible rfl
     rotate_left
     ·simp only [Act.put, List.setIfInBounds_toArray, List.set_cons_zero, List.set_cons_succ, i64_w, i32_w]
      rfl
     refine done_ (by kernel_rfl) ?_
     have hcz71_0 : w70.cell? ⟨gb378, 0, none⟩ = some (.slice Ao62 t372.length co62) := (blk_cell BK378.out 0).trans rfl
     have hcz71_1 : w70.cell? ⟨gb378, 1, none⟩ = some (.slice Ao64 t375.length co64) := (blk_cell BK378.out 1).trans rfl
     have hfz71_0 := blk_frozen BK378.out 0
     have hfz71_1 := blk_frozen BK378.out 1
     try go_wp2_with (first | (go_at_call 15; (with_reducible refine (laws_alive.calls  t386 _ A56.out).mono ?_); rintro e w72 ⟨rfl, hb⟩; have n0_ := Aside0.mk (Kd.R_below (by (with_reducible repeat (first | apply Kd.R_alloc | apply Kd.R_drewN | apply Kd.R_drew)); exact HO369.out) hb); have n1_ := Aside0.mk (Kd.R_below (by (with_reducible repeat (first | apply Kd.R_alloc | apply Kd.R_drewN | apply Kd.R_drew)); exact HO371.out) hb); have n2_ := Aside0.mk (Kd.R_below (by (with_reducible repeat (first | apply Kd.R_alloc | apply Kd.R_drewN | apply Kd.R_drew)); exact HO374.out) hb); have n3_ := Aside0.mk (Kd.R_below (by (with_reducible repeat (first | apply Kd.R_alloc | apply Kd.R_drewN | apply Kd.R_drew)); exact HO377.out) hb); have n4_ := Aside0.mk (Kd.R_below (by (with_reducible repeat (first | apply Kd.R_alloc | apply Kd.R_drewN | apply Kd.R_drew)); exact HO381.out) hb); have n5_ := Aside0.mk (Kd.R_below (by (with_reducible repeat (first | apply Kd.R_alloc | apply Kd.R_drewN | apply Kd.R_drew)); exact HO384.out) hb); have n6_ := Aside0.mk (blk_below (g := gb378) (o := .cells #[.slice Ao62 t372.length co62, .slice Ao64 t375.length co64] 29 (0, 0)) (by (with_reducible repeat (first | refine blk_drewN ?_ _ | refine blk_drew ?_ | refine blk_alloc ?_ _)); exact BK378.out) hb); have n7_ := Aside0.mk (below_step (by repeat (first | (with_reducible first | exact HB.out | apply below_alloc | apply pw_below_drewN | apply below_drew1 | refine below_set ?_ GE378.out) | exact HB.out)) hb); clear HO369; clear HO371; clear HO374; clear HO377; clear HO381; clear HO384; clear BK378; clear HB; have HO369 := n0_; have HO371 := n1_; have HO374 := n2_; have HO377 := n3_; have HO381 := n4_; have HO384 := n5_; have BK378 := n6_; have HB := n7_; clear n0_ n1_ n2_ n3_ n4_ n5_ n6_ n7_; (try clear hb); (try clear hb2); (try clear hk); (try clear hi)))
     go_ret
     exact ⟨by first | rfl | (simp [errW_none, errW_some] <;> rfl) | (simp [*, errW_none, errW_some] <;> rfl), by repeat (first | (with_reducible first | exact HB.out | apply below_alloc | apply pw_below_drewN | apply below_drew1 | refine below_set ?_ GE378.out) | exact HB.out)⟩
    ·rw [if_neg c55] at H
     exact Bool.noConfusion ((Option.some.inj H).trans HRT.out)
  ·replace c7 := Bool.eq_false_iff.mpr c7
   subst c7
   have H1 : (some false) = some r := by rw [if_neg (show ¬ (false = true) by decide)] at H; exact H
   exact Bool.noConfusion ((Option.some.inj H1).trans HRT.out)

/-- The one pure statement of laws_FnRunNonPreemptive. -/
def laws_FnRunNonPreemptive.Pure : Prop := ∀ (l0 : List Int), l0.length * 1 ≤ 140737488351232 → (l0.length ≤ maxLen ∧ ∀ y0 ∈ l0, (Lit.int .u8 y0).wf = true) → ∃ k, laws_FnRunNonPreemptive.f k l0 = some true

end Go.Proofs.Ytkdfjomhichkoaa.P
/- Small laws that all proofs of this seat use. No condition. -/
namespace Go.Proofs.Ytkdfjomhichkoaa.Base
open Go.RowKit Go.Proofs.Ytkdfjomhichkoaa.P Go.Proofs.YtkdfjomhichkoaaW.PrintWords Go.Proofs.YtkdfjomhichkoaaW.PrintLast Go.Proofs.YtkdfjomhichkoaaW.PrintMore
theorem w64 {x : Int} (h0 : -9223372036854775808 ≤ x) (h1 : x < 9223372036854775808) : wrap64 x = x := by unfold wrap64; omega
theorem in_f (a b c : Int) : impl_in.f a b c = some (decide (b ≤ a ∧ a ≤ c)) := by
  unfold impl_in.f
  by_cases h : a ≥ b
  · rw [if_pos h]; simp [show b ≤ a from h]
  · rw [if_neg h]; simp [show ¬ b ≤ a from h]
theorem l1In_f (a b c : Int) : spec_l1In.f a b c = some (decide (b ≤ a ∧ a ≤ c)) := by
  unfold spec_l1In.f
  by_cases h : a ≥ b
  · rw [if_pos h]; simp [show b ≤ a from h]
  · rw [if_neg h]; simp [show ¬ b ≤ a from h]
theorem and_bind {α : Type} (p : Prop) [Decidable p] (x y : Option α) : (some (decide p)).bind (fun t => if t = true then x else y) = if p then x else y := by
  by_cases hp : p <;> simp [hp]
end Go.Proofs.Ytkdfjomhichkoaa.Base
/- Runs that end, whatever the number of rounds from some number on; loops over a row. No condition. -/
namespace Go.Proofs.Ytkdfjomhichkoaa.Gen
open Go.RowKit Go.Proofs.YtkdfjomhichkoaaW.PrintWords Go.Proofs.YtkdfjomhichkoaaW.PrintLast

/-- From some number of rounds on the run ends in one answer, and the answer is good. -/
def Tot {α : Type} (g : Nat → Option α) (P : α → Prop) : Prop := ∃ r, Ev g r ∧ P r
theorem Tot.ret {α : Type} {P : α → Prop} (a : α) (h : P a) : Tot (fun _ => some a) P := ⟨a, Ev.now a, h⟩
theorem Tot.mono {α : Type} {P Q : α → Prop} {g : Nat → Option α} (h : Tot g P) (hpq : ∀ a, P a → Q a) : Tot g Q := by
  obtain ⟨r, h1, h2⟩ := h
  exact ⟨r, h1, hpq r h2⟩
theorem Tot.congr {α : Type} {P : α → Prop} {g f : Nat → Option α} (e : ∀ k, g k = f k) (h : Tot f P) : Tot g P := by
  have : g = f := funext e
  rw [this]; exact h
theorem Tot.step {α : Type} {P : α → Prop} {g f : Nat → Option α} (e : ∀ k, g (k + 1) = f k) (h : Tot f P) : Tot g P := by
  obtain ⟨r, h1, h2⟩ := h
  exact ⟨r, Ev.step e h1, h2⟩
theorem Tot.bind {α β : Type} {P : α → Prop} {Q : β → Prop} {g : Nat → Option α} {f : Nat → α → Option β} (h : Tot g P) (hf : ∀ a, P a → Tot (fun k => f k a) Q) : Tot (fun k => (g k).bind (f k)) Q := by
  obtain ⟨r, h1, h2⟩ := h
  obtain ⟨q, h3, h4⟩ := hf r h2
  exact ⟨q, Ev.bind h1 h3, h4⟩
/-- A call without rounds. -/
theorem Tot.bind0 {α β : Type} {Q : β → Prop} {g : Option α} {f : Nat → α → Option β} {a : α} (h : g = some a) (hf : Tot (fun k => f k a) Q) : Tot (fun k => g.bind (f k)) Q := by
  subst h; exact hf
theorem Tot.yes {α : Type} {P : α → Prop} {c : Prop} [Decidable c] {g f : Nat → Option α} (hc : c) (h : Tot g P) : Tot (fun k => if c then g k else f k) P := by
  simp only [if_pos hc]; exact h
theorem Tot.no {α : Type} {P : α → Prop} {c : Prop} [Decidable c] {g f : Nat → Option α} (hc : ¬ c) (h : Tot f P) : Tot (fun k => if c then g k else f k) P := by
  simp only [if_neg hc]; exact h
theorem Tot.ite {α : Type} {P : α → Prop} {c : Prop} [Decidable c] {g f : Nat → Option α} (h1 : c → Tot g P) (h2 : ¬ c → Tot f P) : Tot (fun k => if c then g k else f k) P := by
  by_cases hc : c
  · exact Tot.yes hc (h1 hc)
  · exact Tot.no hc (h2 hc)
theorem Tot.rounds {g : Nat → Option Bool} (h : Tot g (fun r => r = true)) : ∃ k, g k = some true := by
  obtain ⟨r, h1, rfl⟩ := h
  exact h1.rounds
/-- What a run answers, and how it was found. -/
theorem Tot.val {α : Type} {g : Nat → Option α} {a : α} (h : Ev g a) : Tot g (fun r => r = a) := ⟨a, h, rfl⟩
theorem Tot.ev {α : Type} {g : Nat → Option α} {a : α} (h : Tot g (fun r => r = a)) : Ev g a := by
  obtain ⟨r, h1, rfl⟩ := h
  exact h1
/-- A loop with a counter: 'Inv i s' at the head of round i, n rounds. -/
theorem Tot.loop {σ ρ : Type} {P : ρ → Prop} (F : Nat → Nat → σ → Option ρ) (n : Nat) (Inv : Nat → σ → Prop)
    (hstep : ∀ i s, i < n → Inv i s → (∀ s', Inv (i + 1) s' → Tot (fun k => F k (i + 1) s') P) → Tot (fun k => F k i s) P)
    (hend : ∀ s, Inv n s → Tot (fun k => F k n s) P) : ∀ i s, i ≤ n → Inv i s → Tot (fun k => F k i s) P := by
  have key : ∀ d i s, i + d = n → Inv i s → Tot (fun k => F k i s) P := by
    intro d
    induction d with
    | zero => intro i s hi h; obtain rfl : i = n := by omega
              exact hend s h
    | succ d ih => intro i s hi h; exact hstep i s (by omega) h (fun s' hs' => ih (i + 1) s' (by omega) hs')
  intro i s hi h
  exact key (n - i) i s (by omega) h
theorem rd_at (xs : List Int) (i : Nat) (h : i < xs.length) : rd xs (i : Int) = xs[i] := by
  unfold rd
  rw [List.getD_eq_getElem?_getD, Int.toNat_natCast, List.getElem?_eq_getElem h]
  rfl
/-- A row that is filled from the left, element by element. -/
theorem fill_step {β : Type} (acc tgt : List β) (i : Nat) (hl : acc.length = tgt.length) (h : acc.take i = tgt.take i) (hi : i < tgt.length) : (acc.set i tgt[i]).take (i + 1) = tgt.take (i + 1) := by
  rw [List.take_succ_eq_append_getElem (by simpa [hl] using hi), List.take_succ_eq_append_getElem hi]
  rw [List.take_set_of_le (Nat.le_refl i), h]
  simp
/-- A copy: 'out[i] = c(a[i])' from 0 on. -/
theorem Tot.copy {β : Type} (F : Nat → List β → Int → Option (List β)) (tgt : List β) (z : β)
    (hstep : ∀ k acc (i : Nat) (h : i < tgt.length), acc.length = tgt.length → F (k + 1) acc (i : Int) = F k (acc.set i tgt[i]) ((i : Int) + 1))
    (hend : ∀ k acc, acc.length = tgt.length → F (k + 1) acc (tgt.length : Int) = some acc) : Tot (fun k => F k (List.replicate tgt.length z) 0) (fun r => r = tgt) := by
  have key : ∀ d (i : Nat) acc, i + d = tgt.length → acc.length = tgt.length → acc.take i = tgt.take i → Tot (fun k => F k acc (i : Int)) (fun r => r = tgt) := by
    intro d
    induction d with
    | zero =>
      intro i acc hi hl ht
      obtain rfl : i = tgt.length := by omega
      refine Tot.step (f := fun _ => some acc) (fun k => hend k acc hl) (Tot.ret _ ?_)
      rw [List.take_length, ← hl, List.take_length] at ht
      exact ht
    | succ d ih =>
      intro i acc hi hl ht
      have hlt : i < tgt.length := by omega
      refine Tot.step (fun k => hstep k acc i hlt hl) ?_
      have := ih (i + 1) (acc.set i tgt[i]) (by omega) (by simpa using hl) (fill_step acc tgt i hl ht hlt)
      simpa using this
  simpa using key tgt.length 0 (List.replicate tgt.length z) (by omega) (by simp) (by simp)
/-- A walk that only looks. -/
theorem Tot.look {ρ : Type} {r : ρ} (F : Nat → Int → Option ρ) (n : Nat) (hstep : ∀ k (i : Nat), i < n → F (k + 1) (i : Int) = F k ((i : Int) + 1)) (hend : ∀ k, F (k + 1) (n : Int) = some r) : Tot (fun k => F k 0) (fun q => q = r) := by
  have key : ∀ d (i : Nat), i + d = n → Tot (fun k => F k (i : Int)) (fun q => q = r) := by
    intro d
    induction d with
    | zero => intro i hi; obtain rfl : i = n := by omega
              exact Tot.step (f := fun _ => some r) (fun k => hend k) (Tot.ret _ rfl)
    | succ d ih => intro i hi; exact Tot.step (fun k => hstep k i (by omega)) (by simpa using ih (i + 1) (by omega))
  simpa using key n 0 (by omega)
end Go.Proofs.Ytkdfjomhichkoaa.Gen
/- The reader of a code: what a pick tells. Conditions: the code's bytes are bytes, at most 2000 of them; the place is small. -/
namespace Go.Proofs.Ytkdfjomhichkoaa.Pb
open Go.RowKit Go.Proofs.Ytkdfjomhichkoaa.P Go.Proofs.Ytkdfjomhichkoaa.Gen Go.Proofs.Ytkdfjomhichkoaa.Base Go.Proofs.YtkdfjomhichkoaaW.PrintWords Go.Proofs.YtkdfjomhichkoaaW.PrintLast

theorem xor_ok (x y : Int) (hx : 0 ≤ x) (hx1 : x < 4611686018427387904) (hy : 0 ≤ y) (hy1 : y < 4611686018427387904) : 0 ≤ Go.bits .xor .i64 x y := by
  obtain ⟨a, rfl⟩ := Int.eq_ofNat_of_zero_le hx
  obtain ⟨b, rfl⟩ := Int.eq_ofNat_of_zero_le hy
  have ha : a < 2 ^ 62 := by have e : (2 : Nat) ^ 62 = 4611686018427387904 := by decide
                             omega
  have hb : b < 2 ^ 62 := by have e : (2 : Nat) ^ 62 = 4611686018427387904 := by decide
                             omega
  have ha' : a % 2 ^ 64 = a := Nat.mod_eq_of_lt (by omega)
  have hb' : b % 2 ^ 64 = b := Nat.mod_eq_of_lt (by omega)
  have hx := Nat.xor_lt_two_pow ha hb
  simp only [Go.bits]
  rw [show IntKind.i64.bits = 64 from rfl]
  rw [BitVec.toNat_xor, BitVec.ofInt_natCast, BitVec.ofInt_natCast, BitVec.toNat_ofNat, BitVec.toNat_ofNat, ha', hb', IntKind.wrap_i64]
  have e : (2 : Nat) ^ 62 = 4611686018427387904 := by decide
  omega
/-- The bytes of a code. -/
def Bytes (s : List Int) : Prop := s.length ≤ 2000 ∧ ∀ x ∈ s, 0 ≤ x ∧ x ≤ 255
theorem Bytes.rd {s : List Int} (h : Bytes s) (i : Int) : 0 ≤ rd s i ∧ rd s i ≤ 255 := by
  unfold Go.Proofs.YtkdfjomhichkoaaW.PrintWords.rd
  rw [List.getD_eq_getElem?_getD]
  rcases Nat.lt_or_ge i.toNat s.length with hi | hi
  · rw [List.getElem?_eq_getElem hi]
    exact h.2 _ (List.getElem_mem hi)
  · rw [List.getElem?_eq_none hi]
    simp
theorem u8_wf {x : Int} (h : (Lit.int .u8 x).wf = true) : 0 ≤ x ∧ x ≤ 255 := by
  simp [Lit.wf, IntKind.min, IntKind.max, IntKind.bits, IntKind.signed] at h
  omega
theorem tmod_ok (a n : Int) (ha : 0 ≤ a) (hn : 1 ≤ n) : 0 ≤ Int.tmod a n ∧ Int.tmod a n < n := by
  rw [Int.tmod_eq_emod_of_nonneg ha]
  exact ⟨Int.emod_nonneg _ (by omega), Int.emod_lt_of_pos _ (by omega)⟩
theorem tdiv_ok (a n : Int) (ha : 0 ≤ a) (hn : 1 ≤ n) : 0 ≤ Int.tdiv a n ∧ Int.tdiv a n ≤ a := by
  rw [Int.tdiv_eq_ediv_of_nonneg ha]
  exact ⟨Int.ediv_nonneg ha (by omega), Int.ediv_le_self _ ha⟩
/-- One pick: at every number of rounds but 0. -/
theorem pick_at (k : Nat) (s : List Int) (p n : Int) (hs : Bytes s) (hp : 0 ≤ p) (hp2 : p ≤ 1000000000) :
    ∃ r, spec_l20Rd_pick.f (k + 1) s p n = some (r, p + 1) ∧ 0 ≤ r ∧ (1 ≤ n → r < n) := by
  unfold spec_l20Rd_pick.f
  rw [w64 (x := p + 1) (by omega) (by omega)]
  by_cases hn : n < 1
  · rw [if_pos hn]
    exact ⟨0, by simp [spec_l20Rd_pick.j0], Int.le_refl _, fun h => by omega⟩
  · rw [if_neg hn]
    by_cases h0 : (s.length : Int) = 0
    · refine ⟨0, ?_, Int.le_refl _, fun h => by omega⟩
      simp only [spec_l20Rd_pick.j0]
      rw [if_pos (by simpa using h0)]
    · simp only [spec_l20Rd_pick.j0]
      rw [if_neg (by simpa using h0)]
      have hl := hs.1
      rw [w64 (x := p + 1 - 1) (by omega) (by omega), show p + 1 - 1 = p by omega]
      by_cases h1 : p < (s.length : Int)
      · have hb := hs.rd p
        rw [if_pos h1, if_pos hp, if_neg (by omega), w64 (x := rd s p) (by omega) (by omega)]
        have ht := tmod_ok (rd s p) n hb.1 (by omega)
        exact ⟨_, rfl, ht.1, fun _ => ht.2⟩
      · rw [if_neg h1, if_neg h0]
        have m0 := tmod_ok p (s.length : Int) hp (by omega)
        rw [if_pos m0.1, if_pos m0.2]
        rw [w64 (x := p * 7) (by omega) (by omega), w64 (x := p * 7 + 3) (by omega) (by omega)]
        have m1 := tmod_ok (p * 7 + 3) (s.length : Int) (by omega) (by omega)
        rw [if_pos m1.1, if_pos m1.2, if_neg (by omega)]
        have b0 := hs.rd (Int.tmod p (s.length : Int))
        have b1 := hs.rd (Int.tmod (p * 7 + 3) (s.length : Int))
        have d0 := tdiv_ok p (s.length : Int) hp (by omega)
        generalize rd s (Int.tmod p (s.length : Int)) = x at b0 ⊢
        generalize rd s (Int.tmod (p * 7 + 3) (s.length : Int)) = y at b1 ⊢
        generalize Int.tdiv p (s.length : Int) = q at d0 ⊢
        rw [w64 (x := x) (by omega) (by omega), w64 (x := y) (by omega) (by omega), w64 (x := q) (by omega) (by omega)]
        rw [w64 (x := x * 131) (by omega) (by omega), w64 (x := y * 1117) (by omega) (by omega), w64 (x := p * 29) (by omega) (by omega), w64 (x := q * 53) (by omega) (by omega)]
        rw [w64 (x := x * 131 + y * 1117) (by omega) (by omega), w64 (x := x * 131 + y * 1117 + p * 29) (by omega) (by omega), w64 (x := x * 131 + y * 1117 + p * 29 + q * 53) (by omega) (by omega)]
        have e0 := tdiv_ok (x * 131 + y * 1117 + p * 29 + q * 53) 64 (by omega) (by omega)
        rw [w64 (x := Int.tdiv (x * 131 + y * 1117 + p * 29 + q * 53) 64) (by omega) (by omega)]
        have hx := xor_ok (x * 131 + y * 1117 + p * 29 + q * 53) (Int.tdiv (x * 131 + y * 1117 + p * 29 + q * 53) 64) (by omega) (by omega) e0.1 (by omega)
        have ht := tmod_ok _ n hx (by omega)
        exact ⟨_, rfl, ht.1, fun _ => ht.2⟩
theorem open_at (l : List Int) (hl : ∀ x ∈ l, (Lit.int .u8 x).wf = true) : ∃ s, spec_l20Open.f l = some (s, 0) ∧ Bytes s := by
  unfold spec_l20Open.f
  by_cases h : (l.length : Int) > 2000
  · rw [if_pos h, if_pos (by omega)]
    exact ⟨_, rfl, by rw [List.length_take]; omega, fun x hx => u8_wf (hl x (List.mem_of_mem_take hx))⟩
  · rw [if_neg h]
    exact ⟨_, rfl, by omega, fun x hx => u8_wf (hl x hx)⟩
theorem pick_tot (s : List Int) (p n : Int) (hs : Bytes s) (hp : 0 ≤ p) (hp2 : p ≤ 1000000000) : Tot (fun k => spec_l20Rd_pick.f k s p n) (fun r => r.2 = p + 1 ∧ 0 ≤ r.1 ∧ (1 ≤ n → r.1 < n)) := by
  obtain ⟨r, hr, h0, h1⟩ := pick_at 0 s p n hs hp hp2
  refine ⟨(r, p + 1), ⟨1, fun k hk => ?_⟩, rfl, h0, h1⟩
  obtain ⟨j, rfl⟩ : ∃ j, k = j + 1 := ⟨k - 1, by omega⟩
  obtain ⟨r', hr', h0', h1'⟩ := pick_at j s p n hs hp hp2
  have hm := at_rounds (g := fun k => spec_l20Rd_pick.f k s p n) (fun k => spec_l20Rd_pick.mono _ _ _ k) (show 1 ≤ j + 1 by omega) hr
  exact hm
theorem odd_tot (s : List Int) (p n : Int) (hs : Bytes s) (hp : 0 ≤ p) (hp2 : p ≤ 1000000000) : Tot (fun k => spec_l20Rd_odd.f k s p n) (fun r => p ≤ r.2 ∧ r.2 ≤ p + 1) := by
  unfold spec_l20Rd_odd.f
  refine Tot.ite (fun _ => ?_) (fun _ => Tot.ret _ ⟨Int.le_refl _, by omega⟩)
  refine Tot.bind (pick_tot s p n hs hp hp2) ?_
  rintro ⟨a, q⟩ ⟨rfl, _, _⟩
  exact Tot.ret _ ⟨by show p ≤ p + 1; omega, Int.le_refl _⟩
theorem open_tot {β : Type} {Q : β → Prop} (l : List Int) (hl : ∀ x ∈ l, (Lit.int .u8 x).wf = true) {f : Nat → List Int × Int → Option β} (hf : ∀ s, Bytes s → Tot (fun k => f k (s, 0)) Q) : Tot (fun k => (spec_l20Open.f l).bind (f k)) Q := by
  obtain ⟨s, hs, hb⟩ := open_at l hl
  exact Tot.bind0 hs (hf s hb)
theorem some_bind {α β : Type} {Q : β → Prop} (a : α) {f : Nat → α → Option β} (h : Tot (fun k => f k a) Q) : Tot (fun k => (some a).bind (f k)) Q := h
theorem rd_mem {xs : List Int} {i : Int} (h0 : 0 ≤ i) (h1 : i < (xs.length : Int)) : rd xs i ∈ xs := by
  unfold Go.Proofs.YtkdfjomhichkoaaW.PrintWords.rd
  have : i.toNat < xs.length := by omega
  rw [List.getD_eq_getElem?_getD, List.getElem?_eq_getElem this]
  exact List.getElem_mem this
end Go.Proofs.Ytkdfjomhichkoaa.Pb
/- The library is alive. No condition. -/
namespace Go.Proofs.Ytkdfjomhichkoaa.Alive
open Go.RowKit Go.Proofs.Ytkdfjomhichkoaa.P Go.Proofs.Ytkdfjomhichkoaa.Base Go.Proofs.YtkdfjomhichkoaaW.PrintWords Go.Proofs.YtkdfjomhichkoaaW.PrintLast
def TV (c d p : Int) : Prop := 1 ≤ c ∧ c ≤ 8 ∧ c ≤ d ∧ d ≤ p ∧ p ≤ 12
instance (c d p : Int) : Decidable (TV c d p) := by unfold TV; infer_instance
theorem task_f (c d p : Int) : impl_TaskValid.f c d p = some (decide (TV c d p)) := by
  unfold impl_TaskValid.f
  rw [in_f, in_f, and_bind, and_bind]
  by_cases h1 : 1 ≤ c ∧ c ≤ 8
  · by_cases h2 : c ≤ d ∧ d ≤ p
    · rw [if_pos h1, if_pos h2]; congr 1; rw [decide_eq_decide]; unfold TV; omega
    · rw [if_pos h1, if_neg h2]; congr 1; symm; rw [decide_eq_false_iff_not]; unfold TV; omega
  · rw [if_neg h1]; congr 1; symm; rw [decide_eq_false_iff_not]; unfold TV; omega
theorem alive_f : laws_alive.f = some true := by
  unfold laws_alive.f
  rw [task_f]; rfl
end Go.Proofs.Ytkdfjomhichkoaa.Alive
-- Laid by a program of this work.
namespace Go.Proofs.Ytkdfjomhichkoaa.P
open Go.RowKit Go.Proofs.YtkdfjomhichkoaaW.PrintWords Go.Proofs.YtkdfjomhichkoaaW.PrintLast Go.Proofs.YtkdfjomhichkoaaW.PrintMore
attribute [local go_sem] max2_int min2_int max_two min_two max_three min_three max_four min_four   -- for this text's walks alone
set_option linter.unusedVariables false
set_option linter.unusedSimpArgs false

/-! ### impl_implicit_1: function 105 -/
def impl_implicit_1.f (a0_0 : Int) (a0_1 : Int) (a0_2 : Int) : Option (Bool) := some (a0_1 != a0_2)
set_option maxHeartbeats 8000000 in
set_option maxRecDepth 100000 in
theorem impl_implicit_1.calls (a0_0 : Int) (a0_1 : Int) (a0_2 : Int) (r : Bool) (w : World) (h : impl_implicit_1.f a0_0 a0_1 a0_2 = some r) :
  Calls Try.prog 105 #[.agg #[.int .i64 a0_0, .int .i64 a0_1, .int .i64 a0_2]] w fun e w' => e = .returned (.bool r) ∧ Below w.heap.size w w' := by
 have hu88 := Try.underlying88
 have HB := Aside0.mk (Below.refl w.heap.size w)
 have H : (some (a0_1 != a0_2)) = some r := h
 clear h
 obtain rfl := Option.some.inj H
 go_enter Try.func105, Try.ntmps105
 go_wp2_with (first | ((with_reducible refine gate_dst (N := 1) rfl ?_); refine box_event ?hg (N := 1) ?hd (cs := #[.int .i64 a0_0, .int .i64 a0_1, .int .i64 a0_2]) (t := 88) ?hr ?_; (case hd => rfl); (case hg => rfl); (case hr => first | (go_simp; done) | (go_simp; rfl)); intro gb558 hg w2 hbox hb; have n0_ := Aside0.mk (below_step (by repeat (first | (with_reducible first | exact HB.out | apply below_alloc | apply pw_below_drewN | apply below_drew1) | exact HB.out)) hb); have n1_ := Aside0.mk (hbox); have n2_ := Aside0.mk ((by rw [hg]; exact (below_size (by repeat (first | (with_reducible first | exact HB.out | apply below_alloc | apply pw_below_drewN | apply below_drew1) | exact HB.out))) : w.heap.size ≤ gb558)); have n3_ := Aside0.mk ((by rw [hg]; exact (below_size (by repeat (first | (with_reducible first | exact HB.out | apply below_alloc | apply pw_below_drewN | apply below_drew1) | exact HB.out))) : w.heap.size ≤ gb558)); clear HB; have HB := n0_; have BK558 := n1_; have GW558 := n2_; have GE558 := n3_; clear n0_ n1_ n2_ n3_; clear hb hbox hg; have hcz3_0 : w2.cell? ⟨gb558, 0, none⟩ = some (.int .i64 a0_0) := (blk_cell BK558.out 0).trans rfl; have hcz3_1 : w2.cell? ⟨gb558, 1, none⟩ = some (.int .i64 a0_1) := (blk_cell BK558.out 1).trans rfl; have hcz3_2 : w2.cell? ⟨gb558, 2, none⟩ = some (.int .i64 a0_2) := (blk_cell BK558.out 2).trans rfl; have hfz3_0 := blk_frozen BK558.out 0; have hfz3_1 := blk_frozen BK558.out 1; have hfz3_2 := blk_frozen BK558.out 2))
 go_ret
 exact ⟨by first | rfl | (simp [errW_none, errW_some] <;> rfl) | (simp [*, errW_none, errW_some] <;> rfl), by repeat (first | (with_reducible first | exact HB.out | apply below_alloc | apply pw_below_drewN | apply below_drew1 | refine below_set ?_ GE558.out) | exact HB.out)⟩

end Go.Proofs.Ytkdfjomhichkoaa.P
-- Laid by a program of this work.
namespace Go.Proofs.Ytkdfjomhichkoaa.P
open Go.RowKit Go.Proofs.YtkdfjomhichkoaaW.PrintWords Go.Proofs.YtkdfjomhichkoaaW.PrintLast Go.Proofs.YtkdfjomhichkoaaW.PrintMore
attribute [local go_sem] max2_int min2_int max_two min_two max_three min_three max_four min_four   -- for this text's walks alone
set_option linter.unusedVariables false
set_option linter.unusedSimpArgs false

-- slices.ContainsFunc[[]loop.example/deadlinescheduler/impl.Task,loop.example/deadlinescheduler/impl.Task] at loop.example/deadlinescheduler/impl.implicit$1
def any_late.bad (x : S88) : Bool := x.f1 != x.f2
theorem any_late.is (x : S88) : impl_implicit_1.f x.f0 x.f1 x.f2 = some (any_late.bad x) := by
  unfold impl_implicit_1.f any_late.bad
  rfl
def any_late.f (l0 : List S88) : Option Bool := some (l0.any any_late.bad)
theorem any_late.calls (A0 : Option Addr) (c0 : Nat) (l0 : List S88) (r : Bool) (w : World) (hr0 : Kd.C k88 w A0 l0.length l0) (hc0 : l0.length ≤ c0) (h : any_late.f l0 = some r) :
    Calls Try.prog 104 #[.slice A0 l0.length c0, .func (.func 105) #[] #[]] w fun e w' => e = .returned (.bool r) ∧ Below w.heap.size w w' := by
  obtain rfl := Option.some.inj h
  exact anyTask_calls any_late.bad 105 #[] (enters_of Try.func105 (by kernel_rfl) rfl) A0 c0 l0 w (fun W' x _ => (impl_implicit_1.calls x.f0 x.f1 x.f2 _ W' (any_late.is x)).mono fun e w' hh => ⟨hh.1, hh.2⟩) hr0

end Go.Proofs.Ytkdfjomhichkoaa.P
-- Laid by a program of this work.
namespace Go.Proofs.Ytkdfjomhichkoaa.P
open Go.RowKit Go.Proofs.YtkdfjomhichkoaaW.PrintWords Go.Proofs.YtkdfjomhichkoaaW.PrintLast Go.Proofs.YtkdfjomhichkoaaW.PrintMore
attribute [local go_sem] max2_int min2_int max_two min_two max_three min_three max_four min_four   -- for this text's walks alone
set_option linter.unusedVariables false
set_option linter.unusedSimpArgs false

/-! ### impl_implicit: function 64 -/
def impl_implicit.f (l0 : List (S88)) : Option (Bool) := (impl_SetValid.f l0).bind fun t559 => (if t559 = true then ((any_late.f l0).bind fun t560 => (some (!t560))) else (some false))
set_option maxHeartbeats 8000000 in
set_option maxRecDepth 100000 in
theorem impl_implicit.calls (A0 : Option Addr) (c0 : Nat) (l0 : List (S88)) (r : Bool) (w : World) (hr0 : Kd.C k88 w A0 l0.length l0) (hc0 : l0.length ≤ c0) (h : impl_implicit.f l0 = some r) :
  Calls Try.prog 64 #[.slice A0 l0.length c0] w fun e w' => e = .returned (.bool r) ∧ Below w.heap.size w w' := by
 have HR0 := Aside0.mk hr0
 have HC0 := Aside0.mk hc0
 clear hr0 hc0
 have HB := Aside0.mk (Below.refl w.heap.size w)
 have H : ((impl_SetValid.f l0).bind fun t559 => (if t559 = true then ((any_late.f l0).bind fun t560 => (some (!t560))) else (some false))) = some r := h
 clear h
 replace H := Option.bind_eq_some_iff.mp H
 obtain ⟨t559, A20, H⟩ := H
 replace H : (if t559 = true then ((any_late.f l0).bind fun t560 => (some (!t560))) else (some false)) = some r := H
 have A2 := Aside0.mk A20
 clear A20
 by_cases c3 : t559 = true
 ·subst c3
  have H1 : ((any_late.f l0).bind fun t560 => (some (!t560))) = some r := by rw [if_pos rfl] at H; exact H
  clear H
  have H := H1
  clear H1
  replace H := Option.bind_eq_some_iff.mp H
  obtain ⟨t560, A40, H⟩ := H
  replace H : (some (!t560)) = some r := H
  have A4 := Aside0.mk A40
  clear A40
  obtain rfl := Option.some.inj H
  go_enter Try.func64, Try.ntmps64
  go_wp2_with (first | ((with_reducible refine gate_callee (f := 76) rfl ?_); refine goesL_ (some 4) rfl rfl Try.func76 (by kernel_rfl) rfl #[.slice A0 l0.length c0] rfl (by (try simp only [List.map_toArray, List.map_cons, List.map_nil]); first | done | rfl | (simp only [List.length_drop, List.length_take]; rfl)) ?_; (with_reducible refine (impl_SetValid.calls _ _ l0 true _ ?side1 ?side2 A2.out).mono ?_); (case side1 => repeat (first | exact HR0.out | (with_reducible refine Kd.C_alloc ?_ _) | (with_reducible refine Kd.C_drewN ?_ _) | (with_reducible refine Kd.C_drew ?_))); (case side2 => exact HC0.out); rintro e w5 ⟨rfl, hb⟩; refine ⟨_, rfl, ?_⟩; have n0_ := Aside0.mk (below_step (by repeat (first | (with_reducible first | exact HB.out | apply below_alloc | apply pw_below_drewN | apply below_drew1) | exact HB.out)) hb); clear HB; have HB := n0_; clear n0_; (try clear hb); (try clear hb2); (try clear hk); (try clear hi)) | (go_at_call 104; (with_reducible refine (any_late.calls _ _ l0  t560 _ ?side1 ?side2 A4.out).mono ?_); (case side1 => repeat (first | exact (Kd.C_below HR0.out HB.out) | (with_reducible refine Kd.C_alloc ?_ _) | (with_reducible refine Kd.C_drewN ?_ _) | (with_reducible refine Kd.C_drew ?_))); (case side2 => exact HC0.out); rintro e w6 ⟨rfl, hb⟩; have n0_ := Aside0.mk (below_step (by repeat (first | (with_reducible first | exact HB.out | apply below_alloc | apply pw_below_drewN | apply below_drew1) | exact HB.out)) hb); clear HB; have HB := n0_; clear n0_; (try clear hb); (try clear hb2); (try clear hk); (try clear hi)))
  go_ret
  exact ⟨by first | rfl | (simp [errW_none, errW_some] <;> rfl) | (simp [*, errW_none, errW_some] <;> rfl), by repeat (first | (with_reducible first | exact HB.out | apply below_alloc | apply pw_below_drewN | apply below_drew1) | exact HB.out)⟩
 ·replace c3 := Bool.eq_false_iff.mpr c3
  subst c3
  have H1 : (some false) = some r := by rw [if_neg (show ¬ (false = true) by decide)] at H; exact H
  clear H
  have H := H1
  clear H1
  obtain rfl := Option.some.inj H
  go_enter Try.func64, Try.ntmps64
  go_wp2_with (first | ((with_reducible refine gate_callee (f := 76) rfl ?_); refine goesL_ (some 4) rfl rfl Try.func76 (by kernel_rfl) rfl #[.slice A0 l0.length c0] rfl (by (try simp only [List.map_toArray, List.map_cons, List.map_nil]); first | done | rfl | (simp only [List.length_drop, List.length_take]; rfl)) ?_; (with_reducible refine (impl_SetValid.calls _ _ l0 false _ ?side1 ?side2 A2.out).mono ?_); (case side1 => repeat (first | exact HR0.out | (with_reducible refine Kd.C_alloc ?_ _) | (with_reducible refine Kd.C_drewN ?_ _) | (with_reducible refine Kd.C_drew ?_))); (case side2 => exact HC0.out); rintro e w7 ⟨rfl, hb⟩; refine ⟨_, rfl, ?_⟩; have n0_ := Aside0.mk (below_step (by repeat (first | (with_reducible first | exact HB.out | apply below_alloc | apply pw_below_drewN | apply below_drew1) | exact HB.out)) hb); clear HB; have HB := n0_; clear n0_; (try clear hb); (try clear hb2); (try clear hk); (try clear hi)))
  go_ret
  exact ⟨by first | rfl | (simp [errW_none, errW_some] <;> rfl) | (simp [*, errW_none, errW_some] <;> rfl), by repeat (first | (with_reducible first | exact HB.out | apply below_alloc | apply pw_below_drewN | apply below_drew1) | exact HB.out)⟩

end Go.Proofs.Ytkdfjomhichkoaa.P
/- A task set's validity, as one test. No condition. -/
namespace Go.Proofs.Ytkdfjomhichkoaa.Set
open Go.RowKit Go.Proofs.Ytkdfjomhichkoaa.P Go.Proofs.Ytkdfjomhichkoaa.Base Go.Proofs.Ytkdfjomhichkoaa.Alive Go.Proofs.YtkdfjomhichkoaaW.PrintWords Go.Proofs.YtkdfjomhichkoaaW.PrintLast
abbrev Task := S88
def TVt (t : Task) : Prop := TV t.f0 t.f1 t.f2
instance (t : Task) : Decidable (TVt t) := by unfold TVt; infer_instance
def SetOk (l : List Task) : Prop := l.length ≤ 5 ∧ ∀ t ∈ l, TVt t
instance (l : List Task) : Decidable (SetOk l) := by unfold SetOk; infer_instance
def Impl (l : List Task) : Prop := SetOk l ∧ ∀ t ∈ l, t.f1 = t.f2
instance (l : List Task) : Decidable (Impl l) := by unfold Impl; infer_instance
theorem taskOk_iff (t : Task) : taskOk t = decide (TVt t) := by
  unfold taskOk
  rw [decide_eq_decide]; unfold TVt TV; omega
theorem any_tasks_f (l : List Task) : any_tasks.f l = some (decide (¬ ∀ t ∈ l, TVt t)) := by
  unfold any_tasks.f
  congr 1
  rw [Bool.eq_iff_iff, List.any_eq_true]
  simp [any_tasks.bad, taskOk_iff]
theorem set_f (l : List Task) : impl_SetValid.f l = some (decide (SetOk l)) := by
  unfold impl_SetValid.f
  by_cases h : (l.length : Int) ≤ 5
  · rw [if_pos h, any_tasks_f]
    simp only [Option.bind_some]
    congr 1
    rw [Bool.eq_iff_iff]
    unfold SetOk
    have : l.length ≤ 5 := by omega
    simp [this]
  · rw [if_neg h]
    congr 1; symm; rw [decide_eq_false_iff_not]
    unfold SetOk; omega
end Go.Proofs.Ytkdfjomhichkoaa.Set
/- Demand and supply of a schedule, in plain Lean: sums, busy intervals, the demand of sporadic jobs. No condition. -/
namespace Go.Proofs.Ytkdfjomhichkoaa.Edf
/-- A sum over the numbers below n. -/
def su (f : Nat → Int) : Nat → Int
  | 0 => 0
  | n + 1 => su f n + f n
theorem su_congr {f g : Nat → Int} {n : Nat} (h : ∀ i, i < n → f i = g i) : su f n = su g n := by
  induction n with
  | zero => rfl
  | succ n ih => rw [su, su, ih (fun i hi => h i (by omega)), h n (by omega)]
theorem su_le {f g : Nat → Int} {n : Nat} (h : ∀ i, i < n → f i ≤ g i) : su f n ≤ su g n := by
  induction n with
  | zero => exact Int.le_refl _
  | succ n ih =>
    have h1 := ih (fun i hi => h i (by omega))
    have h2 := h n (by omega)
    rw [su, su]; omega
theorem su_zero (n : Nat) : su (fun _ => 0) n = 0 := by
  induction n with
  | zero => rfl
  | succ n ih => rw [su, ih]; rfl
theorem su_nonneg {f : Nat → Int} {n : Nat} (h : ∀ i, i < n → 0 ≤ f i) : 0 ≤ su f n := by
  have := su_le (f := fun _ => 0) (g := f) (n := n) h
  rw [su_zero] at this
  exact this
theorem su_add (f g : Nat → Int) (n : Nat) : su (fun i => f i + g i) n = su f n + su g n := by
  induction n with
  | zero => rfl
  | succ n ih => rw [su, su, su, ih]; omega
theorem su_ge {f : Nat → Int} {n j : Nat} (h : ∀ i, i < n → 0 ≤ f i) (hj : j < n) : f j ≤ su f n := by
  induction n with
  | zero => omega
  | succ n ih =>
    have h0 := su_nonneg (f := f) (n := n) (fun i hi => h i (by omega))
    have hn := h n (by omega)
    rw [su]
    by_cases e : j = n
    · subst e; omega
    · have := ih (fun i hi => h i (by omega)) (by omega)
      omega
theorem su_one {n j : Nat} (hj : j < n) (c : Int) : su (fun i => if i = j then c else 0) n = c := by
  induction n with
  | zero => omega
  | succ n ih =>
    rw [su]
    by_cases e : j = n
    · subst e
      have : su (fun i => if i = j then c else 0) j = su (fun _ => 0) j := su_congr fun i hi => if_neg (by omega)
      rw [this, su_zero, if_pos rfl]; omega
    · rw [ih (by omega), if_neg (by omega)]; omega
/-- What is left of the jobs, tick by tick; r: the job that runs, or -1. -/
structure Sch (n : Nat) (rel ex : Nat → Int) (L : Nat → Nat → Int) (r : Nat → Int) : Prop where
  start : ∀ i, i < n → L 0 i = ex i
  step : ∀ t i, i < n → L (t + 1) i = L t i - (if r t = (i : Int) then 1 else 0)
  rng : ∀ t, r t = -1 ∨ ∃ i, i < n ∧ r t = (i : Int) ∧ rel i ≤ (t : Int) ∧ 0 < L t i
  pos : ∀ i, i < n → 1 ≤ ex i
section
variable {n : Nat} {rel ex : Nat → Int} {L : Nat → Nat → Int} {r : Nat → Int}
theorem Sch.nonneg (h : Sch n rel ex L r) : ∀ t i, i < n → 0 ≤ L t i := by
  intro t
  induction t with
  | zero => intro i hi; rw [h.start i hi]; have := h.pos i hi; omega
  | succ t ih =>
    intro i hi
    rw [h.step t i hi]
    have h1 := ih i hi
    split
    · rename_i e
      rcases h.rng t with h2 | ⟨j, hj, h2, _, h3⟩
      · omega
      · have : i = j := by omega
        subst this; omega
    · omega
theorem Sch.mono (h : Sch n rel ex L r) (i : Nat) (hi : i < n) : ∀ s t, s ≤ t → L t i ≤ L s i := by
  intro s t hst
  induction t with
  | zero => obtain rfl : s = 0 := by omega
            exact Int.le_refl _
  | succ t ih =>
    by_cases e : s = t + 1
    · subst e; exact Int.le_refl _
    · have := ih (by omega)
      rw [h.step t i hi]
      split <;> omega
theorem Sch.le_ex (h : Sch n rel ex L r) (t i : Nat) (hi : i < n) : L t i ≤ ex i := by
  rw [← h.start i hi]
  exact h.mono i hi 0 t (by omega)
/-- Before its release a job is whole. -/
theorem Sch.whole (h : Sch n rel ex L r) (i : Nat) (hi : i < n) : ∀ t : Nat, (t : Int) ≤ rel i → L t i = ex i := by
  intro t
  induction t with
  | zero => intro _; exact h.start i hi
  | succ t ih =>
    intro ht
    rw [h.step t i hi, ih (by omega), if_neg]
    · omega
    · intro e
      rcases h.rng t with h2 | ⟨j, hj, h2, h3, _⟩
      · omega
      · have : i = j := by omega
        subst this; omega
end
section
variable {n m : Nat} {rel dl ex : Nat → Int} {L : Nat → Nat → Int} {r : Nat → Int} {tk : Nat → Nat} {P C : Nat → Int}
theorem started (h : Sch n rel ex L r) (hnp : ∀ t i, i < n → r t = (i : Int) → 0 < L (t + 1) i → r (t + 1) = (i : Int)) (i : Nat) (hi : i < n) :
    ∀ t, 0 < L t i → L t i < ex i → r t = (i : Int) ∧ 1 ≤ t ∧ r (t - 1) = (i : Int) := by
  intro t
  induction t with
  | zero => intro _ h2; rw [h.start i hi] at h2; omega
  | succ t ih =>
    intro h1 h2
    by_cases e : r t = (i : Int)
    · exact ⟨hnp t i hi e h1, by omega, by simpa using e⟩
    · have := h.step t i hi
      rw [if_neg e] at this
      have := (ih (by omega) (by omega)).1
      exact absurd this e
theorem starts (h : Sch n rel ex L r) (hnp : ∀ t i, i < n → r t = (i : Int) → 0 < L (t + 1) i → r (t + 1) = (i : Int)) (i : Nat) (hi : i < n) :
    ∀ t, r t = (i : Int) → ∃ s, s ≤ t ∧ L s i = ex i ∧ ∀ u, s ≤ u → u ≤ t → r u = (i : Int) := by
  intro t
  induction t with
  | zero =>
    intro hr
    refine ⟨0, Nat.le_refl _, h.start i hi, fun u _ hu => ?_⟩
    obtain rfl : u = 0 := by omega
    exact hr
  | succ t ih =>
    intro hr
    by_cases e : L (t + 1) i = ex i
    · refine ⟨t + 1, Nat.le_refl _, e, fun u h1 h2 => ?_⟩
      obtain rfl : u = t + 1 := by omega
      exact hr
    · have h1 := h.le_ex (t + 1) i hi
      have h2 : 0 < L (t + 1) i := by
        rcases h.rng (t + 1) with h3 | ⟨j, hj, h3, _, h4⟩
        · omega
        · obtain rfl : i = j := by omega
          exact h4
      have h3 := (started h hnp i hi (t + 1) h2 (by omega)).2.2
      obtain ⟨s, h4, h5, h6⟩ := ih (by simpa using h3)
      refine ⟨s, by omega, h5, fun u h7 h8 => ?_⟩
      by_cases e2 : u = t + 1
      · subst e2; exact hr
      · exact h6 u h7 (by omega)
end
end Go.Proofs.Ytkdfjomhichkoaa.Edf
