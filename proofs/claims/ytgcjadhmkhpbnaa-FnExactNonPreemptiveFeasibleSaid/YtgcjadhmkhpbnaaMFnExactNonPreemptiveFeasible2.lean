/- The law FnExactNonPreemptiveFeasible for every input, part 2 of its proof: what the program's functions answer, and the plain law. No condition. -/
import Derived.Test.YtgcjadhmkhpbnaaMFnExactNonPreemptiveFeasible1
import Derived.Test.YtgcjadhmkhpbnaaWMore
import Derived.Test.YtgcjadhmkhpbnaaWWords
import Derived.SizedLaws
import Derived.ChangeSlices
import Derived.ChangeArms
import Derived.WideShapes
import Derived.Deep.Slices
import Derived.OpenShut
import Derived.Test.YtgcjadhmkhpbnaaRows
import Derived.JoinedOf
import Derived.KernelRfl
import Derived.WalkKit
import Derived.ProofKit
import Derived.ShutString
import Derived.ChangeOld
import Derived.Below
-- Laid by a program of this work.
namespace Go.Proofs.Ytgcjadhmkhpbnaa.P
open Go.RowKit Go.Proofs.YtgcjadhmkhpbnaaW.PrintWords Go.Proofs.YtgcjadhmkhpbnaaW.PrintLast Go.Proofs.YtgcjadhmkhpbnaaW.PrintMore
attribute [local go_sem] max2_int min2_int max_two min_two max_three min_three max_four min_four   -- for this text's walks alone
set_option linter.unusedVariables false
set_option linter.unusedSimpArgs false

/-! ### impl_NonPreemptiveFeasible: function 30 -/
mutual
def impl_NonPreemptiveFeasible.j0 : Nat → List (S56) → Bool → Option (Bool)
  | 0, _, _ => none
  | k + 1, x0, x21 => if x21 = true then (some false) else (impl_NonPreemptiveFeasible.l0 k x0 12 x0 (x0.length : Int) 0)
def impl_NonPreemptiveFeasible.l0 : Nat → List (S56) → Int → List (S56) → Int → Int → Option (Bool)
  | 0, _, _, _, _, _ => none
  | k + 1, x0, x3, x22, x23, x24 => if x24 < x23 then (if 0 ≤ x24 then (if x24 < (x22.length : Int) then (impl_NonPreemptiveFeasible.l0 k x0 (mn x3 ((rd_T56 x22 x24).f2)) x22 x23 (wrap64 (x24 + 1))) else (none)) else (none)) else (impl_NonPreemptiveFeasible.l1 k x0 x3 x0 (x0.length : Int) 0)
def impl_NonPreemptiveFeasible.l1 : Nat → List (S56) → Int → List (S56) → Int → Int → Option (Bool)
  | 0, _, _, _, _, _ => none
  | k + 1, x0, x3, x33, x34, x35 => if x35 < x34 then (if 0 ≤ x35 then (if x35 < (x33.length : Int) then (impl_NonPreemptiveFeasible.l2 k x0 x3 (wrap64 (x3 + 1)) x33 x34 x35 ((rd_T56 x33 x35).f0) ((rd_T56 x33 x35).f1) ((rd_T56 x33 x35).f2)) else (none)) else (none)) else (some true)
def impl_NonPreemptiveFeasible.l2 : Nat → List (S56) → Int → Int → List (S56) → Int → Int → Int → Int → Int → Option (Bool)
  | 0, _, _, _, _, _, _, _, _, _ => none
  | k + 1, x0, x3, x8, x33, x34, x35, x380000, x380001, x380002 => if x8 < x380002 then (impl_NonPreemptiveFeasible.l3 k x0 x3 x8 x380000 x33 x34 x35 x0 (x0.length : Int) 0 x380000 x380001 x380002) else (impl_NonPreemptiveFeasible.l1 k x0 x3 x33 x34 (wrap64 (x35 + 1)))
def impl_NonPreemptiveFeasible.l3 : Nat → List (S56) → Int → Int → Int → List (S56) → Int → Int → List (S56) → Int → Int → Int → Int → Int → Option (Bool)
  | 0, _, _, _, _, _, _, _, _, _, _, _, _, _ => none
  | k + 1, x0, x3, x8, x9, x33, x34, x35, x49, x50, x51, x380000, x380001, x380002 => if x51 < x50 then (if 0 ≤ x51 then (if x51 < (x49.length : Int) then (if ((rd_T56 x49 x51).f2) < x380002 then (if ((rd_T56 x49 x51).f2) = 0 then (none) else (impl_NonPreemptiveFeasible.l3 k x0 x3 x8 (wrap64 (x9 + (wrap64 ((wrap64 (Int.tdiv (wrap64 (x8 - 1)) ((rd_T56 x49 x51).f2))) * ((rd_T56 x49 x51).f0))))) x33 x34 x35 x49 x50 (wrap64 (x51 + 1)) x380000 x380001 x380002)) else (impl_NonPreemptiveFeasible.l3 k x0 x3 x8 x9 x33 x34 x35 x49 x50 (wrap64 (x51 + 1)) x380000 x380001 x380002)) else (none)) else (none)) else (if x9 > x8 then (some false) else (impl_NonPreemptiveFeasible.l2 k x0 x3 (wrap64 (x8 + 1)) x33 x34 x35 x380000 x380001 x380002))
end
def impl_NonPreemptiveFeasible.f (k : Nat) (l0 : List (S56)) : Option (Bool) := (impl_implicit.f l0).bind fun t373 => (if t373 = true then ((impl_load.f k l0).bind fun t374 => ((impl_hyper.f k l0).bind fun t375 => (impl_NonPreemptiveFeasible.j0 k l0 (decide (t374 > t375))))) else (impl_NonPreemptiveFeasible.j0 k l0 true))
theorem impl_NonPreemptiveFeasible.mono_l : ∀ k, (∀ y0 y1, LeO (impl_NonPreemptiveFeasible.j0 k y0 y1) (impl_NonPreemptiveFeasible.j0 (k + 1) y0 y1)) ∧ (∀ y0 y1 y2 y3 y4, LeO (impl_NonPreemptiveFeasible.l0 k y0 y1 y2 y3 y4) (impl_NonPreemptiveFeasible.l0 (k + 1) y0 y1 y2 y3 y4)) ∧ (∀ y0 y1 y2 y3 y4, LeO (impl_NonPreemptiveFeasible.l1 k y0 y1 y2 y3 y4) (impl_NonPreemptiveFeasible.l1 (k + 1) y0 y1 y2 y3 y4)) ∧ (∀ y0 y1 y2 y3 y4 y5 y6 y7 y8, LeO (impl_NonPreemptiveFeasible.l2 k y0 y1 y2 y3 y4 y5 y6 y7 y8) (impl_NonPreemptiveFeasible.l2 (k + 1) y0 y1 y2 y3 y4 y5 y6 y7 y8)) ∧ (∀ y0 y1 y2 y3 y4 y5 y6 y7 y8 y9 y10 y11 y12, LeO (impl_NonPreemptiveFeasible.l3 k y0 y1 y2 y3 y4 y5 y6 y7 y8 y9 y10 y11 y12) (impl_NonPreemptiveFeasible.l3 (k + 1) y0 y1 y2 y3 y4 y5 y6 y7 y8 y9 y10 y11 y12))
  | 0 => ⟨fun _ _ r h => by simp [impl_NonPreemptiveFeasible.j0] at h, fun _ _ _ _ _ r h => by simp [impl_NonPreemptiveFeasible.l0] at h, fun _ _ _ _ _ r h => by simp [impl_NonPreemptiveFeasible.l1] at h, fun _ _ _ _ _ _ _ _ _ r h => by simp [impl_NonPreemptiveFeasible.l2] at h, fun _ _ _ _ _ _ _ _ _ _ _ _ _ r h => by simp [impl_NonPreemptiveFeasible.l3] at h⟩
  | k + 1 => by
    obtain ⟨ih0, ih1, ih2, ih3, ih4⟩ := impl_NonPreemptiveFeasible.mono_l k
    refine ⟨?_, ?_, ?_, ?_, ?_⟩
    · intro y0 y1
      unfold impl_NonPreemptiveFeasible.j0
      repeat' first
      | (with_reducible exact ih0 _ _)
      | (with_reducible exact ih1 _ _ _ _ _)
      | (with_reducible exact ih2 _ _ _ _ _)
      | (with_reducible exact ih3 _ _ _ _ _ _ _ _ _)
      | (with_reducible exact ih4 _ _ _ _ _ _ _ _ _ _ _ _ _)
      | (with_reducible exact impl_hyper.mono _ _)
      | (with_reducible exact impl_load.mono _ _)
      | (with_reducible exact LeO.refl _)
      | (with_reducible exact LeO.none _)
      | (with_reducible refine LeO.ite ?_ ?_)
      | (with_reducible refine LeO.bind ?_ (fun _ => ?_))
      | exact ih0 _ _
      | exact ih1 _ _ _ _ _
      | exact ih2 _ _ _ _ _
      | exact ih3 _ _ _ _ _ _ _ _ _
      | exact ih4 _ _ _ _ _ _ _ _ _ _ _ _ _
      | exact impl_hyper.mono _ _
      | exact impl_load.mono _ _
      | exact LeO.none _
      | refine LeO.ite ?_ ?_
      | refine LeO.bind ?_ (fun _ => ?_)
    · intro y0 y1 y2 y3 y4
      unfold impl_NonPreemptiveFeasible.l0
      repeat' first
      | (with_reducible exact ih0 _ _)
      | (with_reducible exact ih1 _ _ _ _ _)
      | (with_reducible exact ih2 _ _ _ _ _)
      | (with_reducible exact ih3 _ _ _ _ _ _ _ _ _)
      | (with_reducible exact ih4 _ _ _ _ _ _ _ _ _ _ _ _ _)
      | (with_reducible exact impl_hyper.mono _ _)
      | (with_reducible exact impl_load.mono _ _)
      | (with_reducible exact LeO.refl _)
      | (with_reducible exact LeO.none _)
      | (with_reducible refine LeO.ite ?_ ?_)
      | (with_reducible refine LeO.bind ?_ (fun _ => ?_))
      | exact ih0 _ _
      | exact ih1 _ _ _ _ _
      | exact ih2 _ _ _ _ _
      | exact ih3 _ _ _ _ _ _ _ _ _
      | exact ih4 _ _ _ _ _ _ _ _ _ _ _ _ _
      | exact impl_hyper.mono _ _
      | exact impl_load.mono _ _
      | exact LeO.none _
      | refine LeO.ite ?_ ?_
      | refine LeO.bind ?_ (fun _ => ?_)
    · intro y0 y1 y2 y3 y4
      unfold impl_NonPreemptiveFeasible.l1
      repeat' first
      | (with_reducible exact ih0 _ _)
      | (with_reducible exact ih1 _ _ _ _ _)
      | (with_reducible exact ih2 _ _ _ _ _)
      | (with_reducible exact ih3 _ _ _ _ _ _ _ _ _)
      | (with_reducible exact ih4 _ _ _ _ _ _ _ _ _ _ _ _ _)
      | (with_reducible exact impl_hyper.mono _ _)
      | (with_reducible exact impl_load.mono _ _)
      | (with_reducible exact LeO.refl _)
      | (with_reducible exact LeO.none _)
      | (with_reducible refine LeO.ite ?_ ?_)
      | (with_reducible refine LeO.bind ?_ (fun _ => ?_))
      | exact ih0 _ _
      | exact ih1 _ _ _ _ _
      | exact ih2 _ _ _ _ _
      | exact ih3 _ _ _ _ _ _ _ _ _
      | exact ih4 _ _ _ _ _ _ _ _ _ _ _ _ _
      | exact impl_hyper.mono _ _
      | exact impl_load.mono _ _
      | exact LeO.none _
      | refine LeO.ite ?_ ?_
      | refine LeO.bind ?_ (fun _ => ?_)
    · intro y0 y1 y2 y3 y4 y5 y6 y7 y8
      unfold impl_NonPreemptiveFeasible.l2
      repeat' first
      | (with_reducible exact ih0 _ _)
      | (with_reducible exact ih1 _ _ _ _ _)
      | (with_reducible exact ih2 _ _ _ _ _)
      | (with_reducible exact ih3 _ _ _ _ _ _ _ _ _)
      | (with_reducible exact ih4 _ _ _ _ _ _ _ _ _ _ _ _ _)
      | (with_reducible exact impl_hyper.mono _ _)
      | (with_reducible exact impl_load.mono _ _)
      | (with_reducible exact LeO.refl _)
      | (with_reducible exact LeO.none _)
      | (with_reducible refine LeO.ite ?_ ?_)
      | (with_reducible refine LeO.bind ?_ (fun _ => ?_))
      | exact ih0 _ _
      | exact ih1 _ _ _ _ _
      | exact ih2 _ _ _ _ _
      | exact ih3 _ _ _ _ _ _ _ _ _
      | exact ih4 _ _ _ _ _ _ _ _ _ _ _ _ _
      | exact impl_hyper.mono _ _
      | exact impl_load.mono _ _
      | exact LeO.none _
      | refine LeO.ite ?_ ?_
      | refine LeO.bind ?_ (fun _ => ?_)
    · intro y0 y1 y2 y3 y4 y5 y6 y7 y8 y9 y10 y11 y12
      unfold impl_NonPreemptiveFeasible.l3
      repeat' first
      | (with_reducible exact ih0 _ _)
      | (with_reducible exact ih1 _ _ _ _ _)
      | (with_reducible exact ih2 _ _ _ _ _)
      | (with_reducible exact ih3 _ _ _ _ _ _ _ _ _)
      | (with_reducible exact ih4 _ _ _ _ _ _ _ _ _ _ _ _ _)
      | (with_reducible exact impl_hyper.mono _ _)
      | (with_reducible exact impl_load.mono _ _)
      | (with_reducible exact LeO.refl _)
      | (with_reducible exact LeO.none _)
      | (with_reducible refine LeO.ite ?_ ?_)
      | (with_reducible refine LeO.bind ?_ (fun _ => ?_))
      | exact ih0 _ _
      | exact ih1 _ _ _ _ _
      | exact ih2 _ _ _ _ _
      | exact ih3 _ _ _ _ _ _ _ _ _
      | exact ih4 _ _ _ _ _ _ _ _ _ _ _ _ _
      | exact impl_hyper.mono _ _
      | exact impl_load.mono _ _
      | exact LeO.none _
      | refine LeO.ite ?_ ?_
      | refine LeO.bind ?_ (fun _ => ?_)
theorem impl_NonPreemptiveFeasible.mono : ∀ a0 k, LeO (impl_NonPreemptiveFeasible.f k a0) (impl_NonPreemptiveFeasible.f (k + 1) a0) := by
  intro a0 k
  obtain ⟨ih0, ih1, ih2, ih3, ih4⟩ := impl_NonPreemptiveFeasible.mono_l k
  unfold impl_NonPreemptiveFeasible.f
  repeat' first
      | (with_reducible exact ih0 _ _)
      | (with_reducible exact ih1 _ _ _ _ _)
      | (with_reducible exact ih2 _ _ _ _ _)
      | (with_reducible exact ih3 _ _ _ _ _ _ _ _ _)
      | (with_reducible exact ih4 _ _ _ _ _ _ _ _ _ _ _ _ _)
      | (with_reducible exact impl_hyper.mono _ _)
      | (with_reducible exact impl_load.mono _ _)
      | (with_reducible exact LeO.refl _)
      | (with_reducible exact LeO.none _)
      | (with_reducible refine LeO.ite ?_ ?_)
      | (with_reducible refine LeO.bind ?_ (fun _ => ?_))
      | exact ih0 _ _
      | exact ih1 _ _ _ _ _
      | exact ih2 _ _ _ _ _
      | exact ih3 _ _ _ _ _ _ _ _ _
      | exact ih4 _ _ _ _ _ _ _ _ _ _ _ _ _
      | exact impl_hyper.mono _ _
      | exact impl_load.mono _ _
      | exact LeO.none _
      | refine LeO.ite ?_ ?_
      | refine LeO.bind ?_ (fun _ => ?_)
set_option maxHeartbeats 8000000 in
set_option maxRecDepth 100000 in
theorem impl_NonPreemptiveFeasible.calls (k : Nat) (A0 : Option Addr) (c0 : Nat) (l0 : List (S56)) (r : Bool) (w : World) (hr0 : Kd.C k56 w A0 l0.length l0) (hc0 : l0.length ≤ c0) (h : impl_NonPreemptiveFeasible.f k l0 = some r) :
    Calls Try.prog 30 #[.slice A0 l0.length c0] w fun e w' => e = .returned (.bool r) ∧ Below w.heap.size w w' := by
  have hu56 := Try.underlying56
  have HR0 := Aside0.mk hr0
  have HC0 := Aside0.mk hc0
  clear hr0 hc0
  have HB := Aside0.mk (Below.refl w.heap.size w)
  have H : ((impl_implicit.f l0).bind fun t373 => (if t373 = true then ((impl_load.f k l0).bind fun t374 => ((impl_hyper.f k l0).bind fun t375 => (impl_NonPreemptiveFeasible.j0 k l0 (decide (t374 > t375))))) else (impl_NonPreemptiveFeasible.j0 k l0 true))) = some r := h
  clear h
  have HC2 := Aside0.mk H
  clear H
  go_enter Try.func30, Try.ntmps30
  go_upto_region 1 with (fail)
  repeat (go_quiet (fail); go_upto_region 1 with (fail))
  go_cut [21] (fun v21 wc => ∃ (kq : Nat) (x21_1 : Bool), v21 = .bool x21_1 ∧ Aside0 (impl_NonPreemptiveFeasible.j0 kq l0 x21_1 = some r) ∧ Aside0 (kq ≤ k) ∧ Aside0 (Below w.heap.size w wc))
  case first =>
    have H := HC2.out
    clear HC2
    replace H := Option.bind_eq_some_iff.mp H
    obtain ⟨t373, A30, H⟩ := H
    replace H : (if t373 = true then ((impl_load.f k l0).bind fun t374 => ((impl_hyper.f k l0).bind fun t375 => (impl_NonPreemptiveFeasible.j0 k l0 (decide (t374 > t375))))) else (impl_NonPreemptiveFeasible.j0 k l0 true)) = some r := H
    have A3 := Aside0.mk A30
    clear A30
    by_cases c4 : t373 = true
    · subst c4
      have H1 : ((impl_load.f k l0).bind fun t374 => ((impl_hyper.f k l0).bind fun t375 => (impl_NonPreemptiveFeasible.j0 k l0 (decide (t374 > t375))))) = some r := by rw [if_pos rfl] at H; exact H
      clear H
      have H := H1
      clear H1
      replace H := Option.bind_eq_some_iff.mp H
      obtain ⟨t374, A50, H⟩ := H
      replace H : ((impl_hyper.f k l0).bind fun t375 => (impl_NonPreemptiveFeasible.j0 k l0 (decide (t374 > t375)))) = some r := H
      have A5 := Aside0.mk A50
      clear A50
      replace H := Option.bind_eq_some_iff.mp H
      obtain ⟨t375, A60, H⟩ := H
      replace H : (impl_NonPreemptiveFeasible.j0 k l0 (decide (t374 > t375))) = some r := H
      have A6 := Aside0.mk A60
      clear A60
      have H' := Aside0.mk H
      clear H
      go_wp2_with (first | (go_at_call 54; (with_reducible refine (impl_implicit.calls _ _ l0 true _ ?side1 ?side2 A3.out).mono ?_); (case side1 => repeat (first | exact (Kd.C_below HR0.out HB.out) | (with_reducible refine Kd.C_alloc ?_ _) | (with_reducible refine Kd.C_drewN ?_ _) | (with_reducible refine Kd.C_drew ?_))); (case side2 => exact HC0.out); rintro e w7 ⟨rfl, hb⟩; have n0_ := Aside0.mk (below_step (by repeat (first | (with_reducible first | exact HB.out | apply below_alloc | apply pw_below_drewN | apply below_drew1) | exact HB.out)) hb); clear HB; have HB := n0_; clear n0_; (try clear hb); (try clear hb2); (try clear hk); (try clear hi)) | (go_at_call 65; (with_reducible refine (impl_load.calls k _ _ l0 t374 _ ?side1 ?side2 A5.out).mono ?_); (case side1 => repeat (first | exact (Kd.C_below HR0.out HB.out) | (with_reducible refine Kd.C_alloc ?_ _) | (with_reducible refine Kd.C_drewN ?_ _) | (with_reducible refine Kd.C_drew ?_))); (case side2 => exact HC0.out); rintro e w8 ⟨rfl, hb⟩; have n0_ := Aside0.mk (below_step (by repeat (first | (with_reducible first | exact HB.out | apply below_alloc | apply pw_below_drewN | apply below_drew1) | exact HB.out)) hb); clear HB; have HB := n0_; clear n0_; (try clear hb); (try clear hb2); (try clear hk); (try clear hi)) | (go_at_call 66; (with_reducible refine (impl_hyper.calls k _ _ l0 t375 _ ?side1 ?side2 A6.out).mono ?_); (case side1 => repeat (first | exact (Kd.C_below HR0.out HB.out) | (with_reducible refine Kd.C_alloc ?_ _) | (with_reducible refine Kd.C_drewN ?_ _) | (with_reducible refine Kd.C_drew ?_))); (case side2 => exact HC0.out); rintro e w9 ⟨rfl, hb⟩; have n0_ := Aside0.mk (below_step (by repeat (first | (with_reducible first | exact HB.out | apply below_alloc | apply pw_below_drewN | apply below_drew1) | exact HB.out)) hb); clear HB; have HB := n0_; clear n0_; (try clear hb); (try clear hb2); (try clear hk); (try clear hi)))
      repeat (go_quiet (first | (go_at_call 54; (with_reducible refine (impl_implicit.calls _ _ l0 true _ ?side1 ?side2 A3.out).mono ?_); (case side1 => repeat (first | exact (Kd.C_below HR0.out HB.out) | (with_reducible refine Kd.C_alloc ?_ _) | (with_reducible refine Kd.C_drewN ?_ _) | (with_reducible refine Kd.C_drew ?_))); (case side2 => exact HC0.out); rintro e w7 ⟨rfl, hb⟩; have n0_ := Aside0.mk (below_step (by repeat (first | (with_reducible first | exact HB.out | apply below_alloc | apply pw_below_drewN | apply below_drew1) | exact HB.out)) hb); clear HB; have HB := n0_; clear n0_; (try clear hb); (try clear hb2); (try clear hk); (try clear hi)) | (go_at_call 65; (with_reducible refine (impl_load.calls k _ _ l0 t374 _ ?side1 ?side2 A5.out).mono ?_); (case side1 => repeat (first | exact (Kd.C_below HR0.out HB.out) | (with_reducible refine Kd.C_alloc ?_ _) | (with_reducible refine Kd.C_drewN ?_ _) | (with_reducible refine Kd.C_drew ?_))); (case side2 => exact HC0.out); rintro e w8 ⟨rfl, hb⟩; have n0_ := Aside0.mk (below_step (by repeat (first | (with_reducible first | exact HB.out | apply below_alloc | apply pw_below_drewN | apply below_drew1) | exact HB.out)) hb); clear HB; have HB := n0_; clear n0_; (try clear hb); (try clear hb2); (try clear hk); (try clear hi)) | (go_at_call 66; (with_reducible refine (impl_hyper.calls k _ _ l0 t375 _ ?side1 ?side2 A6.out).mono ?_); (case side1 => repeat (first | exact (Kd.C_below HR0.out HB.out) | (with_reducible refine Kd.C_alloc ?_ _) | (with_reducible refine Kd.C_drewN ?_ _) | (with_reducible refine Kd.C_drew ?_))); (case side2 => exact HC0.out); rintro e w9 ⟨rfl, hb⟩; have n0_ := Aside0.mk (below_step (by repeat (first | (with_reducible first | exact HB.out | apply below_alloc | apply pw_below_drewN | apply below_drew1) | exact HB.out)) hb); clear HB; have HB := n0_; clear n0_; (try clear hb); (try clear hb2); (try clear hk); (try clear hi))); try go_wp2_with (first | (go_at_call 54; (with_reducible refine (impl_implicit.calls _ _ l0 true _ ?side1 ?side2 A3.out).mono ?_); (case side1 => repeat (first | exact (Kd.C_below HR0.out HB.out) | (with_reducible refine Kd.C_alloc ?_ _) | (with_reducible refine Kd.C_drewN ?_ _) | (with_reducible refine Kd.C_drew ?_))); (case side2 => exact HC0.out); rintro e w7 ⟨rfl, hb⟩; have n0_ := Aside0.mk (below_step (by repeat (first | (with_reducible first | exact HB.out | apply below_alloc | apply pw_below_drewN | apply below_drew1) | exact HB.out)) hb); clear HB; have HB := n0_; clear n0_; (try clear hb); (try clear hb2); (try clear hk); (try clear hi)) | (go_at_call 65; (with_reducible refine (impl_load.calls k _ _ l0 t374 _ ?side1 ?side2 A5.out).mono ?_); (case side1 => repeat (first | exact (Kd.C_below HR0.out HB.out) | (with_reducible refine Kd.C_alloc ?_ _) | (with_reducible refine Kd.C_drewN ?_ _) | (with_reducible refine Kd.C_drew ?_))); (case side2 => exact HC0.out); rintro e w8 ⟨rfl, hb⟩; have n0_ := Aside0.mk (below_step (by repeat (first | (with_reducible first | exact HB.out | apply below_alloc | apply pw_below_drewN | apply below_drew1) | exact HB.out)) hb); clear HB; have HB := n0_; clear n0_; (try clear hb); (try clear hb2); (try clear hk); (try clear hi)) | (go_at_call 66; (with_reducible refine (impl_hyper.calls k _ _ l0 t375 _ ?side1 ?side2 A6.out).mono ?_); (case side1 => repeat (first | exact (Kd.C_below HR0.out HB.out) | (with_reducible refine Kd.C_alloc ?_ _) | (with_reducible refine Kd.C_drewN ?_ _) | (with_reducible refine Kd.C_drew ?_))); (case side2 => exact HC0.out); rintro e w9 ⟨rfl, hb⟩; have n0_ := Aside0.mk (below_step (by repeat (first | (with_reducible first | exact HB.out | apply below_alloc | apply pw_below_drewN | apply below_drew1) | exact HB.out)) hb); clear HB; have HB := n0_; clear n0_; (try clear hb); (try clear hb2); (try clear hk); (try clear hi))))
      go_meet
      case rel => exact ⟨_, (decide (t374 > t375)), (by first | rfl | (simp; done) | (simp [*]; done)), H', ⟨by first | omega | exact Nat.le_refl _⟩, ⟨by repeat (first | (with_reducible first | exact HB.out | apply below_alloc | apply pw_below_drewN | apply below_drew1) | exact HB.out)⟩⟩
    · replace c4 := Bool.eq_false_iff.mpr c4
      subst c4
      have H1 : (impl_NonPreemptiveFeasible.j0 k l0 true) = some r := by rw [if_neg (show ¬ (false = true) by decide)] at H; exact H
      clear H
      have H := H1
      clear H1
      have H' := Aside0.mk H
      clear H
      go_wp2_with (first | (go_at_call 54; (with_reducible refine (impl_implicit.calls _ _ l0 false _ ?side1 ?side2 A3.out).mono ?_); (case side1 => repeat (first | exact (Kd.C_below HR0.out HB.out) | (with_reducible refine Kd.C_alloc ?_ _) | (with_reducible refine Kd.C_drewN ?_ _) | (with_reducible refine Kd.C_drew ?_))); (case side2 => exact HC0.out); rintro e w10 ⟨rfl, hb⟩; have n0_ := Aside0.mk (below_step (by repeat (first | (with_reducible first | exact HB.out | apply below_alloc | apply pw_below_drewN | apply below_drew1) | exact HB.out)) hb); clear HB; have HB := n0_; clear n0_; (try clear hb); (try clear hb2); (try clear hk); (try clear hi)))
      repeat (go_quiet (first | (go_at_call 54; (with_reducible refine (impl_implicit.calls _ _ l0 false _ ?side1 ?side2 A3.out).mono ?_); (case side1 => repeat (first | exact (Kd.C_below HR0.out HB.out) | (with_reducible refine Kd.C_alloc ?_ _) | (with_reducible refine Kd.C_drewN ?_ _) | (with_reducible refine Kd.C_drew ?_))); (case side2 => exact HC0.out); rintro e w10 ⟨rfl, hb⟩; have n0_ := Aside0.mk (below_step (by repeat (first | (with_reducible first | exact HB.out | apply below_alloc | apply pw_below_drewN | apply below_drew1) | exact HB.out)) hb); clear HB; have HB := n0_; clear n0_; (try clear hb); (try clear hb2); (try clear hk); (try clear hi))); try go_wp2_with (first | (go_at_call 54; (with_reducible refine (impl_implicit.calls _ _ l0 false _ ?side1 ?side2 A3.out).mono ?_); (case side1 => repeat (first | exact (Kd.C_below HR0.out HB.out) | (with_reducible refine Kd.C_alloc ?_ _) | (with_reducible refine Kd.C_drewN ?_ _) | (with_reducible refine Kd.C_drew ?_))); (case side2 => exact HC0.out); rintro e w10 ⟨rfl, hb⟩; have n0_ := Aside0.mk (below_step (by repeat (first | (with_reducible first | exact HB.out | apply below_alloc | apply pw_below_drewN | apply below_drew1) | exact HB.out)) hb); clear HB; have HB := n0_; clear n0_; (try clear hb); (try clear hb2); (try clear hk); (try clear hi))))
      go_meet
      case rel => exact ⟨_, (true), (by first | rfl | (simp; done) | (simp [*]; done)), H', ⟨by first | omega | exact Nat.le_refl _⟩, ⟨by repeat (first | (with_reducible first | exact HB.out | apply below_alloc | apply pw_below_drewN | apply below_drew1) | exact HB.out)⟩⟩
  case rest =>
    clear HC2
    try clear p2
    try clear c3
    try clear c4
    obtain ⟨kq, x21_1, rfl, HA, HJ1, HB⟩ := hcut
    cases kq with
    | zero => exact absurd HA.out (by simp [impl_NonPreemptiveFeasible.j0])
    | succ kj1 =>
      have H := HA.out
      clear HA
      simp only [impl_NonPreemptiveFeasible.j0] at H
      by_cases c11 : x21_1 = true
      · subst c11
        have H1 : (some false) = some r := by rw [if_pos rfl] at H; exact H
        clear H
        have H := H1
        clear H1
        obtain rfl := Option.some.inj H
        go_wp2
        repeat (go_quiet (fail); try go_wp2)
        go_ret
        exact ⟨by first | rfl | (simp [errW_none, errW_some] <;> rfl) | (simp [*, errW_none, errW_some] <;> rfl), by repeat (first | (with_reducible first | exact HB.out | apply below_alloc | apply pw_below_drewN | apply below_drew1) | exact HB.out)⟩
      · replace c11 := Bool.eq_false_iff.mpr c11
        subst c11
        have H1 : (impl_NonPreemptiveFeasible.l0 kj1 l0 12 l0 (l0.length : Int) 0) = some r := by rw [if_neg (show ¬ (false = true) by decide)] at H; exact H
        clear H
        have H := H1
        clear H1
        have H' := Aside0.mk H
        clear H
        go_wp2
        repeat (go_quiet (fail); try go_wp2)
        go_loopg [3, 24] kj1 (fun kq v3 v24 w' => ∃ (x3_2 : Int) (x24_2 : Int), v3 = .int .i64 x3_2 ∧ v24 = .int .i64 x24_2 ∧ Aside0 (impl_NonPreemptiveFeasible.l0 kq l0 x3_2 l0 (l0.length : Int) x24_2 = some r) ∧ Aside0 (kq ≤ kj1) ∧ Aside0 (Below w.heap.size w w'))
        case atStart => exact ⟨(12), (0), (by first | rfl | (simp; done) | (simp [*]; done)), (by first | rfl | (simp; done) | (simp [*]; done)), H', ⟨Nat.le_refl _⟩, ⟨by repeat (first | (with_reducible first | exact HB.out | apply below_alloc | apply pw_below_drewN | apply below_drew1) | exact HB.out)⟩⟩
        case round =>
          clear H'
          try clear c1
          try clear p2
          try clear c3
          try clear c4
          try clear c11
          try clear p2
          obtain ⟨x3_2, x24_2, rfl, rfl, HA, HK2, HB⟩ := hrel
          cases gk with
          | zero => exact absurd HA.out (by simp [impl_NonPreemptiveFeasible.l0])
          | succ k2 =>
            have H := HA.out
            clear HA
            simp only [impl_NonPreemptiveFeasible.l0] at H
            by_cases c12 : x24_2 < (l0.length : Int)
            · rw [if_pos c12] at H
              have c12b0 : decide (x24_2 < (l0.length : Int)) = true := decide_eq_true c12
              clear c12
              by_cases c13 : 0 ≤ x24_2
              · rw [if_pos c13] at H
                have c13b0 : decide (0 ≤ x24_2) = true := decide_eq_true c13
                clear c13
                by_cases c14 : x24_2 < (l0.length : Int)
                · rw [if_pos c14] at H
                  have c14b0 : decide (x24_2 < (l0.length : Int)) = true := decide_eq_true c14
                  clear c14
                  obtain ⟨ji15, hji15⟩ : ∃ j_ : Int, (mn x3_2 ((rd_T56 l0 x24_2).f2)) = j_ := ⟨_, rfl⟩
                  replace H : (impl_NonPreemptiveFeasible.l0 k2 l0 ji15 l0 (l0.length : Int) (wrap64 (x24_2 + 1))) = some r := by first | (rw [hji15] at H; exact H) | (simp only [hji15] at H ⊢; exact H)
                  have hji15_ : (if ((rd_T56 l0 x24_2).f2) < x3_2 then ((rd_T56 l0 x24_2).f2) else x3_2) = ji15 := hji15
                  have H' := Aside0.mk H
                  clear H
                  have p376 : 0 ≤ (x24_2 : Int) := of_decide_eq_true (by first | (with_reducible assumption) | assumption)
                  have q376 : x24_2 < (l0.length : Int) := of_decide_eq_true (by first | (with_reducible assumption) | assumption)
                  obtain ⟨ad376, e376, hx376_0, hx376_1, hx376_2⟩ := at_T56 HR0.out x24_2 p376 q376
                  cases e376
                  replace hx376_0 := (HB.out.cell (World.block_lt_of_cell? w _ hx376_0)).trans hx376_0
                  replace hx376_1 := (HB.out.cell (World.block_lt_of_cell? w _ hx376_1)).trans hx376_1
                  replace hx376_2 := (HB.out.cell (World.block_lt_of_cell? w _ hx376_2)).trans hx376_2
                  replace p376 := eq_true p376
                  replace q376 := eq_true q376
                  go_wp2_with (first | ((with_reducible refine gate_dst (N := 5) rfl ?_); refine box_event ?hg (N := 5) ?hd (cs := #[.int .i64 0, .int .i64 0, .int .i64 0]) (t := 56) ?hr ?_; (case hd => rfl); (case hg => rfl); (case hr => first | (go_simp; done) | (go_simp; rfl)); intro gb377 hg w16 hbox hb; have n0_ := Aside0.mk (below_step (by repeat (first | (with_reducible first | exact HB.out | apply below_alloc | apply pw_below_drewN | apply below_drew1) | exact HB.out)) hb); have n1_ := Aside0.mk (hbox); have n2_ := Aside0.mk ((by rw [hg]; exact (below_size (by repeat (first | (with_reducible first | exact HB.out | apply below_alloc | apply pw_below_drewN | apply below_drew1) | exact HB.out))) : w.heap.size ≤ gb377)); have n3_ := Aside0.mk ((by rw [hg]; exact (below_size (by repeat (first | (with_reducible first | exact HB.out | apply below_alloc | apply pw_below_drewN | apply below_drew1) | exact HB.out))) : w.heap.size ≤ gb377)); clear HB; have HB := n0_; have BK377 := n1_; have GW377 := n2_; have GE377 := n3_; clear n0_ n1_ n2_ n3_; clear hb hbox hg; have hcz17_0 : w16.cell? ⟨gb377, 0, none⟩ = some (.int .i64 0) := (blk_cell BK377.out 0).trans rfl; have hcz17_1 : w16.cell? ⟨gb377, 1, none⟩ = some (.int .i64 0) := (blk_cell BK377.out 1).trans rfl; have hcz17_2 : w16.cell? ⟨gb377, 2, none⟩ = some (.int .i64 0) := (blk_cell BK377.out 2).trans rfl; have hfz17_0 := blk_frozen BK377.out 0; have hfz17_1 := blk_frozen BK377.out 1; have hfz17_2 := blk_frozen BK377.out 2))
                  repeat (go_quiet (first | ((with_reducible refine gate_dst (N := 5) rfl ?_); refine box_event ?hg (N := 5) ?hd (cs := #[.int .i64 0, .int .i64 0, .int .i64 0]) (t := 56) ?hr ?_; (case hd => rfl); (case hg => rfl); (case hr => first | (go_simp; done) | (go_simp; rfl)); intro gb377 hg w16 hbox hb; have n0_ := Aside0.mk (below_step (by repeat (first | (with_reducible first | exact HB.out | apply below_alloc | apply pw_below_drewN | apply below_drew1) | exact HB.out)) hb); have n1_ := Aside0.mk (hbox); have n2_ := Aside0.mk ((by rw [hg]; exact (below_size (by repeat (first | (with_reducible first | exact HB.out | apply below_alloc | apply pw_below_drewN | apply below_drew1) | exact HB.out))) : w.heap.size ≤ gb377)); have n3_ := Aside0.mk ((by rw [hg]; exact (below_size (by repeat (first | (with_reducible first | exact HB.out | apply below_alloc | apply pw_below_drewN | apply below_drew1) | exact HB.out))) : w.heap.size ≤ gb377)); clear HB; have HB := n0_; have BK377 := n1_; have GW377 := n2_; have GE377 := n3_; clear n0_ n1_ n2_ n3_; clear hb hbox hg; have hcz17_0 : w16.cell? ⟨gb377, 0, none⟩ = some (.int .i64 0) := (blk_cell BK377.out 0).trans rfl; have hcz17_1 : w16.cell? ⟨gb377, 1, none⟩ = some (.int .i64 0) := (blk_cell BK377.out 1).trans rfl; have hcz17_2 : w16.cell? ⟨gb377, 2, none⟩ = some (.int .i64 0) := (blk_cell BK377.out 2).trans rfl; have hfz17_0 := blk_frozen BK377.out 0; have hfz17_1 := blk_frozen BK377.out 1; have hfz17_2 := blk_frozen BK377.out 2)); try go_wp2_with (first | ((with_reducible refine gate_dst (N := 5) rfl ?_); refine box_event ?hg (N := 5) ?hd (cs := #[.int .i64 0, .int .i64 0, .int .i64 0]) (t := 56) ?hr ?_; (case hd => rfl); (case hg => rfl); (case hr => first | (go_simp; done) | (go_simp; rfl)); intro gb377 hg w16 hbox hb; have n0_ := Aside0.mk (below_step (by repeat (first | (with_reducible first | exact HB.out | apply below_alloc | apply pw_below_drewN | apply below_drew1) | exact HB.out)) hb); have n1_ := Aside0.mk (hbox); have n2_ := Aside0.mk ((by rw [hg]; exact (below_size (by repeat (first | (with_reducible first | exact HB.out | apply below_alloc | apply pw_below_drewN | apply below_drew1) | exact HB.out))) : w.heap.size ≤ gb377)); have n3_ := Aside0.mk ((by rw [hg]; exact (below_size (by repeat (first | (with_reducible first | exact HB.out | apply below_alloc | apply pw_below_drewN | apply below_drew1) | exact HB.out))) : w.heap.size ≤ gb377)); clear HB; have HB := n0_; have BK377 := n1_; have GW377 := n2_; have GE377 := n3_; clear n0_ n1_ n2_ n3_; clear hb hbox hg; have hcz17_0 : w16.cell? ⟨gb377, 0, none⟩ = some (.int .i64 0) := (blk_cell BK377.out 0).trans rfl; have hcz17_1 : w16.cell? ⟨gb377, 1, none⟩ = some (.int .i64 0) := (blk_cell BK377.out 1).trans rfl; have hcz17_2 : w16.cell? ⟨gb377, 2, none⟩ = some (.int .i64 0) := (blk_cell BK377.out 2).trans rfl; have hfz17_0 := blk_frozen BK377.out 0; have hfz17_1 := blk_frozen BK377.out 1; have hfz17_2 := blk_frozen BK377.out 2)))
                  go_roundg k2
                  case measure => have := HJ1.out; have := HK2.out; omega
                  case rel => exact ⟨(ji15), (wrap64 (x24_2 + 1)), (by first | rfl | (simp; done) | (simp only [← hji15] <;> (first | rfl | simp)) | (simp [*]; done)), (by first | rfl | (simp; done) | (simp [*]; done)), H', ⟨by have := HJ1.out; have := HK2.out; omega⟩, ⟨by repeat (first | (with_reducible first | exact HB.out | apply below_alloc | apply pw_below_drewN | apply below_drew1 | refine below_set ?_ GE377.out) | exact HB.out)⟩⟩
                · rw [if_neg c14] at H
                  exact absurd H (by simp)
              · rw [if_neg c13] at H
                exact absurd H (by simp)
            · rw [if_neg c12] at H
              have c12b0 : decide (x24_2 < (l0.length : Int)) = false := decide_eq_false c12
              clear c12
              have H' := Aside0.mk H
              clear H
              go_wp2
              repeat (go_quiet (fail); try go_wp2)
              go_loopg [35] k2 (fun kq v35 w' => ∃ (x35_3 : Int), v35 = .int .i64 x35_3 ∧ Aside0 (impl_NonPreemptiveFeasible.l1 kq l0 x3_2 l0 (l0.length : Int) x35_3 = some r) ∧ Aside0 (kq ≤ k2) ∧ Aside0 (Below w.heap.size w w'))
              case atStart => exact ⟨(0), (by first | rfl | (simp; done) | (simp [*]; done)), H', ⟨Nat.le_refl _⟩, ⟨by repeat (first | (with_reducible first | exact HB.out | apply below_alloc | apply pw_below_drewN | apply below_drew1) | exact HB.out)⟩⟩
              case round =>
                clear H'
                try clear c1
                try clear p2
                try clear c3
                try clear p3
                try clear q3
                try clear hx3
                try clear c4
                try clear p6
                try clear c11
                try clear c12
                try clear c12b0
                try clear c13
                try clear c13b0
                try clear c14
                try clear c14b0
                try clear hcz17_0
                try clear hcz17_1
                try clear hcz17_2
                try clear hfz17_0
                try clear hfz17_1
                try clear hfz17_2
                try clear hx376_0
                try clear hx376_1
                try clear hx376_2
                try clear p2
                try clear p376
                try clear q376
                obtain ⟨x35_3, rfl, HA, HK3, HB⟩ := hrel
                cases gk with
                | zero => exact absurd HA.out (by simp [impl_NonPreemptiveFeasible.l1])
                | succ k3 =>
                  have H := HA.out
                  clear HA
                  simp only [impl_NonPreemptiveFeasible.l1] at H
                  by_cases c18 : x35_3 < (l0.length : Int)
                  · rw [if_pos c18] at H
                    have c18b0 : decide (x35_3 < (l0.length : Int)) = true := decide_eq_true c18
                    clear c18
                    by_cases c19 : 0 ≤ x35_3
                    · rw [if_pos c19] at H
                      have c19b0 : decide (0 ≤ x35_3) = true := decide_eq_true c19
                      clear c19
                      by_cases c20 : x35_3 < (l0.length : Int)
                      · rw [if_pos c20] at H
                        have c20b0 : decide (x35_3 < (l0.length : Int)) = true := decide_eq_true c20
                        clear c20
                        have H' := Aside0.mk H
                        clear H
                        have p378 : 0 ≤ (x35_3 : Int) := of_decide_eq_true (by first | (with_reducible assumption) | assumption)
                        have q378 : x35_3 < (l0.length : Int) := of_decide_eq_true (by first | (with_reducible assumption) | assumption)
                        obtain ⟨ad378, e378, hx378_0, hx378_1, hx378_2⟩ := at_T56 HR0.out x35_3 p378 q378
                        cases e378
                        replace hx378_0 := (HB.out.cell (World.block_lt_of_cell? w _ hx378_0)).trans hx378_0
                        replace hx378_1 := (HB.out.cell (World.block_lt_of_cell? w _ hx378_1)).trans hx378_1
                        replace hx378_2 := (HB.out.cell (World.block_lt_of_cell? w _ hx378_2)).trans hx378_2
                        replace p378 := eq_true p378
                        replace q378 := eq_true q378
                        go_wp2_with (first | ((with_reducible refine gate_dst (N := 7) rfl ?_); refine box_event ?hg (N := 7) ?hd (cs := #[.int .i64 0, .int .i64 0, .int .i64 0]) (t := 56) ?hr ?_; (case hd => rfl); (case hg => rfl); (case hr => first | (go_simp; done) | (go_simp; rfl)); intro gb379 hg w21 hbox hb; have n0_ := Aside0.mk (below_step (by repeat (first | (with_reducible first | exact HB.out | apply below_alloc | apply pw_below_drewN | apply below_drew1) | exact HB.out)) hb); have n1_ := Aside0.mk (hbox); have n2_ := Aside0.mk ((by rw [hg]; exact (below_size (by repeat (first | (with_reducible first | exact HB.out | apply below_alloc | apply pw_below_drewN | apply below_drew1) | exact HB.out))) : w.heap.size ≤ gb379)); have n3_ := Aside0.mk ((by rw [hg]; exact (below_size (by repeat (first | (with_reducible first | exact HB.out | apply below_alloc | apply pw_below_drewN | apply below_drew1) | exact HB.out))) : w.heap.size ≤ gb379)); clear HB; have HB := n0_; have BK379 := n1_; have GW379 := n2_; have GE379 := n3_; clear n0_ n1_ n2_ n3_; clear hb hbox hg; have hcz22_0 : w21.cell? ⟨gb379, 0, none⟩ = some (.int .i64 0) := (blk_cell BK379.out 0).trans rfl; have hcz22_1 : w21.cell? ⟨gb379, 1, none⟩ = some (.int .i64 0) := (blk_cell BK379.out 1).trans rfl; have hcz22_2 : w21.cell? ⟨gb379, 2, none⟩ = some (.int .i64 0) := (blk_cell BK379.out 2).trans rfl; have hfz22_0 := blk_frozen BK379.out 0; have hfz22_1 := blk_frozen BK379.out 1; have hfz22_2 := blk_frozen BK379.out 2))
                        repeat (go_quiet (first | ((with_reducible refine gate_dst (N := 7) rfl ?_); refine box_event ?hg (N := 7) ?hd (cs := #[.int .i64 0, .int .i64 0, .int .i64 0]) (t := 56) ?hr ?_; (case hd => rfl); (case hg => rfl); (case hr => first | (go_simp; done) | (go_simp; rfl)); intro gb379 hg w21 hbox hb; have n0_ := Aside0.mk (below_step (by repeat (first | (with_reducible first | exact HB.out | apply below_alloc | apply pw_below_drewN | apply below_drew1) | exact HB.out)) hb); have n1_ := Aside0.mk (hbox); have n2_ := Aside0.mk ((by rw [hg]; exact (below_size (by repeat (first | (with_reducible first | exact HB.out | apply below_alloc | apply pw_below_drewN | apply below_drew1) | exact HB.out))) : w.heap.size ≤ gb379)); have n3_ := Aside0.mk ((by rw [hg]; exact (below_size (by repeat (first | (with_reducible first | exact HB.out | apply below_alloc | apply pw_below_drewN | apply below_drew1) | exact HB.out))) : w.heap.size ≤ gb379)); clear HB; have HB := n0_; have BK379 := n1_; have GW379 := n2_; have GE379 := n3_; clear n0_ n1_ n2_ n3_; clear hb hbox hg; have hcz22_0 : w21.cell? ⟨gb379, 0, none⟩ = some (.int .i64 0) := (blk_cell BK379.out 0).trans rfl; have hcz22_1 : w21.cell? ⟨gb379, 1, none⟩ = some (.int .i64 0) := (blk_cell BK379.out 1).trans rfl; have hcz22_2 : w21.cell? ⟨gb379, 2, none⟩ = some (.int .i64 0) := (blk_cell BK379.out 2).trans rfl; have hfz22_0 := blk_frozen BK379.out 0; have hfz22_1 := blk_frozen BK379.out 1; have hfz22_2 := blk_frozen BK379.out 2)); try go_wp2_with (first | ((with_reducible refine gate_dst (N := 7) rfl ?_); refine box_event ?hg (N := 7) ?hd (cs := #[.int .i64 0, .int .i64 0, .int .i64 0]) (t := 56) ?hr ?_; (case hd => rfl); (case hg => rfl); (case hr => first | (go_simp; done) | (go_simp; rfl)); intro gb379 hg w21 hbox hb; have n0_ := Aside0.mk (below_step (by repeat (first | (with_reducible first | exact HB.out | apply below_alloc | apply pw_below_drewN | apply below_drew1) | exact HB.out)) hb); have n1_ := Aside0.mk (hbox); have n2_ := Aside0.mk ((by rw [hg]; exact (below_size (by repeat (first | (with_reducible first | exact HB.out | apply below_alloc | apply pw_below_drewN | apply below_drew1) | exact HB.out))) : w.heap.size ≤ gb379)); have n3_ := Aside0.mk ((by rw [hg]; exact (below_size (by repeat (first | (with_reducible first | exact HB.out | apply below_alloc | apply pw_below_drewN | apply below_drew1) | exact HB.out))) : w.heap.size ≤ gb379)); clear HB; have HB := n0_; have BK379 := n1_; have GW379 := n2_; have GE379 := n3_; clear n0_ n1_ n2_ n3_; clear hb hbox hg; have hcz22_0 : w21.cell? ⟨gb379, 0, none⟩ = some (.int .i64 0) := (blk_cell BK379.out 0).trans rfl; have hcz22_1 : w21.cell? ⟨gb379, 1, none⟩ = some (.int .i64 0) := (blk_cell BK379.out 1).trans rfl; have hcz22_2 : w21.cell? ⟨gb379, 2, none⟩ = some (.int .i64 0) := (blk_cell BK379.out 2).trans rfl; have hfz22_0 := blk_frozen BK379.out 0; have hfz22_1 := blk_frozen BK379.out 1; have hfz22_2 := blk_frozen BK379.out 2)))
                        go_loopg [8] k3 (fun kq v8 w' => ∃ (x8_4 : Int), v8 = .int .i64 x8_4 ∧ Aside0 (impl_NonPreemptiveFeasible.l2 kq l0 x3_2 x8_4 l0 (l0.length : Int) x35_3 ((rd_T56 l0 x35_3).f0) ((rd_T56 l0 x35_3).f1) ((rd_T56 l0 x35_3).f2) = some r) ∧ Aside0 (kq ≤ k3) ∧ Aside0 (w'.heap[gb379]? = some (.cells #[.int .i64 ((rd_T56 l0 x35_3).f0), .int .i64 ((rd_T56 l0 x35_3).f1), .int .i64 ((rd_T56 l0 x35_3).f2)] 56 (0, 0))) ∧ Aside0 (Below w.heap.size w w'))
                        case atStart => exact ⟨(wrap64 (x3_2 + 1)), (by first | rfl | (simp; done) | (simp [*]; done)), H', ⟨Nat.le_refl _⟩, ⟨by (with_reducible repeat (first | refine blk_drewN ?_ _ | refine blk_drew ?_ | refine blk_alloc ?_ _)); refine blk_put (cs := #[.int .i64 ((rd_T56 l0 x35_3).f0), .int .i64 ((rd_T56 l0 x35_3).f1), .int .i64 0]) ?_ 2 _ rfl; (with_reducible repeat (first | refine blk_drewN ?_ _ | refine blk_drew ?_ | refine blk_alloc ?_ _)); refine blk_put (cs := #[.int .i64 ((rd_T56 l0 x35_3).f0), .int .i64 0, .int .i64 0]) ?_ 1 _ rfl; (with_reducible repeat (first | refine blk_drewN ?_ _ | refine blk_drew ?_ | refine blk_alloc ?_ _)); refine blk_put (cs := #[.int .i64 0, .int .i64 0, .int .i64 0]) ?_ 0 _ rfl; (with_reducible repeat (first | refine blk_drewN ?_ _ | refine blk_drew ?_ | refine blk_alloc ?_ _)); exact BK379.out⟩, ⟨by repeat (first | (with_reducible first | exact HB.out | apply below_alloc | apply pw_below_drewN | apply below_drew1 | refine below_set ?_ GE379.out) | exact HB.out)⟩⟩
                        case round =>
                          clear H'
                          try clear c1
                          try clear c2
                          try clear p2
                          try clear c3
                          try clear p3
                          try clear q3
                          try clear hx3
                          try clear c4
                          try clear p6
                          try clear c11
                          try clear c12
                          try clear c12b0
                          try clear c13
                          try clear c13b0
                          try clear c14
                          try clear c14b0
                          try clear c18
                          try clear c18b0
                          try clear c19
                          try clear c19b0
                          try clear c20
                          try clear c20b0
                          try clear hcz17_0
                          try clear hcz17_1
                          try clear hcz17_2
                          try clear hcz22_0
                          try clear hcz22_1
                          try clear hcz22_2
                          try clear hfz17_0
                          try clear hfz17_1
                          try clear hfz17_2
                          try clear hfz22_0
                          try clear hfz22_1
                          try clear hfz22_2
                          try clear hx376_0
                          try clear hx376_1
                          try clear hx376_2
                          try clear hx378_0
                          try clear hx378_1
                          try clear hx378_2
                          try clear p2
                          try clear p3
                          try clear p376
                          try clear p378
                          try clear p6
                          try clear q3
                          try clear q376
                          try clear q378
                          obtain ⟨x8_4, rfl, HA, HK4, BK379, HB⟩ := hrel
                          cases gk with
                          | zero => exact absurd HA.out (by simp [impl_NonPreemptiveFeasible.l2])
                          | succ k4 =>
                            have H := HA.out
                            clear HA
                            simp only [impl_NonPreemptiveFeasible.l2] at H
                            by_cases c23 : x8_4 < ((rd_T56 l0 x35_3).f2)
                            · rw [if_pos c23] at H
                              have c23b0 : decide (x8_4 < ((rd_T56 l0 x35_3).f2)) = true := decide_eq_true c23
                              clear c23
                              have H' := Aside0.mk H
                              clear H
                              have hcz24_0 : wr.cell? ⟨gb379, 0, none⟩ = some (.int .i64 ((rd_T56 l0 x35_3).f0)) := (blk_cell BK379.out 0).trans rfl
                              have hcz24_1 : wr.cell? ⟨gb379, 1, none⟩ = some (.int .i64 ((rd_T56 l0 x35_3).f1)) := (blk_cell BK379.out 1).trans rfl
                              have hcz24_2 : wr.cell? ⟨gb379, 2, none⟩ = some (.int .i64 ((rd_T56 l0 x35_3).f2)) := (blk_cell BK379.out 2).trans rfl
                              have hfz24_0 := blk_frozen BK379.out 0
                              have hfz24_1 := blk_frozen BK379.out 1
                              have hfz24_2 := blk_frozen BK379.out 2
                              go_wp2
                              repeat (go_quiet (fail); try go_wp2)
                              go_loopg [9, 51] k4 (fun kq v9 v51 w' => ∃ (x9_5 : Int) (x51_5 : Int), v9 = .int .i64 x9_5 ∧ v51 = .int .i64 x51_5 ∧ Aside0 (impl_NonPreemptiveFeasible.l3 kq l0 x3_2 x8_4 x9_5 l0 (l0.length : Int) x35_3 l0 (l0.length : Int) x51_5 ((rd_T56 l0 x35_3).f0) ((rd_T56 l0 x35_3).f1) ((rd_T56 l0 x35_3).f2) = some r) ∧ Aside0 (kq ≤ k4) ∧ Aside0 (w'.heap[gb379]? = some (.cells #[.int .i64 ((rd_T56 l0 x35_3).f0), .int .i64 ((rd_T56 l0 x35_3).f1), .int .i64 ((rd_T56 l0 x35_3).f2)] 56 (0, 0))) ∧ Aside0 (Below w.heap.size w w'))
                              case atStart => exact ⟨(((rd_T56 l0 x35_3).f0)), (0), (by first | rfl | (simp; done) | (simp [*]; done)), (by first | rfl | (simp; done) | (simp [*]; done)), H', ⟨Nat.le_refl _⟩, ⟨by (with_reducible repeat (first | refine blk_drewN ?_ _ | refine blk_drew ?_ | refine blk_alloc ?_ _)); exact BK379.out⟩, ⟨by repeat (first | (with_reducible first | exact HB.out | apply below_alloc | apply pw_below_drewN | apply below_drew1 | refine below_set ?_ GE379.out) | exact HB.out)⟩⟩
                              case round =>
                                clear H'
                                try clear c1
                                try clear c2
                                try clear p2
                                try clear c3
                                try clear p3
                                try clear q3
                                try clear hx3
                                try clear c4
                                try clear p6
                                try clear c11
                                try clear c12
                                try clear c12b0
                                try clear c13
                                try clear c13b0
                                try clear c14
                                try clear c14b0
                                try clear c18
                                try clear c18b0
                                try clear c19
                                try clear c19b0
                                try clear c20
                                try clear c20b0
                                try clear c23
                                try clear c23b0
                                try clear hcz17_0
                                try clear hcz17_1
                                try clear hcz17_2
                                try clear hcz22_0
                                try clear hcz22_1
                                try clear hcz22_2
                                try clear hcz24_0
                                try clear hcz24_1
                                try clear hcz24_2
                                try clear hfz17_0
                                try clear hfz17_1
                                try clear hfz17_2
                                try clear hfz22_0
                                try clear hfz22_1
                                try clear hfz22_2
                                try clear hfz24_0
                                try clear hfz24_1
                                try clear hfz24_2
                                try clear hx376_0
                                try clear hx376_1
                                try clear hx376_2
                                try clear hx378_0
                                try clear hx378_1
                                try clear hx378_2
                                try clear p2
                                try clear p3
                                try clear p376
                                try clear p378
                                try clear p6
                                try clear q3
                                try clear q376
                                try clear q378
                                obtain ⟨x9_5, x51_5, rfl, rfl, HA, HK5, BK379, HB⟩ := hrel
                                cases gk with
                                | zero => exact absurd HA.out (by simp [impl_NonPreemptiveFeasible.l3])
                                | succ k5 =>
                                  have H := HA.out
                                  clear HA
                                  simp only [impl_NonPreemptiveFeasible.l3] at H
                                  by_cases c25 : x51_5 < (l0.length : Int)
                                  · rw [if_pos c25] at H
                                    have c25b0 : decide (x51_5 < (l0.length : Int)) = true := decide_eq_true c25
                                    clear c25
                                    by_cases c26 : 0 ≤ x51_5
                                    · rw [if_pos c26] at H
                                      have c26b0 : decide (0 ≤ x51_5) = true := decide_eq_true c26
                                      clear c26
                                      by_cases c27 : x51_5 < (l0.length : Int)
                                      · rw [if_pos c27] at H
                                        have c27b0 : decide (x51_5 < (l0.length : Int)) = true := decide_eq_true c27
                                        clear c27
                                        by_cases c28 : ((rd_T56 l0 x51_5).f2) < ((rd_T56 l0 x35_3).f2)
                                        · rw [if_pos c28] at H
                                          have c28b0 : decide (((rd_T56 l0 x51_5).f2) < ((rd_T56 l0 x35_3).f2)) = true := decide_eq_true c28
                                          clear c28
                                          by_cases c29 : ((rd_T56 l0 x51_5).f2) = 0
                                          · rw [if_pos c29] at H
                                            exact absurd H (by simp)
                                          · rw [if_neg c29] at H
                                            have c29b0 : (((rd_T56 l0 x51_5).f2) == 0) = false := beq_eq_false_iff_ne.mpr c29
                                            have c29b1 : (((rd_T56 l0 x51_5).f2) != 0) = true := bne_iff_ne.mpr c29
                                            have H' := Aside0.mk H
                                            clear H
                                            have p380 : 0 ≤ (x51_5 : Int) := of_decide_eq_true (by first | (with_reducible assumption) | assumption)
                                            have q380 : x51_5 < (l0.length : Int) := of_decide_eq_true (by first | (with_reducible assumption) | assumption)
                                            obtain ⟨ad380, e380, hx380_0, hx380_1, hx380_2⟩ := at_T56 HR0.out x51_5 p380 q380
                                            obtain rfl : ad378 = ad380 := (by injection e380)
                                            replace hx380_0 := (HB.out.cell (World.block_lt_of_cell? w _ hx380_0)).trans hx380_0
                                            replace hx380_1 := (HB.out.cell (World.block_lt_of_cell? w _ hx380_1)).trans hx380_1
                                            replace hx380_2 := (HB.out.cell (World.block_lt_of_cell? w _ hx380_2)).trans hx380_2
                                            replace p380 := eq_true p380
                                            replace q380 := eq_true q380
                                            go_wp2_with (first | ((with_reducible refine gate_dst (N := 11) rfl ?_); refine box_event ?hg (N := 11) ?hd (cs := #[.int .i64 0, .int .i64 0, .int .i64 0]) (t := 56) ?hr ?_; (case hd => rfl); (case hg => rfl); (case hr => first | (go_simp; done) | (go_simp; rfl)); intro gb381 hg w30 hbox hb; have n0_ := Aside0.mk (blk_below (g := gb379) (o := .cells #[.int .i64 ((rd_T56 l0 x35_3).f0), .int .i64 ((rd_T56 l0 x35_3).f1), .int .i64 ((rd_T56 l0 x35_3).f2)] 56 (0, 0)) (by (with_reducible repeat (first | refine blk_drewN ?_ _ | refine blk_drew ?_ | refine blk_alloc ?_ _)); exact BK379.out) hb); have n1_ := Aside0.mk (below_step (by repeat (first | (with_reducible first | exact HB.out | apply below_alloc | apply pw_below_drewN | apply below_drew1 | refine below_set ?_ GE379.out) | exact HB.out)) hb); have n2_ := Aside0.mk (hbox); have n3_ := Aside0.mk ((by rw [hg]; exact (below_size (by repeat (first | (with_reducible first | exact HB.out | apply below_alloc | apply pw_below_drewN | apply below_drew1 | refine below_set ?_ GE379.out) | exact HB.out))) : w.heap.size ≤ gb381)); have n4_ := Aside0.mk ((by rw [hg]; exact (below_size (by repeat (first | (with_reducible first | exact HB.out | apply below_alloc | apply pw_below_drewN | apply below_drew1 | refine below_set ?_ GE379.out) | exact HB.out))) : w.heap.size ≤ gb381)); have n5_ := Aside0.mk ((by rw [hg]; exact Nat.ne_of_lt (blk_lt (g := gb379) (o := .cells #[.int .i64 ((rd_T56 l0 x35_3).f0), .int .i64 ((rd_T56 l0 x35_3).f1), .int .i64 ((rd_T56 l0 x35_3).f2)] 56 (0, 0)) (by (with_reducible repeat (first | refine blk_drewN ?_ _ | refine blk_drew ?_ | refine blk_alloc ?_ _)); exact BK379.out)) : gb379 ≠ gb381)); have n6_ := Aside0.mk ((by rw [hg]; exact Nat.ne_of_gt (blk_lt (g := gb379) (o := .cells #[.int .i64 ((rd_T56 l0 x35_3).f0), .int .i64 ((rd_T56 l0 x35_3).f1), .int .i64 ((rd_T56 l0 x35_3).f2)] 56 (0, 0)) (by (with_reducible repeat (first | refine blk_drewN ?_ _ | refine blk_drew ?_ | refine blk_alloc ?_ _)); exact BK379.out)) : gb381 ≠ gb379)); clear BK379; clear HB; have BK379 := n0_; have HB := n1_; have BK381 := n2_; have GW381 := n3_; have GE381 := n4_; have NB379_381 := n5_; have NB381_379 := n6_; clear n0_ n1_ n2_ n3_ n4_ n5_ n6_; clear hb hbox hg; have hnb31 := NB381_379.out; have hnc31 := NB379_381.out; have hcz32_0 : w30.cell? ⟨gb381, 0, none⟩ = some (.int .i64 0) := (blk_cell BK381.out 0).trans rfl; have hcz32_1 : w30.cell? ⟨gb381, 1, none⟩ = some (.int .i64 0) := (blk_cell BK381.out 1).trans rfl; have hcz32_2 : w30.cell? ⟨gb381, 2, none⟩ = some (.int .i64 0) := (blk_cell BK381.out 2).trans rfl; have hfz32_0 := blk_frozen BK381.out 0; have hfz32_1 := blk_frozen BK381.out 1; have hfz32_2 := blk_frozen BK381.out 2; have hcz33_0 : w30.cell? ⟨gb379, 0, none⟩ = some (.int .i64 ((rd_T56 l0 x35_3).f0)) := (blk_cell BK379.out 0).trans rfl; have hcz33_1 : w30.cell? ⟨gb379, 1, none⟩ = some (.int .i64 ((rd_T56 l0 x35_3).f1)) := (blk_cell BK379.out 1).trans rfl; have hcz33_2 : w30.cell? ⟨gb379, 2, none⟩ = some (.int .i64 ((rd_T56 l0 x35_3).f2)) := (blk_cell BK379.out 2).trans rfl; have hfz33_0 := blk_frozen BK379.out 0; have hfz33_1 := blk_frozen BK379.out 1; have hfz33_2 := blk_frozen BK379.out 2))
                                            repeat (go_quiet (first | ((with_reducible refine gate_dst (N := 11) rfl ?_); refine box_event ?hg (N := 11) ?hd (cs := #[.int .i64 0, .int .i64 0, .int .i64 0]) (t := 56) ?hr ?_; (case hd => rfl); (case hg => rfl); (case hr => first | (go_simp; done) | (go_simp; rfl)); intro gb381 hg w30 hbox hb; have n0_ := Aside0.mk (blk_below (g := gb379) (o := .cells #[.int .i64 ((rd_T56 l0 x35_3).f0), .int .i64 ((rd_T56 l0 x35_3).f1), .int .i64 ((rd_T56 l0 x35_3).f2)] 56 (0, 0)) (by (with_reducible repeat (first | refine blk_drewN ?_ _ | refine blk_drew ?_ | refine blk_alloc ?_ _)); exact BK379.out) hb); have n1_ := Aside0.mk (below_step (by repeat (first | (with_reducible first | exact HB.out | apply below_alloc | apply pw_below_drewN | apply below_drew1 | refine below_set ?_ GE379.out) | exact HB.out)) hb); have n2_ := Aside0.mk (hbox); have n3_ := Aside0.mk ((by rw [hg]; exact (below_size (by repeat (first | (with_reducible first | exact HB.out | apply below_alloc | apply pw_below_drewN | apply below_drew1 | refine below_set ?_ GE379.out) | exact HB.out))) : w.heap.size ≤ gb381)); have n4_ := Aside0.mk ((by rw [hg]; exact (below_size (by repeat (first | (with_reducible first | exact HB.out | apply below_alloc | apply pw_below_drewN | apply below_drew1 | refine below_set ?_ GE379.out) | exact HB.out))) : w.heap.size ≤ gb381)); have n5_ := Aside0.mk ((by rw [hg]; exact Nat.ne_of_lt (blk_lt (g := gb379) (o := .cells #[.int .i64 ((rd_T56 l0 x35_3).f0), .int .i64 ((rd_T56 l0 x35_3).f1), .int .i64 ((rd_T56 l0 x35_3).f2)] 56 (0, 0)) (by (with_reducible repeat (first | refine blk_drewN ?_ _ | refine blk_drew ?_ | refine blk_alloc ?_ _)); exact BK379.out)) : gb379 ≠ gb381)); have n6_ := Aside0.mk ((by rw [hg]; exact Nat.ne_of_gt (blk_lt (g := gb379) (o := .cells #[.int .i64 ((rd_T56 l0 x35_3).f0), .int .i64 ((rd_T56 l0 x35_3).f1), .int .i64 ((rd_T56 l0 x35_3).f2)] 56 (0, 0)) (by (with_reducible repeat (first | refine blk_drewN ?_ _ | refine blk_drew ?_ | refine blk_alloc ?_ _)); exact BK379.out)) : gb381 ≠ gb379)); clear BK379; clear HB; have BK379 := n0_; have HB := n1_; have BK381 := n2_; have GW381 := n3_; have GE381 := n4_; have NB379_381 := n5_; have NB381_379 := n6_; clear n0_ n1_ n2_ n3_ n4_ n5_ n6_; clear hb hbox hg; have hnb31 := NB381_379.out; have hnc31 := NB379_381.out; have hcz32_0 : w30.cell? ⟨gb381, 0, none⟩ = some (.int .i64 0) := (blk_cell BK381.out 0).trans rfl; have hcz32_1 : w30.cell? ⟨gb381, 1, none⟩ = some (.int .i64 0) := (blk_cell BK381.out 1).trans rfl; have hcz32_2 : w30.cell? ⟨gb381, 2, none⟩ = some (.int .i64 0) := (blk_cell BK381.out 2).trans rfl; have hfz32_0 := blk_frozen BK381.out 0; have hfz32_1 := blk_frozen BK381.out 1; have hfz32_2 := blk_frozen BK381.out 2; have hcz33_0 : w30.cell? ⟨gb379, 0, none⟩ = some (.int .i64 ((rd_T56 l0 x35_3).f0)) := (blk_cell BK379.out 0).trans rfl; have hcz33_1 : w30.cell? ⟨gb379, 1, none⟩ = some (.int .i64 ((rd_T56 l0 x35_3).f1)) := (blk_cell BK379.out 1).trans rfl; have hcz33_2 : w30.cell? ⟨gb379, 2, none⟩ = some (.int .i64 ((rd_T56 l0 x35_3).f2)) := (blk_cell BK379.out 2).trans rfl; have hfz33_0 := blk_frozen BK379.out 0; have hfz33_1 := blk_frozen BK379.out 1; have hfz33_2 := blk_frozen BK379.out 2)); try go_wp2_with (first | ((with_reducible refine gate_dst (N := 11) rfl ?_); refine box_event ?hg (N := 11) ?hd (cs := #[.int .i64 0, .int .i64 0, .int .i64 0]) (t := 56) ?hr ?_; (case hd => rfl); (case hg => rfl); (case hr => first | (go_simp; done) | (go_simp; rfl)); intro gb381 hg w30 hbox hb; have n0_ := Aside0.mk (blk_below (g := gb379) (o := .cells #[.int .i64 ((rd_T56 l0 x35_3).f0), .int .i64 ((rd_T56 l0 x35_3).f1), .int .i64 ((rd_T56 l0 x35_3).f2)] 56 (0, 0)) (by (with_reducible repeat (first | refine blk_drewN ?_ _ | refine blk_drew ?_ | refine blk_alloc ?_ _)); exact BK379.out) hb); have n1_ := Aside0.mk (below_step (by repeat (first | (with_reducible first | exact HB.out | apply below_alloc | apply pw_below_drewN | apply below_drew1 | refine below_set ?_ GE379.out) | exact HB.out)) hb); have n2_ := Aside0.mk (hbox); have n3_ := Aside0.mk ((by rw [hg]; exact (below_size (by repeat (first | (with_reducible first | exact HB.out | apply below_alloc | apply pw_below_drewN | apply below_drew1 | refine below_set ?_ GE379.out) | exact HB.out))) : w.heap.size ≤ gb381)); have n4_ := Aside0.mk ((by rw [hg]; exact (below_size (by repeat (first | (with_reducible first | exact HB.out | apply below_alloc | apply pw_below_drewN | apply below_drew1 | refine below_set ?_ GE379.out) | exact HB.out))) : w.heap.size ≤ gb381)); have n5_ := Aside0.mk ((by rw [hg]; exact Nat.ne_of_lt (blk_lt (g := gb379) (o := .cells #[.int .i64 ((rd_T56 l0 x35_3).f0), .int .i64 ((rd_T56 l0 x35_3).f1), .int .i64 ((rd_T56 l0 x35_3).f2)] 56 (0, 0)) (by (with_reducible repeat (first | refine blk_drewN ?_ _ | refine blk_drew ?_ | refine blk_alloc ?_ _)); exact BK379.out)) : gb379 ≠ gb381)); have n6_ := Aside0.mk ((by rw [hg]; exact Nat.ne_of_gt (blk_lt (g := gb379) (o := .cells #[.int .i64 ((rd_T56 l0 x35_3).f0), .int .i64 ((rd_T56 l0 x35_3).f1), .int .i64 ((rd_T56 l0 x35_3).f2)] 56 (0, 0)) (by (with_reducible repeat (first | refine blk_drewN ?_ _ | refine blk_drew ?_ | refine blk_alloc ?_ _)); exact BK379.out)) : gb381 ≠ gb379)); clear BK379; clear HB; have BK379 := n0_; have HB := n1_; have BK381 := n2_; have GW381 := n3_; have GE381 := n4_; have NB379_381 := n5_; have NB381_379 := n6_; clear n0_ n1_ n2_ n3_ n4_ n5_ n6_; clear hb hbox hg; have hnb31 := NB381_379.out; have hnc31 := NB379_381.out; have hcz32_0 : w30.cell? ⟨gb381, 0, none⟩ = some (.int .i64 0) := (blk_cell BK381.out 0).trans rfl; have hcz32_1 : w30.cell? ⟨gb381, 1, none⟩ = some (.int .i64 0) := (blk_cell BK381.out 1).trans rfl; have hcz32_2 : w30.cell? ⟨gb381, 2, none⟩ = some (.int .i64 0) := (blk_cell BK381.out 2).trans rfl; have hfz32_0 := blk_frozen BK381.out 0; have hfz32_1 := blk_frozen BK381.out 1; have hfz32_2 := blk_frozen BK381.out 2; have hcz33_0 : w30.cell? ⟨gb379, 0, none⟩ = some (.int .i64 ((rd_T56 l0 x35_3).f0)) := (blk_cell BK379.out 0).trans rfl; have hcz33_1 : w30.cell? ⟨gb379, 1, none⟩ = some (.int .i64 ((rd_T56 l0 x35_3).f1)) := (blk_cell BK379.out 1).trans rfl; have hcz33_2 : w30.cell? ⟨gb379, 2, none⟩ = some (.int .i64 ((rd_T56 l0 x35_3).f2)) := (blk_cell BK379.out 2).trans rfl; have hfz33_0 := blk_frozen BK379.out 0; have hfz33_1 := blk_frozen BK379.out 1; have hfz33_2 := blk_frozen BK379.out 2)))
                                            go_roundg k5
                                            case measure => have := HJ1.out; have := HK2.out; have := HK3.out; have := HK4.out; have := HK5.out; omega
                                            case rel => exact ⟨(wrap64 (x9_5 + (wrap64 ((wrap64 (Int.tdiv (wrap64 (x8_4 - 1)) ((rd_T56 l0 x51_5).f2))) * ((rd_T56 l0 x51_5).f0))))), (wrap64 (x51_5 + 1)), (by first | rfl | (simp; done) | (simp [*]; done)), (by first | rfl | (simp; done) | (simp [*]; done)), H', ⟨by have := HJ1.out; have := HK2.out; have := HK3.out; have := HK4.out; have := HK5.out; omega⟩, ⟨by (with_reducible repeat (first | refine blk_drewN ?_ _ | refine blk_drew ?_ | refine blk_alloc ?_ _)); refine blk_far ?_ NB379_381.out _; (with_reducible repeat (first | refine blk_drewN ?_ _ | refine blk_drew ?_ | refine blk_alloc ?_ _)); refine blk_far ?_ NB379_381.out _; (with_reducible repeat (first | refine blk_drewN ?_ _ | refine blk_drew ?_ | refine blk_alloc ?_ _)); refine blk_far ?_ NB379_381.out _; (with_reducible repeat (first | refine blk_drewN ?_ _ | refine blk_drew ?_ | refine blk_alloc ?_ _)); exact BK379.out⟩, ⟨by repeat (first | (with_reducible first | exact HB.out | apply below_alloc | apply pw_below_drewN | apply below_drew1 | refine below_set ?_ GE379.out | refine below_set ?_ GE381.out) | exact HB.out)⟩⟩
                                        · rw [if_neg c28] at H
                                          have c28b0 : decide (((rd_T56 l0 x51_5).f2) < ((rd_T56 l0 x35_3).f2)) = false := decide_eq_false c28
                                          clear c28
                                          have H' := Aside0.mk H
                                          clear H
                                          have p380 : 0 ≤ (x51_5 : Int) := of_decide_eq_true (by first | (with_reducible assumption) | assumption)
                                          have q380 : x51_5 < (l0.length : Int) := of_decide_eq_true (by first | (with_reducible assumption) | assumption)
                                          obtain ⟨ad380, e380, hx380_0, hx380_1, hx380_2⟩ := at_T56 HR0.out x51_5 p380 q380
                                          obtain rfl : ad378 = ad380 := (by injection e380)
                                          replace hx380_0 := (HB.out.cell (World.block_lt_of_cell? w _ hx380_0)).trans hx380_0
                                          replace hx380_1 := (HB.out.cell (World.block_lt_of_cell? w _ hx380_1)).trans hx380_1
                                          replace hx380_2 := (HB.out.cell (World.block_lt_of_cell? w _ hx380_2)).trans hx380_2
                                          replace p380 := eq_true p380
                                          replace q380 := eq_true q380
                                          go_wp2_with (first | ((with_reducible refine gate_dst (N := 11) rfl ?_); refine box_event ?hg (N := 11) ?hd (cs := #[.int .i64 0, .int .i64 0, .int .i64 0]) (t := 56) ?hr ?_; (case hd => rfl); (case hg => rfl); (case hr => first | (go_simp; done) | (go_simp; rfl)); intro gb381 hg w34 hbox hb; have n0_ := Aside0.mk (blk_below (g := gb379) (o := .cells #[.int .i64 ((rd_T56 l0 x35_3).f0), .int .i64 ((rd_T56 l0 x35_3).f1), .int .i64 ((rd_T56 l0 x35_3).f2)] 56 (0, 0)) (by (with_reducible repeat (first | refine blk_drewN ?_ _ | refine blk_drew ?_ | refine blk_alloc ?_ _)); exact BK379.out) hb); have n1_ := Aside0.mk (below_step (by repeat (first | (with_reducible first | exact HB.out | apply below_alloc | apply pw_below_drewN | apply below_drew1 | refine below_set ?_ GE379.out) | exact HB.out)) hb); have n2_ := Aside0.mk (hbox); have n3_ := Aside0.mk ((by rw [hg]; exact (below_size (by repeat (first | (with_reducible first | exact HB.out | apply below_alloc | apply pw_below_drewN | apply below_drew1 | refine below_set ?_ GE379.out) | exact HB.out))) : w.heap.size ≤ gb381)); have n4_ := Aside0.mk ((by rw [hg]; exact (below_size (by repeat (first | (with_reducible first | exact HB.out | apply below_alloc | apply pw_below_drewN | apply below_drew1 | refine below_set ?_ GE379.out) | exact HB.out))) : w.heap.size ≤ gb381)); have n5_ := Aside0.mk ((by rw [hg]; exact Nat.ne_of_lt (blk_lt (g := gb379) (o := .cells #[.int .i64 ((rd_T56 l0 x35_3).f0), .int .i64 ((rd_T56 l0 x35_3).f1), .int .i64 ((rd_T56 l0 x35_3).f2)] 56 (0, 0)) (by (with_reducible repeat (first | refine blk_drewN ?_ _ | refine blk_drew ?_ | refine blk_alloc ?_ _)); exact BK379.out)) : gb379 ≠ gb381)); have n6_ := Aside0.mk ((by rw [hg]; exact Nat.ne_of_gt (blk_lt (g := gb379) (o := .cells #[.int .i64 ((rd_T56 l0 x35_3).f0), .int .i64 ((rd_T56 l0 x35_3).f1), .int .i64 ((rd_T56 l0 x35_3).f2)] 56 (0, 0)) (by (with_reducible repeat (first | refine blk_drewN ?_ _ | refine blk_drew ?_ | refine blk_alloc ?_ _)); exact BK379.out)) : gb381 ≠ gb379)); clear BK379; clear HB; have BK379 := n0_; have HB := n1_; have BK381 := n2_; have GW381 := n3_; have GE381 := n4_; have NB379_381 := n5_; have NB381_379 := n6_; clear n0_ n1_ n2_ n3_ n4_ n5_ n6_; clear hb hbox hg; have hnb35 := NB381_379.out; have hnc35 := NB379_381.out; have hcz36_0 : w34.cell? ⟨gb381, 0, none⟩ = some (.int .i64 0) := (blk_cell BK381.out 0).trans rfl; have hcz36_1 : w34.cell? ⟨gb381, 1, none⟩ = some (.int .i64 0) := (blk_cell BK381.out 1).trans rfl; have hcz36_2 : w34.cell? ⟨gb381, 2, none⟩ = some (.int .i64 0) := (blk_cell BK381.out 2).trans rfl; have hfz36_0 := blk_frozen BK381.out 0; have hfz36_1 := blk_frozen BK381.out 1; have hfz36_2 := blk_frozen BK381.out 2; have hcz37_0 : w34.cell? ⟨gb379, 0, none⟩ = some (.int .i64 ((rd_T56 l0 x35_3).f0)) := (blk_cell BK379.out 0).trans rfl; have hcz37_1 : w34.cell? ⟨gb379, 1, none⟩ = some (.int .i64 ((rd_T56 l0 x35_3).f1)) := (blk_cell BK379.out 1).trans rfl; have hcz37_2 : w34.cell? ⟨gb379, 2, none⟩ = some (.int .i64 ((rd_T56 l0 x35_3).f2)) := (blk_cell BK379.out 2).trans rfl; have hfz37_0 := blk_frozen BK379.out 0; have hfz37_1 := blk_frozen BK379.out 1; have hfz37_2 := blk_frozen BK379.out 2))
                                          repeat (go_quiet (first | ((with_reducible refine gate_dst (N := 11) rfl ?_); refine box_event ?hg (N := 11) ?hd (cs := #[.int .i64 0, .int .i64 0, .int .i64 0]) (t := 56) ?hr ?_; (case hd => rfl); (case hg => rfl); (case hr => first | (go_simp; done) | (go_simp; rfl)); intro gb381 hg w34 hbox hb; have n0_ := Aside0.mk (blk_below (g := gb379) (o := .cells #[.int .i64 ((rd_T56 l0 x35_3).f0), .int .i64 ((rd_T56 l0 x35_3).f1), .int .i64 ((rd_T56 l0 x35_3).f2)] 56 (0, 0)) (by (with_reducible repeat (first | refine blk_drewN ?_ _ | refine blk_drew ?_ | refine blk_alloc ?_ _)); exact BK379.out) hb); have n1_ := Aside0.mk (below_step (by repeat (first | (with_reducible first | exact HB.out | apply below_alloc | apply pw_below_drewN | apply below_drew1 | refine below_set ?_ GE379.out) | exact HB.out)) hb); have n2_ := Aside0.mk (hbox); have n3_ := Aside0.mk ((by rw [hg]; exact (below_size (by repeat (first | (with_reducible first | exact HB.out | apply below_alloc | apply pw_below_drewN | apply below_drew1 | refine below_set ?_ GE379.out) | exact HB.out))) : w.heap.size ≤ gb381)); have n4_ := Aside0.mk ((by rw [hg]; exact (below_size (by repeat (first | (with_reducible first | exact HB.out | apply below_alloc | apply pw_below_drewN | apply below_drew1 | refine below_set ?_ GE379.out) | exact HB.out))) : w.heap.size ≤ gb381)); have n5_ := Aside0.mk ((by rw [hg]; exact Nat.ne_of_lt (blk_lt (g := gb379) (o := .cells #[.int .i64 ((rd_T56 l0 x35_3).f0), .int .i64 ((rd_T56 l0 x35_3).f1), .int .i64 ((rd_T56 l0 x35_3).f2)] 56 (0, 0)) (by (with_reducible repeat (first | refine blk_drewN ?_ _ | refine blk_drew ?_ | refine blk_alloc ?_ _)); exact BK379.out)) : gb379 ≠ gb381)); have n6_ := Aside0.mk ((by rw [hg]; exact Nat.ne_of_gt (blk_lt (g := gb379) (o := .cells #[.int .i64 ((rd_T56 l0 x35_3).f0), .int .i64 ((rd_T56 l0 x35_3).f1), .int .i64 ((rd_T56 l0 x35_3).f2)] 56 (0, 0)) (by (with_reducible repeat (first | refine blk_drewN ?_ _ | refine blk_drew ?_ | refine blk_alloc ?_ _)); exact BK379.out)) : gb381 ≠ gb379)); clear BK379; clear HB; have BK379 := n0_; have HB := n1_; have BK381 := n2_; have GW381 := n3_; have GE381 := n4_; have NB379_381 := n5_; have NB381_379 := n6_; clear n0_ n1_ n2_ n3_ n4_ n5_ n6_; clear hb hbox hg; have hnb35 := NB381_379.out; have hnc35 := NB379_381.out; have hcz36_0 : w34.cell? ⟨gb381, 0, none⟩ = some (.int .i64 0) := (blk_cell BK381.out 0).trans rfl; have hcz36_1 : w34.cell? ⟨gb381, 1, none⟩ = some (.int .i64 0) := (blk_cell BK381.out 1).trans rfl; have hcz36_2 : w34.cell? ⟨gb381, 2, none⟩ = some (.int .i64 0) := (blk_cell BK381.out 2).trans rfl; have hfz36_0 := blk_frozen BK381.out 0; have hfz36_1 := blk_frozen BK381.out 1; have hfz36_2 := blk_frozen BK381.out 2; have hcz37_0 : w34.cell? ⟨gb379, 0, none⟩ = some (.int .i64 ((rd_T56 l0 x35_3).f0)) := (blk_cell BK379.out 0).trans rfl; have hcz37_1 : w34.cell? ⟨gb379, 1, none⟩ = some (.int .i64 ((rd_T56 l0 x35_3).f1)) := (blk_cell BK379.out 1).trans rfl; have hcz37_2 : w34.cell? ⟨gb379, 2, none⟩ = some (.int .i64 ((rd_T56 l0 x35_3).f2)) := (blk_cell BK379.out 2).trans rfl; have hfz37_0 := blk_frozen BK379.out 0; have hfz37_1 := blk_frozen BK379.out 1; have hfz37_2 := blk_frozen BK379.out 2)); try go_wp2_with (first | ((with_reducible refine gate_dst (N := 11) rfl ?_); refine box_event ?hg (N := 11) ?hd (cs := #[.int .i64 0, .int .i64 0, .int .i64 0]) (t := 56) ?hr ?_; (case hd => rfl); (case hg => rfl); (case hr => first | (go_simp; done) | (go_simp; rfl)); intro gb381 hg w34 hbox hb; have n0_ := Aside0.mk (blk_below (g := gb379) (o := .cells #[.int .i64 ((rd_T56 l0 x35_3).f0), .int .i64 ((rd_T56 l0 x35_3).f1), .int .i64 ((rd_T56 l0 x35_3).f2)] 56 (0, 0)) (by (with_reducible repeat (first | refine blk_drewN ?_ _ | refine blk_drew ?_ | refine blk_alloc ?_ _)); exact BK379.out) hb); have n1_ := Aside0.mk (below_step (by repeat (first | (with_reducible first | exact HB.out | apply below_alloc | apply pw_below_drewN | apply below_drew1 | refine below_set ?_ GE379.out) | exact HB.out)) hb); have n2_ := Aside0.mk (hbox); have n3_ := Aside0.mk ((by rw [hg]; exact (below_size (by repeat (first | (with_reducible first | exact HB.out | apply below_alloc | apply pw_below_drewN | apply below_drew1 | refine below_set ?_ GE379.out) | exact HB.out))) : w.heap.size ≤ gb381)); have n4_ := Aside0.mk ((by rw [hg]; exact (below_size (by repeat (first | (with_reducible first | exact HB.out | apply below_alloc | apply pw_below_drewN | apply below_drew1 | refine below_set ?_ GE379.out) | exact HB.out))) : w.heap.size ≤ gb381)); have n5_ := Aside0.mk ((by rw [hg]; exact Nat.ne_of_lt (blk_lt (g := gb379) (o := .cells #[.int .i64 ((rd_T56 l0 x35_3).f0), .int .i64 ((rd_T56 l0 x35_3).f1), .int .i64 ((rd_T56 l0 x35_3).f2)] 56 (0, 0)) (by (with_reducible repeat (first | refine blk_drewN ?_ _ | refine blk_drew ?_ | refine blk_alloc ?_ _)); exact BK379.out)) : gb379 ≠ gb381)); have n6_ := Aside0.mk ((by rw [hg]; exact Nat.ne_of_gt (blk_lt (g := gb379) (o := .cells #[.int .i64 ((rd_T56 l0 x35_3).f0), .int .i64 ((rd_T56 l0 x35_3).f1), .int .i64 ((rd_T56 l0 x35_3).f2)] 56 (0, 0)) (by (with_reducible repeat (first | refine blk_drewN ?_ _ | refine blk_drew ?_ | refine blk_alloc ?_ _)); exact BK379.out)) : gb381 ≠ gb379)); clear BK379; clear HB; have BK379 := n0_; have HB := n1_; have BK381 := n2_; have GW381 := n3_; have GE381 := n4_; have NB379_381 := n5_; have NB381_379 := n6_; clear n0_ n1_ n2_ n3_ n4_ n5_ n6_; clear hb hbox hg; have hnb35 := NB381_379.out; have hnc35 := NB379_381.out; have hcz36_0 : w34.cell? ⟨gb381, 0, none⟩ = some (.int .i64 0) := (blk_cell BK381.out 0).trans rfl; have hcz36_1 : w34.cell? ⟨gb381, 1, none⟩ = some (.int .i64 0) := (blk_cell BK381.out 1).trans rfl; have hcz36_2 : w34.cell? ⟨gb381, 2, none⟩ = some (.int .i64 0) := (blk_cell BK381.out 2).trans rfl; have hfz36_0 := blk_frozen BK381.out 0; have hfz36_1 := blk_frozen BK381.out 1; have hfz36_2 := blk_frozen BK381.out 2; have hcz37_0 : w34.cell? ⟨gb379, 0, none⟩ = some (.int .i64 ((rd_T56 l0 x35_3).f0)) := (blk_cell BK379.out 0).trans rfl; have hcz37_1 : w34.cell? ⟨gb379, 1, none⟩ = some (.int .i64 ((rd_T56 l0 x35_3).f1)) := (blk_cell BK379.out 1).trans rfl; have hcz37_2 : w34.cell? ⟨gb379, 2, none⟩ = some (.int .i64 ((rd_T56 l0 x35_3).f2)) := (blk_cell BK379.out 2).trans rfl; have hfz37_0 := blk_frozen BK379.out 0; have hfz37_1 := blk_frozen BK379.out 1; have hfz37_2 := blk_frozen BK379.out 2)))
                                          go_roundg k5
                                          case measure => have := HJ1.out; have := HK2.out; have := HK3.out; have := HK4.out; have := HK5.out; omega
                                          case rel => exact ⟨(x9_5), (wrap64 (x51_5 + 1)), (by first | rfl | (simp; done) | (simp [*]; done)), (by first | rfl | (simp; done) | (simp [*]; done)), H', ⟨by have := HJ1.out; have := HK2.out; have := HK3.out; have := HK4.out; have := HK5.out; omega⟩, ⟨by (with_reducible repeat (first | refine blk_drewN ?_ _ | refine blk_drew ?_ | refine blk_alloc ?_ _)); refine blk_far ?_ NB379_381.out _; (with_reducible repeat (first | refine blk_drewN ?_ _ | refine blk_drew ?_ | refine blk_alloc ?_ _)); refine blk_far ?_ NB379_381.out _; (with_reducible repeat (first | refine blk_drewN ?_ _ | refine blk_drew ?_ | refine blk_alloc ?_ _)); refine blk_far ?_ NB379_381.out _; (with_reducible repeat (first | refine blk_drewN ?_ _ | refine blk_drew ?_ | refine blk_alloc ?_ _)); exact BK379.out⟩, ⟨by repeat (first | (with_reducible first | exact HB.out | apply below_alloc | apply pw_below_drewN | apply below_drew1 | refine below_set ?_ GE379.out | refine below_set ?_ GE381.out) | exact HB.out)⟩⟩
                                      · rw [if_neg c27] at H
                                        exact absurd H (by simp)
                                    · rw [if_neg c26] at H
                                      exact absurd H (by simp)
                                  · rw [if_neg c25] at H
                                    have c25b0 : decide (x51_5 < (l0.length : Int)) = false := decide_eq_false c25
                                    clear c25
                                    by_cases c38 : x9_5 > x8_4
                                    · rw [if_pos c38] at H
                                      have c38b0 : decide (x8_4 < x9_5) = true := decide_eq_true c38
                                      clear c38
                                      obtain rfl := Option.some.inj H
                                      go_wp2
                                      repeat (go_quiet (fail); try go_wp2)
                                      go_ret
                                      exact ⟨by first | rfl | (simp [errW_none, errW_some] <;> rfl) | (simp [*, errW_none, errW_some] <;> rfl), by repeat (first | (with_reducible first | exact HB.out | apply below_alloc | apply pw_below_drewN | apply below_drew1 | refine below_set ?_ GE379.out) | exact HB.out)⟩
                                    · rw [if_neg c38] at H
                                      have c38b0 : decide (x8_4 < x9_5) = false := decide_eq_false c38
                                      clear c38
                                      have H' := Aside0.mk H
                                      clear H
                                      go_wp2
                                      repeat (go_quiet (fail); try go_wp2)
                                      go_roundg k5
                                      case measure => have := HJ1.out; have := HK2.out; have := HK3.out; have := HK4.out; have := HK5.out; omega
                                      case rel => exact ⟨(wrap64 (x8_4 + 1)), (by first | rfl | (simp; done) | (simp [*]; done)), H', ⟨by have := HJ1.out; have := HK2.out; have := HK3.out; have := HK4.out; have := HK5.out; omega⟩, ⟨by (with_reducible repeat (first | refine blk_drewN ?_ _ | refine blk_drew ?_ | refine blk_alloc ?_ _)); exact BK379.out⟩, ⟨by repeat (first | (with_reducible first | exact HB.out | apply below_alloc | apply pw_below_drewN | apply below_drew1 | refine below_set ?_ GE379.out) | exact HB.out)⟩⟩
                            · rw [if_neg c23] at H
                              have c23b0 : decide (x8_4 < ((rd_T56 l0 x35_3).f2)) = false := decide_eq_false c23
                              clear c23
                              have H' := Aside0.mk H
                              clear H
                              have hcz39_0 : wr.cell? ⟨gb379, 0, none⟩ = some (.int .i64 ((rd_T56 l0 x35_3).f0)) := (blk_cell BK379.out 0).trans rfl
                              have hcz39_1 : wr.cell? ⟨gb379, 1, none⟩ = some (.int .i64 ((rd_T56 l0 x35_3).f1)) := (blk_cell BK379.out 1).trans rfl
                              have hcz39_2 : wr.cell? ⟨gb379, 2, none⟩ = some (.int .i64 ((rd_T56 l0 x35_3).f2)) := (blk_cell BK379.out 2).trans rfl
                              have hfz39_0 := blk_frozen BK379.out 0
                              have hfz39_1 := blk_frozen BK379.out 1
                              have hfz39_2 := blk_frozen BK379.out 2
                              go_wp2
                              repeat (go_quiet (fail); try go_wp2)
                              go_roundg k4
                              case measure => have := HJ1.out; have := HK2.out; have := HK3.out; have := HK4.out; omega
                              case rel => exact ⟨(wrap64 (x35_3 + 1)), (by first | rfl | (simp; done) | (simp [*]; done)), H', ⟨by have := HJ1.out; have := HK2.out; have := HK3.out; have := HK4.out; omega⟩, ⟨by repeat (first | (with_reducible first | exact HB.out | apply below_alloc | apply pw_below_drewN | apply below_drew1 | refine below_set ?_ GE379.out) | exact HB.out)⟩⟩
                      · rw [if_neg c20] at H
                        exact absurd H (by simp)
                    · rw [if_neg c19] at H
                      exact absurd H (by simp)
                  · rw [if_neg c18] at H
                    have c18b0 : decide (x35_3 < (l0.length : Int)) = false := decide_eq_false c18
                    clear c18
                    obtain rfl := Option.some.inj H
                    go_wp2
                    repeat (go_quiet (fail); try go_wp2)
                    go_ret
                    exact ⟨by first | rfl | (simp [errW_none, errW_some] <;> rfl) | (simp [*, errW_none, errW_some] <;> rfl), by repeat (first | (with_reducible first | exact HB.out | apply below_alloc | apply pw_below_drewN | apply below_drew1) | exact HB.out)⟩

end Go.Proofs.Ytgcjadhmkhpbnaa.P
-- Laid by a program of this work.
namespace Go.Proofs.Ytgcjadhmkhpbnaa.P
open Go.RowKit Go.Proofs.YtgcjadhmkhpbnaaW.PrintWords Go.Proofs.YtgcjadhmkhpbnaaW.PrintLast Go.Proofs.YtgcjadhmkhpbnaaW.PrintMore
attribute [local go_sem] max2_int min2_int max_two min_two max_three min_three max_four min_four   -- for this text's walks alone
set_option linter.unusedVariables false
set_option linter.unusedSimpArgs false

/-! ### laws_FnExactNonPreemptiveFeasible: function 7 -/
def laws_FnExactNonPreemptiveFeasible.f (k : Nat) (l0 : List (S65)) : Option (Bool) := (laws_szTaskS.f l0 1048576).bind fun t382 => (if t382 < 0 then (some true) else ((laws_toTaskS.f k l0).bind fun t383 => ((spec_NonPreemptiveFeasible.f k t383).bind fun t386 => ((laws_toTaskS.f k l0).bind fun t387 => ((impl_NonPreemptiveFeasible.f k t387).bind fun t390 => (if (t390 != t386) = true then (some false) else ((laws_toTaskS.f k l0).bind fun t391 => ((laws_eqTaskS.f k t387 t391).bind fun t394 => (if t394 = true then (some true) else (some false))))))))))
theorem laws_FnExactNonPreemptiveFeasible.mono : ∀ a0 k, LeO (laws_FnExactNonPreemptiveFeasible.f k a0) (laws_FnExactNonPreemptiveFeasible.f (k + 1) a0) := by
  intro a0 k
  unfold laws_FnExactNonPreemptiveFeasible.f
  repeat' first
      | (with_reducible exact impl_NonPreemptiveFeasible.mono _ _)
      | (with_reducible exact laws_eqTaskS.mono _ _ _)
      | (with_reducible exact laws_toTaskS.mono _ _)
      | (with_reducible exact spec_NonPreemptiveFeasible.mono _ _)
      | (with_reducible exact LeO.refl _)
      | (with_reducible exact LeO.none _)
      | (with_reducible refine LeO.ite ?_ ?_)
      | (with_reducible refine LeO.bind ?_ (fun _ => ?_))
      | exact impl_NonPreemptiveFeasible.mono _ _
      | exact laws_eqTaskS.mono _ _ _
      | exact laws_toTaskS.mono _ _
      | exact spec_NonPreemptiveFeasible.mono _ _
      | exact LeO.none _
      | refine LeO.ite ?_ ?_
      | refine LeO.bind ?_ (fun _ => ?_)
set_option maxHeartbeats 8000000 in
set_option maxRecDepth 100000 in
theorem laws_FnExactNonPreemptiveFeasible.calls (k : Nat) (A0 : Option Addr) (c0 : Nat) (l0 : List (S65)) (r : Bool) (w : World) (hr0 : Kd.C k65 w A0 l0.length l0) (hc0 : l0.length ≤ c0) (h : laws_FnExactNonPreemptiveFeasible.f k l0 = some r) :
    Calls Try.prog 7 #[.slice A0 l0.length c0] w fun e w' => e = .returned (.bool r) ∧ Below w.heap.size w w' := by
  have HR0 := Aside0.mk hr0
  have HC0 := Aside0.mk hc0
  clear hr0 hc0
  have HB := Aside0.mk (Below.refl w.heap.size w)
  have H : ((laws_szTaskS.f l0 1048576).bind fun t382 => (if t382 < 0 then (some true) else ((laws_toTaskS.f k l0).bind fun t383 => ((spec_NonPreemptiveFeasible.f k t383).bind fun t386 => ((laws_toTaskS.f k l0).bind fun t387 => ((impl_NonPreemptiveFeasible.f k t387).bind fun t390 => (if (t390 != t386) = true then (some false) else ((laws_toTaskS.f k l0).bind fun t391 => ((laws_eqTaskS.f k t387 t391).bind fun t394 => (if t394 = true then (some true) else (some false))))))))))) = some r := h
  clear h
  replace H := Option.bind_eq_some_iff.mp H
  obtain ⟨t382, A20, H⟩ := H
  replace H : (if t382 < 0 then (some true) else ((laws_toTaskS.f k l0).bind fun t383 => ((spec_NonPreemptiveFeasible.f k t383).bind fun t386 => ((laws_toTaskS.f k l0).bind fun t387 => ((impl_NonPreemptiveFeasible.f k t387).bind fun t390 => (if (t390 != t386) = true then (some false) else ((laws_toTaskS.f k l0).bind fun t391 => ((laws_eqTaskS.f k t387 t391).bind fun t394 => (if t394 = true then (some true) else (some false)))))))))) = some r := H
  have A2 := Aside0.mk A20
  clear A20
  by_cases c3 : t382 < 0
  · rw [if_pos c3] at H
    have c3b0 : decide (t382 < 0) = true := decide_eq_true c3
    clear c3
    obtain rfl := Option.some.inj H
    go_enter Try.func7, Try.ntmps7
    go_wp2_with (first | ((with_reducible refine gate_callee (f := 15) rfl ?_); refine goesL_ (some 9) rfl rfl Try.func15 (by kernel_rfl) rfl #[.slice A0 l0.length c0, .int .i64 1048576] rfl (by (try simp only [List.map_toArray, List.map_cons, List.map_nil]); first | done | rfl | (simp only [List.length_drop, List.length_take]; rfl)) ?_; (with_reducible refine (laws_szTaskS.calls _ _ l0 1048576 t382 _ ?side1 ?side2 A2.out).mono ?_); (case side1 => repeat (first | exact HR0.out | (with_reducible refine Kd.C_alloc ?_ _) | (with_reducible refine Kd.C_drewN ?_ _) | (with_reducible refine Kd.C_drew ?_))); (case side2 => exact HC0.out); rintro e w' ⟨rfl, ⟨nd, rfl⟩⟩; refine ⟨_, rfl, ?_⟩))
    go_ret
    exact ⟨by first | rfl | (simp [errW_none, errW_some] <;> rfl) | (simp [*, errW_none, errW_some] <;> rfl), by repeat (first | (with_reducible first | exact HB.out | apply below_alloc | apply pw_below_drewN | apply below_drew1) | exact HB.out)⟩
  · rw [if_neg c3] at H
    have c3b0 : decide (t382 < 0) = false := decide_eq_false c3
    clear c3
    replace H := Option.bind_eq_some_iff.mp H
    obtain ⟨t383, A40, H⟩ := H
    replace H : ((spec_NonPreemptiveFeasible.f k t383).bind fun t386 => ((laws_toTaskS.f k l0).bind fun t387 => ((impl_NonPreemptiveFeasible.f k t387).bind fun t390 => (if (t390 != t386) = true then (some false) else ((laws_toTaskS.f k l0).bind fun t391 => ((laws_eqTaskS.f k t387 t391).bind fun t394 => (if t394 = true then (some true) else (some false)))))))) = some r := H
    have A4 := Aside0.mk A40
    clear A40
    replace H := Option.bind_eq_some_iff.mp H
    obtain ⟨t386, A50, H⟩ := H
    replace H : ((laws_toTaskS.f k l0).bind fun t387 => ((impl_NonPreemptiveFeasible.f k t387).bind fun t390 => (if (t390 != t386) = true then (some false) else ((laws_toTaskS.f k l0).bind fun t391 => ((laws_eqTaskS.f k t387 t391).bind fun t394 => (if t394 = true then (some true) else (some false))))))) = some r := H
    have A5 := Aside0.mk A50
    clear A50
    replace H := Option.bind_eq_some_iff.mp H
    obtain ⟨t387, A60, H⟩ := H
    replace H : ((impl_NonPreemptiveFeasible.f k t387).bind fun t390 => (if (t390 != t386) = true then (some false) else ((laws_toTaskS.f k l0).bind fun t391 => ((laws_eqTaskS.f k t387 t391).bind fun t394 => (if t394 = true then (some true) else (some false)))))) = some r := H
    have A6 := Aside0.mk A60
    clear A60
    replace H := Option.bind_eq_some_iff.mp H
    obtain ⟨t390, A70, H⟩ := H
    replace H : (if (t390 != t386) = true then (some false) else ((laws_toTaskS.f k l0).bind fun t391 => ((laws_eqTaskS.f k t387 t391).bind fun t394 => (if t394 = true then (some true) else (some false))))) = some r := H
    have A7 := Aside0.mk A70
    clear A70
    by_cases c8 : (t390 != t386) = true
    · rw [if_pos c8] at H
      have c8b0 : (t390 != t386) = true := c8
      (try (have c8b1 : decide (t390 = t386) = false := by simpa using c8))
      (try (have c8b2 : (t390 == t386) = false := by simpa using c8))
      (try (have c8b3 : ¬ (t390 = t386) := by simpa using c8))
      clear c8
      obtain rfl := Option.some.inj H
      go_enter Try.func7, Try.ntmps7
      go_wp2_with (first | ((with_reducible refine gate_callee (f := 15) rfl ?_); refine goesL_ (some 9) rfl rfl Try.func15 (by kernel_rfl) rfl #[.slice A0 l0.length c0, .int .i64 1048576] rfl (by (try simp only [List.map_toArray, List.map_cons, List.map_nil]); first | done | rfl | (simp only [List.length_drop, List.length_take]; rfl)) ?_; (with_reducible refine (laws_szTaskS.calls _ _ l0 1048576 t382 _ ?side1 ?side2 A2.out).mono ?_); (case side1 => repeat (first | exact HR0.out | (with_reducible refine Kd.C_alloc ?_ _) | (with_reducible refine Kd.C_drewN ?_ _) | (with_reducible refine Kd.C_drew ?_))); (case side2 => exact HC0.out); rintro e w' ⟨rfl, ⟨nd, rfl⟩⟩; refine ⟨_, rfl, ?_⟩) | ((with_reducible refine gate_callee (f := 17) rfl ?_); refine goesL_ (some 13) rfl rfl Try.func17 (by kernel_rfl) rfl #[.slice A0 l0.length c0] rfl (by (try simp only [List.map_toArray, List.map_cons, List.map_nil]); first | done | rfl | (simp only [List.length_drop, List.length_take]; rfl)) ?_; (with_reducible refine (laws_toTaskS.calls k _ _ l0 t383 _ ?side1 ?side2 A4.out).mono ?_); (case side1 => repeat (first | exact HR0.out | (with_reducible refine Kd.C_alloc ?_ _) | (with_reducible refine Kd.C_drewN ?_ _) | (with_reducible refine Kd.C_drew ?_))); (case side2 => exact HC0.out); rintro e w9 ⟨v384, rfl, ho0, hb⟩; refine ⟨_, rfl, ?_⟩; have n0_ := Aside0.mk (Kd.R_lower ho0 (below_size (by repeat (first | (with_reducible first | exact HB.out | apply below_alloc | apply pw_below_drewN | apply below_drew1) | exact HB.out)))); have n1_ := Aside0.mk (below_step (by repeat (first | (with_reducible first | exact HB.out | apply below_alloc | apply pw_below_drewN | apply below_drew1) | exact HB.out)) hb); clear HB; have HO385 := n0_; have HB := n1_; clear n0_ n1_; (try clear hb); (try clear hb2); (try clear hk); (try clear hi); (try clear ho0); obtain ⟨Ao10, co10, eo10⟩ := Kd.R_slice HO385.out; subst eo10) | ((with_reducible refine gate_callee (f := 29) rfl ?_); refine goesL_ (some 14) rfl rfl Try.func29 (by kernel_rfl) rfl #[.slice Ao10 t383.length co10] rfl (by (try simp only [List.map_toArray, List.map_cons, List.map_nil]); first | done | rfl | (simp only [List.length_drop, List.length_take]; rfl)) ?_; (with_reducible refine (spec_NonPreemptiveFeasible.calls k _ _ t383 t386 _ ?side1 ?side2 A5.out).mono ?_); (case side1 => repeat (first | exact (Kd.R_reads' HO385.out).2.2 | (with_reducible refine Kd.C_alloc ?_ _) | (with_reducible refine Kd.C_drewN ?_ _) | (with_reducible refine Kd.C_drew ?_))); (case side2 => exact (Kd.R_reads' HO385.out).2.1); rintro e w11 ⟨rfl, hb⟩; refine ⟨_, rfl, ?_⟩; have n0_ := Aside0.mk (Kd.R_below (by (with_reducible repeat (first | apply Kd.R_alloc | apply Kd.R_drewN | apply Kd.R_drew)); exact HO385.out) hb); have n1_ := Aside0.mk (below_step (by repeat (first | (with_reducible first | exact HB.out | apply below_alloc | apply pw_below_drewN | apply below_drew1) | exact HB.out)) hb); clear HO385; clear HB; have HO385 := n0_; have HB := n1_; clear n0_ n1_; (try clear hb); (try clear hb2); (try clear hk); (try clear hi)) | ((with_reducible refine gate_callee (f := 17) rfl ?_); refine goesL_ (some 16) rfl rfl Try.func17 (by kernel_rfl) rfl #[.slice A0 l0.length c0] rfl (by (try simp only [List.map_toArray, List.map_cons, List.map_nil]); first | done | rfl | (simp only [List.length_drop, List.length_take]; rfl)) ?_; (with_reducible refine (laws_toTaskS.calls k _ _ l0 t387 _ ?side1 ?side2 A6.out).mono ?_); (case side1 => repeat (first | exact (Kd.C_below HR0.out HB.out) | (with_reducible refine Kd.C_alloc ?_ _) | (with_reducible refine Kd.C_drewN ?_ _) | (with_reducible refine Kd.C_drew ?_))); (case side2 => exact HC0.out); rintro e w12 ⟨v388, rfl, ho0, hb⟩; refine ⟨_, rfl, ?_⟩; have n0_ := Aside0.mk (Kd.R_elder' (by (with_reducible repeat (first | apply Kd.R_alloc | apply Kd.R_drewN | apply Kd.R_drew)); exact HO385.out) (Kd.R_base ho0) hb); have n1_ := Aside0.mk (Kd.R_lower (Kd.R_new' ho0 (Kd.R_lt (by (with_reducible repeat (first | apply Kd.R_alloc | apply Kd.R_drewN | apply Kd.R_drew)); exact HO385.out))) (below_size (by repeat (first | (with_reducible first | exact HB.out | apply below_alloc | apply pw_below_drewN | apply below_drew1) | exact HB.out)))); have n2_ := Aside0.mk (below_step (by repeat (first | (with_reducible first | exact HB.out | apply below_alloc | apply pw_below_drewN | apply below_drew1) | exact HB.out)) hb); clear HO385; clear HB; have HO385 := n0_; have HO389 := n1_; have HB := n2_; clear n0_ n1_ n2_; (try clear hb); (try clear hb2); (try clear hk); (try clear hi); (try clear ho0); obtain ⟨Ao13, co13, eo13⟩ := Kd.R_slice HO389.out; subst eo13) | ((with_reducible refine gate_callee (f := 30) rfl ?_); refine goesL_ (some 18) rfl rfl Try.func30 (by kernel_rfl) rfl #[.slice Ao13 t387.length co13] rfl (by (try simp only [List.map_toArray, List.map_cons, List.map_nil]); first | done | rfl | (simp only [List.length_drop, List.length_take]; rfl)) ?_; (with_reducible refine (impl_NonPreemptiveFeasible.calls k _ _ t387 t390 _ ?side1 ?side2 A7.out).mono ?_); (case side1 => repeat (first | exact (Kd.R_reads' HO389.out).2.2 | (with_reducible refine Kd.C_alloc ?_ _) | (with_reducible refine Kd.C_drewN ?_ _) | (with_reducible refine Kd.C_drew ?_))); (case side2 => exact (Kd.R_reads' HO389.out).2.1); rintro e w14 ⟨rfl, hb⟩; refine ⟨_, rfl, ?_⟩; have n0_ := Aside0.mk (Kd.R_below (by (with_reducible repeat (first | apply Kd.R_alloc | apply Kd.R_drewN | apply Kd.R_drew)); exact HO385.out) hb); have n1_ := Aside0.mk (Kd.R_below (by (with_reducible repeat (first | apply Kd.R_alloc | apply Kd.R_drewN | apply Kd.R_drew)); exact HO389.out) hb); have n2_ := Aside0.mk (below_step (by repeat (first | (with_reducible first | exact HB.out | apply below_alloc | apply pw_below_drewN | apply below_drew1) | exact HB.out)) hb); clear HO385; clear HO389; clear HB; have HO385 := n0_; have HO389 := n1_; have HB := n2_; clear n0_ n1_ n2_; (try clear hb); (try clear hb2); (try clear hk); (try clear hi)))
      go_ret
      exact ⟨by first | rfl | (simp [errW_none, errW_some] <;> rfl) | (simp [*, errW_none, errW_some] <;> rfl), by repeat (first | (with_reducible first | exact HB.out | apply below_alloc | apply pw_below_drewN | apply below_drew1) | exact HB.out)⟩
    · rw [if_neg c8] at H
      have c8b0 : (t390 != t386) = false := by simpa using c8
      (try (have c8b1 : decide (t390 = t386) = true := by simpa using c8))
      (try (have c8b2 : (t390 == t386) = true := by simpa using c8))
      clear c8
      replace H := Option.bind_eq_some_iff.mp H
      obtain ⟨t391, A150, H⟩ := H
      replace H : ((laws_eqTaskS.f k t387 t391).bind fun t394 => (if t394 = true then (some true) else (some false))) = some r := H
      have A15 := Aside0.mk A150
      clear A150
      replace H := Option.bind_eq_some_iff.mp H
      obtain ⟨t394, A160, H⟩ := H
      replace H : (if t394 = true then (some true) else (some false)) = some r := H
      have A16 := Aside0.mk A160
      clear A160
      by_cases c17 : t394 = true
      · subst c17
        have H1 : (some true) = some r := by rw [if_pos rfl] at H; exact H
        clear H
        have H := H1
        clear H1
        obtain rfl := Option.some.inj H
        go_enter Try.func7, Try.ntmps7
        go_wp2_with (first | ((with_reducible refine gate_callee (f := 15) rfl ?_); refine goesL_ (some 9) rfl rfl Try.func15 (by kernel_rfl) rfl #[.slice A0 l0.length c0, .int .i64 1048576] rfl (by (try simp only [List.map_toArray, List.map_cons, List.map_nil]); first | done | rfl | (simp only [List.length_drop, List.length_take]; rfl)) ?_; (with_reducible refine (laws_szTaskS.calls _ _ l0 1048576 t382 _ ?side1 ?side2 A2.out).mono ?_); (case side1 => repeat (first | exact HR0.out | (with_reducible refine Kd.C_alloc ?_ _) | (with_reducible refine Kd.C_drewN ?_ _) | (with_reducible refine Kd.C_drew ?_))); (case side2 => exact HC0.out); rintro e w' ⟨rfl, ⟨nd, rfl⟩⟩; refine ⟨_, rfl, ?_⟩) | ((with_reducible refine gate_callee (f := 17) rfl ?_); refine goesL_ (some 13) rfl rfl Try.func17 (by kernel_rfl) rfl #[.slice A0 l0.length c0] rfl (by (try simp only [List.map_toArray, List.map_cons, List.map_nil]); first | done | rfl | (simp only [List.length_drop, List.length_take]; rfl)) ?_; (with_reducible refine (laws_toTaskS.calls k _ _ l0 t383 _ ?side1 ?side2 A4.out).mono ?_); (case side1 => repeat (first | exact HR0.out | (with_reducible refine Kd.C_alloc ?_ _) | (with_reducible refine Kd.C_drewN ?_ _) | (with_reducible refine Kd.C_drew ?_))); (case side2 => exact HC0.out); rintro e w18 ⟨v384, rfl, ho0, hb⟩; refine ⟨_, rfl, ?_⟩; have n0_ := Aside0.mk (Kd.R_lower ho0 (below_size (by repeat (first | (with_reducible first | exact HB.out | apply below_alloc | apply pw_below_drewN | apply below_drew1) | exact HB.out)))); have n1_ := Aside0.mk (below_step (by repeat (first | (with_reducible first | exact HB.out | apply below_alloc | apply pw_below_drewN | apply below_drew1) | exact HB.out)) hb); clear HB; have HO385 := n0_; have HB := n1_; clear n0_ n1_; (try clear hb); (try clear hb2); (try clear hk); (try clear hi); (try clear ho0); obtain ⟨Ao19, co19, eo19⟩ := Kd.R_slice HO385.out; subst eo19) | ((with_reducible refine gate_callee (f := 29) rfl ?_); refine goesL_ (some 14) rfl rfl Try.func29 (by kernel_rfl) rfl #[.slice Ao19 t383.length co19] rfl (by (try simp only [List.map_toArray, List.map_cons, List.map_nil]); first | done | rfl | (simp only [List.length_drop, List.length_take]; rfl)) ?_; (with_reducible refine (spec_NonPreemptiveFeasible.calls k _ _ t383 t386 _ ?side1 ?side2 A5.out).mono ?_); (case side1 => repeat (first | exact (Kd.R_reads' HO385.out).2.2 | (with_reducible refine Kd.C_alloc ?_ _) | (with_reducible refine Kd.C_drewN ?_ _) | (with_reducible refine Kd.C_drew ?_))); (case side2 => exact (Kd.R_reads' HO385.out).2.1); rintro e w20 ⟨rfl, hb⟩; refine ⟨_, rfl, ?_⟩; have n0_ := Aside0.mk (Kd.R_below (by (with_reducible repeat (first | apply Kd.R_alloc | apply Kd.R_drewN | apply Kd.R_drew)); exact HO385.out) hb); have n1_ := Aside0.mk (below_step (by repeat (first | (with_reducible first | exact HB.out | apply below_alloc | apply pw_below_drewN | apply below_drew1) | exact HB.out)) hb); clear HO385; clear HB; have HO385 := n0_; have HB := n1_; clear n0_ n1_; (try clear hb); (try clear hb2); (try clear hk); (try clear hi)) | ((with_reducible refine gate_callee (f := 17) rfl ?_); refine goesL_ (some 16) rfl rfl Try.func17 (by kernel_rfl) rfl #[.slice A0 l0.length c0] rfl (by (try simp only [List.map_toArray, List.map_cons, List.map_nil]); first | done | rfl | (simp only [List.length_drop, List.length_take]; rfl)) ?_; (with_reducible refine (laws_toTaskS.calls k _ _ l0 t387 _ ?side1 ?side2 A6.out).mono ?_); (case side1 => repeat (first | exact (Kd.C_below HR0.out HB.out) | (with_reducible refine Kd.C_alloc ?_ _) | (with_reducible refine Kd.C_drewN ?_ _) | (with_reducible refine Kd.C_drew ?_))); (case side2 => exact HC0.out); rintro e w21 ⟨v388, rfl, ho0, hb⟩; refine ⟨_, rfl, ?_⟩; have n0_ := Aside0.mk (Kd.R_elder' (by (with_reducible repeat (first | apply Kd.R_alloc | apply Kd.R_drewN | apply Kd.R_drew)); exact HO385.out) (Kd.R_base ho0) hb); have n1_ := Aside0.mk (Kd.R_lower (Kd.R_new' ho0 (Kd.R_lt (by (with_reducible repeat (first | apply Kd.R_alloc | apply Kd.R_drewN | apply Kd.R_drew)); exact HO385.out))) (below_size (by repeat (first | (with_reducible first | exact HB.out | apply below_alloc | apply pw_below_drewN | apply below_drew1) | exact HB.out)))); have n2_ := Aside0.mk (below_step (by repeat (first | (with_reducible first | exact HB.out | apply below_alloc | apply pw_below_drewN | apply below_drew1) | exact HB.out)) hb); clear HO385; clear HB; have HO385 := n0_; have HO389 := n1_; have HB := n2_; clear n0_ n1_ n2_; (try clear hb); (try clear hb2); (try clear hk); (try clear hi); (try clear ho0); obtain ⟨Ao22, co22, eo22⟩ := Kd.R_slice HO389.out; subst eo22) | ((with_reducible refine gate_callee (f := 30) rfl ?_); refine goesL_ (some 18) rfl rfl Try.func30 (by kernel_rfl) rfl #[.slice Ao22 t387.length co22] rfl (by (try simp only [List.map_toArray, List.map_cons, List.map_nil]); first | done | rfl | (simp only [List.length_drop, List.length_take]; rfl)) ?_; (with_reducible refine (impl_NonPreemptiveFeasible.calls k _ _ t387 t390 _ ?side1 ?side2 A7.out).mono ?_); (case side1 => repeat (first | exact (Kd.R_reads' HO389.out).2.2 | (with_reducible refine Kd.C_alloc ?_ _) | (with_reducible refine Kd.C_drewN ?_ _) | (with_reducible refine Kd.C_drew ?_))); (case side2 => exact (Kd.R_reads' HO389.out).2.1); rintro e w23 ⟨rfl, hb⟩; refine ⟨_, rfl, ?_⟩; have n0_ := Aside0.mk (Kd.R_below (by (with_reducible repeat (first | apply Kd.R_alloc | apply Kd.R_drewN | apply Kd.R_drew)); exact HO385.out) hb); have n1_ := Aside0.mk (Kd.R_below (by (with_reducible repeat (first | apply Kd.R_alloc | apply Kd.R_drewN | apply Kd.R_drew)); exact HO389.out) hb); have n2_ := Aside0.mk (below_step (by repeat (first | (with_reducible first | exact HB.out | apply below_alloc | apply pw_below_drewN | apply below_drew1) | exact HB.out)) hb); clear HO385; clear HO389; clear HB; have HO385 := n0_; have HO389 := n1_; have HB := n2_; clear n0_ n1_ n2_; (try clear hb); (try clear hb2); (try clear hk); (try clear hi)) | ((with_reducible refine gate_callee (f := 17) rfl ?_); refine goesL_ (some 24) rfl rfl Try.func17 (by kernel_rfl) rfl #[.slice A0 l0.length c0] rfl (by (try simp only [List.map_toArray, List.map_cons, List.map_nil]); first | done | rfl | (simp only [List.length_drop, List.length_take]; rfl)) ?_; (with_reducible refine (laws_toTaskS.calls k _ _ l0 t391 _ ?side1 ?side2 A15.out).mono ?_); (case side1 => repeat (first | exact (Kd.C_below HR0.out HB.out) | (with_reducible refine Kd.C_alloc ?_ _) | (with_reducible refine Kd.C_drewN ?_ _) | (with_reducible refine Kd.C_drew ?_))); (case side2 => exact HC0.out); rintro e w24 ⟨v392, rfl, ho0, hb⟩; refine ⟨_, rfl, ?_⟩; have n0_ := Aside0.mk (Kd.R_elder' (by (with_reducible repeat (first | apply Kd.R_alloc | apply Kd.R_drewN | apply Kd.R_drew)); exact HO385.out) (Kd.R_base ho0) hb); have n1_ := Aside0.mk (Kd.R_elder' (by (with_reducible repeat (first | apply Kd.R_alloc | apply Kd.R_drewN | apply Kd.R_drew)); exact HO389.out) (Kd.R_base ho0) hb); have n2_ := Aside0.mk (Kd.R_lower (Kd.R_new' (Kd.R_new' ho0 (Kd.R_lt (by (with_reducible repeat (first | apply Kd.R_alloc | apply Kd.R_drewN | apply Kd.R_drew)); exact HO385.out))) (Kd.R_lt (by (with_reducible repeat (first | apply Kd.R_alloc | apply Kd.R_drewN | apply Kd.R_drew)); exact HO389.out))) (below_size (by repeat (first | (with_reducible first | exact HB.out | apply below_alloc | apply pw_below_drewN | apply below_drew1) | exact HB.out)))); have n3_ := Aside0.mk (below_step (by repeat (first | (with_reducible first | exact HB.out | apply below_alloc | apply pw_below_drewN | apply below_drew1) | exact HB.out)) hb); clear HO385; clear HO389; clear HB; have HO385 := n0_; have HO389 := n1_; have HO393 := n2_; have HB := n3_; clear n0_ n1_ n2_ n3_; (try clear hb); (try clear hb2); (try clear hk); (try clear hi); (try clear ho0); obtain ⟨Ao25, co25, eo25⟩ := Kd.R_slice HO393.out; subst eo25) | ((with_reducible refine gate_callee (f := 19) rfl ?_); refine goesL_ (some 25) rfl rfl Try.func19 (by kernel_rfl) rfl #[.slice Ao22 t387.length co22, .slice Ao25 t391.length co25] rfl (by (try simp only [List.map_toArray, List.map_cons, List.map_nil]); first | done | rfl | (simp only [List.length_drop, List.length_take]; rfl)) ?_; (with_reducible refine (laws_eqTaskS.calls k _ _ t387 _ _ t391 true _ ?side1 ?side2 ?side3 ?side4 A16.out).mono ?_); (case side1 => repeat (first | exact (Kd.R_reads' HO389.out).2.2 | (with_reducible refine Kd.C_alloc ?_ _) | (with_reducible refine Kd.C_drewN ?_ _) | (with_reducible refine Kd.C_drew ?_))); (case side2 => exact (Kd.R_reads' HO389.out).2.1); (case side3 => repeat (first | exact (Kd.R_reads' HO393.out).2.2 | (with_reducible refine Kd.C_alloc ?_ _) | (with_reducible refine Kd.C_drewN ?_ _) | (with_reducible refine Kd.C_drew ?_))); (case side4 => exact (Kd.R_reads' HO393.out).2.1); rintro e w26 ⟨rfl, hb⟩; refine ⟨_, rfl, ?_⟩; have n0_ := Aside0.mk (Kd.R_below (by (with_reducible repeat (first | apply Kd.R_alloc | apply Kd.R_drewN | apply Kd.R_drew)); exact HO385.out) hb); have n1_ := Aside0.mk (Kd.R_below (by (with_reducible repeat (first | apply Kd.R_alloc | apply Kd.R_drewN | apply Kd.R_drew)); exact HO389.out) hb); have n2_ := Aside0.mk (Kd.R_below (by (with_reducible repeat (first | apply Kd.R_alloc | apply Kd.R_drewN | apply Kd.R_drew)); exact HO393.out) hb); have n3_ := Aside0.mk (below_step (by repeat (first | (with_reducible first | exact HB.out | apply below_alloc | apply pw_below_drewN | apply below_drew1) | exact HB.out)) hb); clear HO385; clear HO389; clear HO393; clear HB; have HO385 := n0_; have HO389 := n1_; have HO393 := n2_; have HB := n3_; clear n0_ n1_ n2_ n3_; (try clear hb); (try clear hb2); (try clear hk); (try clear hi)))
        go_ret
        exact ⟨by first | rfl | (simp [errW_none, errW_some] <;> rfl) | (simp [*, errW_none, errW_some] <;> rfl), by repeat (first | (with_reducible first | exact HB.out | apply below_alloc | apply pw_below_drewN | apply below_drew1) | exact HB.out)⟩
      · replace c17 := Bool.eq_false_iff.mpr c17
        subst c17
        have H1 : (some false) = some r := by rw [if_neg (show ¬ (false = true) by decide)] at H; exact H
        clear H
        have H := H1
        clear H1
        obtain rfl := Option.some.inj H
        go_enter Try.func7, Try.ntmps7
        go_wp2_with (first | ((with_reducible refine gate_callee (f := 15) rfl ?_); refine goesL_ (some 9) rfl rfl Try.func15 (by kernel_rfl) rfl #[.slice A0 l0.length c0, .int .i64 1048576] rfl (by (try simp only [List.map_toArray, List.map_cons, List.map_nil]); first | done | rfl | (simp only [List.length_drop, List.length_take]; rfl)) ?_; (with_reducible refine (laws_szTaskS.calls _ _ l0 1048576 t382 _ ?side1 ?side2 A2.out).mono ?_); (case side1 => repeat (first | exact HR0.out | (with_reducible refine Kd.C_alloc ?_ _) | (with_reducible refine Kd.C_drewN ?_ _) | (with_reducible refine Kd.C_drew ?_))); (case side2 => exact HC0.out); rintro e w' ⟨rfl, ⟨nd, rfl⟩⟩; refine ⟨_, rfl, ?_⟩) | ((with_reducible refine gate_callee (f := 17) rfl ?_); refine goesL_ (some 13) rfl rfl Try.func17 (by kernel_rfl) rfl #[.slice A0 l0.length c0] rfl (by (try simp only [List.map_toArray, List.map_cons, List.map_nil]); first | done | rfl | (simp only [List.length_drop, List.length_take]; rfl)) ?_; (with_reducible refine (laws_toTaskS.calls k _ _ l0 t383 _ ?side1 ?side2 A4.out).mono ?_); (case side1 => repeat (first | exact HR0.out | (with_reducible refine Kd.C_alloc ?_ _) | (with_reducible refine Kd.C_drewN ?_ _) | (with_reducible refine Kd.C_drew ?_))); (case side2 => exact HC0.out); rintro e w27 ⟨v384, rfl, ho0, hb⟩; refine ⟨_, rfl, ?_⟩; have n0_ := Aside0.mk (Kd.R_lower ho0 (below_size (by repeat (first | (with_reducible first | exact HB.out | apply below_alloc | apply pw_below_drewN | apply below_drew1) | exact HB.out)))); have n1_ := Aside0.mk (below_step (by repeat (first | (with_reducible first | exact HB.out | apply below_alloc | apply pw_below_drewN | apply below_drew1) | exact HB.out)) hb); clear HB; have HO385 := n0_; have HB := n1_; clear n0_ n1_; (try clear hb); (try clear hb2); (try clear hk); (try clear hi); (try clear ho0); obtain ⟨Ao28, co28, eo28⟩ := Kd.R_slice HO385.out; subst eo28) | ((with_reducible refine gate_callee (f := 29) rfl ?_); refine goesL_ (some 14) rfl rfl Try.func29 (by kernel_rfl) rfl #[.slice Ao28 t383.length co28] rfl (by (try simp only [List.map_toArray, List.map_cons, List.map_nil]); first | done | rfl | (simp only [List.length_drop, List.length_take]; rfl)) ?_; (with_reducible refine (spec_NonPreemptiveFeasible.calls k _ _ t383 t386 _ ?side1 ?side2 A5.out).mono ?_); (case side1 => repeat (first | exact (Kd.R_reads' HO385.out).2.2 | (with_reducible refine Kd.C_alloc ?_ _) | (with_reducible refine Kd.C_drewN ?_ _) | (with_reducible refine Kd.C_drew ?_))); (case side2 => exact (Kd.R_reads' HO385.out).2.1); rintro e w29 ⟨rfl, hb⟩; refine ⟨_, rfl, ?_⟩; have n0_ := Aside0.mk (Kd.R_below (by (with_reducible repeat (first | apply Kd.R_alloc | apply Kd.R_drewN | apply Kd.R_drew)); exact HO385.out) hb); have n1_ := Aside0.mk (below_step (by repeat (first | (with_reducible first | exact HB.out | apply below_alloc | apply pw_below_drewN | apply below_drew1) | exact HB.out)) hb); clear HO385; clear HB; have HO385 := n0_; have HB := n1_; clear n0_ n1_; (try clear hb); (try clear hb2); (try clear hk); (try clear hi)) | ((with_reducible refine gate_callee (f := 17) rfl ?_); refine goesL_ (some 16) rfl rfl Try.func17 (by kernel_rfl) rfl #[.slice A0 l0.length c0] rfl (by (try simp only [List.map_toArray, List.map_cons, List.map_nil]); first | done | rfl | (simp only [List.length_drop, List.length_take]; rfl)) ?_; (with_reducible refine (laws_toTaskS.calls k _ _ l0 t387 _ ?side1 ?side2 A6.out).mono ?_); (case side1 => repeat (first | exact (Kd.C_below HR0.out HB.out) | (with_reducible refine Kd.C_alloc ?_ _) | (with_reducible refine Kd.C_drewN ?_ _) | (with_reducible refine Kd.C_drew ?_))); (case side2 => exact HC0.out); rintro e w30 ⟨v388, rfl, ho0, hb⟩; refine ⟨_, rfl, ?_⟩; have n0_ := Aside0.mk (Kd.R_elder' (by (with_reducible repeat (first | apply Kd.R_alloc | apply Kd.R_drewN | apply Kd.R_drew)); exact HO385.out) (Kd.R_base ho0) hb); have n1_ := Aside0.mk (Kd.R_lower (Kd.R_new' ho0 (Kd.R_lt (by (with_reducible repeat (first | apply Kd.R_alloc | apply Kd.R_drewN | apply Kd.R_drew)); exact HO385.out))) (below_size (by repeat (first | (with_reducible first | exact HB.out | apply below_alloc | apply pw_below_drewN | apply below_drew1) | exact HB.out)))); have n2_ := Aside0.mk (below_step (by repeat (first | (with_reducible first | exact HB.out | apply below_alloc | apply pw_below_drewN | apply below_drew1) | exact HB.out)) hb); clear HO385; clear HB; have HO385 := n0_; have HO389 := n1_; have HB := n2_; clear n0_ n1_ n2_; (try clear hb); (try clear hb2); (try clear hk); (try clear hi); (try clear ho0); obtain ⟨Ao31, co31, eo31⟩ := Kd.R_slice HO389.out; subst eo31) | ((with_reducible refine gate_callee (f := 30) rfl ?_); refine goesL_ (some 18) rfl rfl Try.func30 (by kernel_rfl) rfl #[.slice Ao31 t387.length co31] rfl (by (try simp only [List.map_toArray, List.map_cons, List.map_nil]); first | done | rfl | (simp only [List.length_drop, List.length_take]; rfl)) ?_; (with_reducible refine (impl_NonPreemptiveFeasible.calls k _ _ t387 t390 _ ?side1 ?side2 A7.out).mono ?_); (case side1 => repeat (first | exact (Kd.R_reads' HO389.out).2.2 | (with_reducible refine Kd.C_alloc ?_ _) | (with_reducible refine Kd.C_drewN ?_ _) | (with_reducible refine Kd.C_drew ?_))); (case side2 => exact (Kd.R_reads' HO389.out).2.1); rintro e w32 ⟨rfl, hb⟩; refine ⟨_, rfl, ?_⟩; have n0_ := Aside0.mk (Kd.R_below (by (with_reducible repeat (first | apply Kd.R_alloc | apply Kd.R_drewN | apply Kd.R_drew)); exact HO385.out) hb); have n1_ := Aside0.mk (Kd.R_below (by (with_reducible repeat (first | apply Kd.R_alloc | apply Kd.R_drewN | apply Kd.R_drew)); exact HO389.out) hb); have n2_ := Aside0.mk (below_step (by repeat (first | (with_reducible first | exact HB.out | apply below_alloc | apply pw_below_drewN | apply below_drew1) | exact HB.out)) hb); clear HO385; clear HO389; clear HB; have HO385 := n0_; have HO389 := n1_; have HB := n2_; clear n0_ n1_ n2_; (try clear hb); (try clear hb2); (try clear hk); (try clear hi)) | ((with_reducible refine gate_callee (f := 17) rfl ?_); refine goesL_ (some 24) rfl rfl Try.func17 (by kernel_rfl) rfl #[.slice A0 l0.length c0] rfl (by (try simp only [List.map_toArray, List.map_cons, List.map_nil]); first | done | rfl | (simp only [List.length_drop, List.length_take]; rfl)) ?_; (with_reducible refine (laws_toTaskS.calls k _ _ l0 t391 _ ?side1 ?side2 A15.out).mono ?_); (case side1 => repeat (first | exact (Kd.C_below HR0.out HB.out) | (with_reducible refine Kd.C_alloc ?_ _) | (with_reducible refine Kd.C_drewN ?_ _) | (with_reducible refine Kd.C_drew ?_))); (case side2 => exact HC0.out); rintro e w33 ⟨v392, rfl, ho0, hb⟩; refine ⟨_, rfl, ?_⟩; have n0_ := Aside0.mk (Kd.R_elder' (by (with_reducible repeat (first | apply Kd.R_alloc | apply Kd.R_drewN | apply Kd.R_drew)); exact HO385.out) (Kd.R_base ho0) hb); have n1_ := Aside0.mk (Kd.R_elder' (by (with_reducible repeat (first | apply Kd.R_alloc | apply Kd.R_drewN | apply Kd.R_drew)); exact HO389.out) (Kd.R_base ho0) hb); have n2_ := Aside0.mk (Kd.R_lower (Kd.R_new' (Kd.R_new' ho0 (Kd.R_lt (by (with_reducible repeat (first | apply Kd.R_alloc | apply Kd.R_drewN | apply Kd.R_drew)); exact HO385.out))) (Kd.R_lt (by (with_reducible repeat (first | apply Kd.R_alloc | apply Kd.R_drewN | apply Kd.R_drew)); exact HO389.out))) (below_size (by repeat (first | (with_reducible first | exact HB.out | apply below_alloc | apply pw_below_drewN | apply below_drew1) | exact HB.out)))); have n3_ := Aside0.mk (below_step (by repeat (first | (with_reducible first | exact HB.out | apply below_alloc | apply pw_below_drewN | apply below_drew1) | exact HB.out)) hb); clear HO385; clear HO389; clear HB; have HO385 := n0_; have HO389 := n1_; have HO393 := n2_; have HB := n3_; clear n0_ n1_ n2_ n3_; (try clear hb); (try clear hb2); (try clear hk); (try clear hi); (try clear ho0); obtain ⟨Ao34, co34, eo34⟩ := Kd.R_slice HO393.out; subst eo34) | ((with_reducible refine gate_callee (f := 19) rfl ?_); refine goesL_ (some 25) rfl rfl Try.func19 (by kernel_rfl) rfl #[.slice Ao31 t387.length co31, .slice Ao34 t391.length co34] rfl (by (try simp only [List.map_toArray, List.map_cons, List.map_nil]); first | done | rfl | (simp only [List.length_drop, List.length_take]; rfl)) ?_; (with_reducible refine (laws_eqTaskS.calls k _ _ t387 _ _ t391 false _ ?side1 ?side2 ?side3 ?side4 A16.out).mono ?_); (case side1 => repeat (first | exact (Kd.R_reads' HO389.out).2.2 | (with_reducible refine Kd.C_alloc ?_ _) | (with_reducible refine Kd.C_drewN ?_ _) | (with_reducible refine Kd.C_drew ?_))); (case side2 => exact (Kd.R_reads' HO389.out).2.1); (case side3 => repeat (first | exact (Kd.R_reads' HO393.out).2.2 | (with_reducible refine Kd.C_alloc ?_ _) | (with_reducible refine Kd.C_drewN ?_ _) | (with_reducible refine Kd.C_drew ?_))); (case side4 => exact (Kd.R_reads' HO393.out).2.1); rintro e w35 ⟨rfl, hb⟩; refine ⟨_, rfl, ?_⟩; have n0_ := Aside0.mk (Kd.R_below (by (with_reducible repeat (first | apply Kd.R_alloc | apply Kd.R_drewN | apply Kd.R_drew)); exact HO385.out) hb); have n1_ := Aside0.mk (Kd.R_below (by (with_reducible repeat (first | apply Kd.R_alloc | apply Kd.R_drewN | apply Kd.R_drew)); exact HO389.out) hb); have n2_ := Aside0.mk (Kd.R_below (by (with_reducible repeat (first | apply Kd.R_alloc | apply Kd.R_drewN | apply Kd.R_drew)); exact HO393.out) hb); have n3_ := Aside0.mk (below_step (by repeat (first | (with_reducible first | exact HB.out | apply below_alloc | apply pw_below_drewN | apply below_drew1) | exact HB.out)) hb); clear HO385; clear HO389; clear HO393; clear HB; have HO385 := n0_; have HO389 := n1_; have HO393 := n2_; have HB := n3_; clear n0_ n1_ n2_ n3_; (try clear hb); (try clear hb2); (try clear hk); (try clear hi)))
        go_ret
        exact ⟨by first | rfl | (simp [errW_none, errW_some] <;> rfl) | (simp [*, errW_none, errW_some] <;> rfl), by repeat (first | (with_reducible first | exact HB.out | apply below_alloc | apply pw_below_drewN | apply below_drew1) | exact HB.out)⟩

/-- The one pure statement of laws_FnExactNonPreemptiveFeasible. -/
def laws_FnExactNonPreemptiveFeasible.Pure : Prop := ∀ (l0 : List (S65)), l0.length * 24 ≤ 140737488351232 → (l0.length ≤ maxLen ∧ ∀ y0 ∈ l0, ((Lit.int .i64 y0.f0).wf = true) ∧ ((Lit.int .i64 y0.f1).wf = true) ∧ ((Lit.int .i64 y0.f2).wf = true)) → ∃ k, laws_FnExactNonPreemptiveFeasible.f k l0 = some true

end Go.Proofs.Ytgcjadhmkhpbnaa.P
/- Small laws that all proofs of this seat use. No condition. -/
namespace Go.Proofs.Ytgcjadhmkhpbnaa.Base
open Go.RowKit Go.Proofs.Ytgcjadhmkhpbnaa.P Go.Proofs.YtgcjadhmkhpbnaaW.PrintWords Go.Proofs.YtgcjadhmkhpbnaaW.PrintLast Go.Proofs.YtgcjadhmkhpbnaaW.PrintMore
theorem w64 {x : Int} (h0 : -9223372036854775808 ≤ x) (h1 : x < 9223372036854775808) : wrap64 x = x := by unfold wrap64; omega
theorem mul_bd {a b A B : Int} (ha : 0 ≤ a) (hA : a ≤ A) (hb : 0 ≤ b) (hB : b ≤ B) : 0 ≤ a * b ∧ a * b ≤ A * B :=
  ⟨Int.mul_nonneg ha hb, Int.mul_le_mul hA hB hb (by omega)⟩
theorem in_f (a b c : Int) : impl_in.f a b c = some (decide (b ≤ a ∧ a ≤ c)) := by
  unfold impl_in.f
  by_cases h : a ≥ b
  · rw [if_pos h]; simp [show b ≤ a from h]
  · rw [if_neg h]; simp [show ¬ b ≤ a from h]
theorem l1In_f (a b c : Int) : spec_l1In.f a b c = some (decide (b ≤ a ∧ a ≤ c)) := by
  unfold spec_l1In.f
  by_cases h : a ≥ b
  · rw [if_pos h]; simp [show b ≤ a from h]
  · rw [if_neg h]; simp [show ¬ b ≤ a from h]
theorem and_two (p q : Prop) [Decidable p] [Decidable q] : (if decide p = true then some (decide q) else some false) = some (decide (p ∧ q)) := by
  by_cases hp : p <;> by_cases hq : q <;> simp [hp, hq]
theorem and_bind {α : Type} (p : Prop) [Decidable p] (x y : Option α) : (some (decide p)).bind (fun t => if t = true then x else y) = if p then x else y := by
  by_cases hp : p <;> simp [hp]
theorem mn_min (a b : Int) : mn a b = min a b := by unfold mn; omega
theorem mx_max (a b : Int) : mx a b = max a b := by unfold mx; omega
theorem tdiv_pos {a b : Int} (h : 0 ≤ a) : Int.tdiv a b = a / b := Int.tdiv_eq_ediv_of_nonneg h
theorem tmod_pos {a b : Int} (h : 0 ≤ a) : Int.tmod a b = a % b := Int.tmod_eq_emod_of_nonneg h
theorem wf64 {x : Int} (h : (Lit.int .i64 x).wf = true) : -9223372036854775808 ≤ x ∧ x < 9223372036854775808 := by
  simp [Lit.wf, IntKind.min, IntKind.max, IntKind.bits, IntKind.signed] at h
  omega
end Go.Proofs.Ytgcjadhmkhpbnaa.Base
/- Runs that end, whatever the number of rounds from some number on; loops over a row. No condition. -/
namespace Go.Proofs.Ytgcjadhmkhpbnaa.Gen
open Go.RowKit Go.Proofs.YtgcjadhmkhpbnaaW.PrintWords Go.Proofs.YtgcjadhmkhpbnaaW.PrintLast

/-- From some number of rounds on the run ends in one answer, and the answer is good. -/
def Tot {α : Type} (g : Nat → Option α) (P : α → Prop) : Prop := ∃ r, Ev g r ∧ P r
theorem Tot.ret {α : Type} {P : α → Prop} (a : α) (h : P a) : Tot (fun _ => some a) P := ⟨a, Ev.now a, h⟩
theorem Tot.of_eq {α : Type} {P : α → Prop} {g : Nat → Option α} {a : α} (e : ∀ k, g k = some a) (h : P a) : Tot g P := ⟨a, ⟨0, fun k _ => e k⟩, h⟩
theorem Tot.mono {α : Type} {P Q : α → Prop} {g : Nat → Option α} (h : Tot g P) (hpq : ∀ a, P a → Q a) : Tot g Q := by
  obtain ⟨r, h1, h2⟩ := h
  exact ⟨r, h1, hpq r h2⟩
theorem Tot.congr {α : Type} {P : α → Prop} {g f : Nat → Option α} (e : ∀ k, g k = f k) (h : Tot f P) : Tot g P := by
  have : g = f := funext e
  rw [this]; exact h
theorem Tot.step {α : Type} {P : α → Prop} {g f : Nat → Option α} (e : ∀ k, g (k + 1) = f k) (h : Tot f P) : Tot g P := by
  obtain ⟨r, h1, h2⟩ := h
  exact ⟨r, Ev.step e h1, h2⟩
theorem Tot.bind {α β : Type} {P : α → Prop} {Q : β → Prop} {g : Nat → Option α} {f : Nat → α → Option β} (h : Tot g P) (hf : ∀ a, P a → Tot (fun k => f k a) Q) : Tot (fun k => (g k).bind (f k)) Q := by
  obtain ⟨r, h1, h2⟩ := h
  obtain ⟨q, h3, h4⟩ := hf r h2
  exact ⟨q, Ev.bind h1 h3, h4⟩
/-- A call without rounds. -/
theorem Tot.bind0 {α β : Type} {Q : β → Prop} {g : Option α} {f : Nat → α → Option β} {a : α} (h : g = some a) (hf : Tot (fun k => f k a) Q) : Tot (fun k => g.bind (f k)) Q := by
  subst h; exact hf
theorem Tot.yes {α : Type} {P : α → Prop} {c : Prop} [Decidable c] {g f : Nat → Option α} (hc : c) (h : Tot g P) : Tot (fun k => if c then g k else f k) P := by
  simp only [if_pos hc]; exact h
theorem Tot.no {α : Type} {P : α → Prop} {c : Prop} [Decidable c] {g f : Nat → Option α} (hc : ¬ c) (h : Tot f P) : Tot (fun k => if c then g k else f k) P := by
  simp only [if_neg hc]; exact h
theorem Tot.ite {α : Type} {P : α → Prop} {c : Prop} [Decidable c] {g f : Nat → Option α} (h1 : c → Tot g P) (h2 : ¬ c → Tot f P) : Tot (fun k => if c then g k else f k) P := by
  by_cases hc : c
  · exact Tot.yes hc (h1 hc)
  · exact Tot.no hc (h2 hc)
theorem Tot.rounds {g : Nat → Option Bool} (h : Tot g (fun r => r = true)) : ∃ k, g k = some true := by
  obtain ⟨r, h1, rfl⟩ := h
  exact h1.rounds
theorem Tot.rounds0 {g : Option Bool} (h : Tot (fun _ => g) (fun r => r = true)) : g = some true := by
  obtain ⟨k, hk⟩ := h.rounds
  exact hk
/-- What a run answers, and how it was found. -/
theorem Tot.val {α : Type} {g : Nat → Option α} {a : α} (h : Ev g a) : Tot g (fun r => r = a) := ⟨a, h, rfl⟩
theorem Tot.ev {α : Type} {g : Nat → Option α} {a : α} (h : Tot g (fun r => r = a)) : Ev g a := by
  obtain ⟨r, h1, rfl⟩ := h
  exact h1
/-- A loop with a counter: 'Inv i s' at the head of round i, n rounds. -/
theorem Tot.loop {σ ρ : Type} {P : ρ → Prop} (F : Nat → Nat → σ → Option ρ) (n : Nat) (Inv : Nat → σ → Prop)
    (hstep : ∀ i s, i < n → Inv i s → (∀ s', Inv (i + 1) s' → Tot (fun k => F k (i + 1) s') P) → Tot (fun k => F k i s) P)
    (hend : ∀ s, Inv n s → Tot (fun k => F k n s) P) : ∀ i s, i ≤ n → Inv i s → Tot (fun k => F k i s) P := by
  have key : ∀ d i s, i + d = n → Inv i s → Tot (fun k => F k i s) P := by
    intro d
    induction d with
    | zero => intro i s hi h; obtain rfl : i = n := by omega
              exact hend s h
    | succ d ih => intro i s hi h; exact hstep i s (by omega) h (fun s' hs' => ih (i + 1) s' (by omega) hs')
  intro i s hi h
  exact key (n - i) i s (by omega) h
/-- A loop with a measure. -/
theorem Tot.meas {σ ρ : Type} {P : ρ → Prop} (F : Nat → σ → Option ρ) (Inv : σ → Prop) (m : σ → Nat)
    (hstep : ∀ s, Inv s → (∀ s', Inv s' → m s' < m s → Tot (fun k => F k s') P) → Tot (fun k => F k s) P) : ∀ s, Inv s → Tot (fun k => F k s) P := by
  have key : ∀ d s, m s < d → Inv s → Tot (fun k => F k s) P := by
    intro d
    induction d with
    | zero => intro s hd; omega
    | succ d ih => intro s hd h; exact hstep s h (fun s' hs' hm => ih s' (by omega) hs')
  intro s h
  exact key (m s + 1) s (by omega) h
theorem rdOf_at {α : Type} (d : α) (xs : List α) (i : Nat) (h : i < xs.length) : rdOf d xs (i : Int) = xs[i] := by
  unfold rdOf
  rw [List.getD_eq_getElem?_getD, Int.toNat_natCast, List.getElem?_eq_getElem h]
  rfl
theorem rd_at (xs : List Int) (i : Nat) (h : i < xs.length) : rd xs (i : Int) = xs[i] := by
  unfold rd
  rw [List.getD_eq_getElem?_getD, Int.toNat_natCast, List.getElem?_eq_getElem h]
  rfl
/-- A row that is filled from the left, element by element. -/
theorem fill_step {β : Type} (acc tgt : List β) (i : Nat) (hl : acc.length = tgt.length) (h : acc.take i = tgt.take i) (hi : i < tgt.length) : (acc.set i tgt[i]).take (i + 1) = tgt.take (i + 1) := by
  rw [List.take_succ_eq_append_getElem (by simpa [hl] using hi), List.take_succ_eq_append_getElem hi]
  rw [List.take_set_of_le (Nat.le_refl i), h]
  simp
/-- A copy: 'out[i] = c(a[i])' from 0 on. -/
theorem Tot.copy {β : Type} (F : Nat → List β → Int → Option (List β)) (tgt : List β) (z : β)
    (hstep : ∀ k acc (i : Nat) (h : i < tgt.length), acc.length = tgt.length → F (k + 1) acc (i : Int) = F k (acc.set i tgt[i]) ((i : Int) + 1))
    (hend : ∀ k acc, acc.length = tgt.length → F (k + 1) acc (tgt.length : Int) = some acc) : Tot (fun k => F k (List.replicate tgt.length z) 0) (fun r => r = tgt) := by
  have key : ∀ d (i : Nat) acc, i + d = tgt.length → acc.length = tgt.length → acc.take i = tgt.take i → Tot (fun k => F k acc (i : Int)) (fun r => r = tgt) := by
    intro d
    induction d with
    | zero =>
      intro i acc hi hl ht
      obtain rfl : i = tgt.length := by omega
      refine Tot.step (f := fun _ => some acc) (fun k => hend k acc hl) (Tot.ret _ ?_)
      rw [List.take_length, ← hl, List.take_length] at ht
      exact ht
    | succ d ih =>
      intro i acc hi hl ht
      have hlt : i < tgt.length := by omega
      refine Tot.step (fun k => hstep k acc i hlt hl) ?_
      have := ih (i + 1) (acc.set i tgt[i]) (by omega) (by simpa using hl) (fill_step acc tgt i hl ht hlt)
      simpa using this
  simpa using key tgt.length 0 (List.replicate tgt.length z) (by omega) (by simp) (by simp)
/-- A walk that only looks. -/
theorem Tot.look {ρ : Type} {r : ρ} (F : Nat → Int → Option ρ) (n : Nat) (hstep : ∀ k (i : Nat), i < n → F (k + 1) (i : Int) = F k ((i : Int) + 1)) (hend : ∀ k, F (k + 1) (n : Int) = some r) : Tot (fun k => F k 0) (fun q => q = r) := by
  have key : ∀ d (i : Nat), i + d = n → Tot (fun k => F k (i : Int)) (fun q => q = r) := by
    intro d
    induction d with
    | zero => intro i hi; obtain rfl : i = n := by omega
              exact Tot.step (f := fun _ => some r) (fun k => hend k) (Tot.ret _ rfl)
    | succ d ih => intro i hi; exact Tot.step (fun k => hstep k i (by omega)) (by simpa using ih (i + 1) (by omega))
  simpa using key n 0 (by omega)
/-- 'append' in a loop, element by element. -/
theorem Tot.collect {β : Type} (F : Nat → List β → Int → Option (List β)) (tgt : List β)
    (hstep : ∀ k (i : Nat) (h : i < tgt.length), F (k + 1) (tgt.take i) (i : Int) = F k (tgt.take i ++ [tgt[i]]) ((i : Int) + 1))
    (hend : ∀ k, F (k + 1) tgt (tgt.length : Int) = some tgt) : Tot (fun k => F k [] 0) (fun r => r = tgt) := by
  have key : ∀ d (i : Nat), i + d = tgt.length → Tot (fun k => F k (tgt.take i) (i : Int)) (fun r => r = tgt) := by
    intro d
    induction d with
    | zero =>
      intro i hi
      obtain rfl : i = tgt.length := by omega
      rw [List.take_length]
      exact Tot.step (f := fun _ => some tgt) (fun k => hend k) (Tot.ret _ rfl)
    | succ d ih =>
      intro i hi
      have hlt : i < tgt.length := by omega
      refine Tot.step (fun k => hstep k i hlt) ?_
      rw [← List.take_succ_eq_append_getElem hlt]
      simpa using ih (i + 1) (by omega)
  simpa using key tgt.length 0 (by omega)
end Go.Proofs.Ytgcjadhmkhpbnaa.Gen
-- Laid by a program of this work.
namespace Go.Proofs.Ytgcjadhmkhpbnaa.P
open Go.RowKit Go.Proofs.YtgcjadhmkhpbnaaW.PrintWords Go.Proofs.YtgcjadhmkhpbnaaW.PrintLast Go.Proofs.YtgcjadhmkhpbnaaW.PrintMore
attribute [local go_sem] max2_int min2_int max_two min_two max_three min_three max_four min_four   -- for this text's walks alone
set_option linter.unusedVariables false
set_option linter.unusedSimpArgs false

/-! ### laws_alive: function 28 -/
def laws_alive.f  : Option (Bool) := (impl_TaskValid.f 1 1 1).bind fun t339 => (some t339)
set_option maxHeartbeats 8000000 in
set_option maxRecDepth 100000 in
theorem laws_alive.calls  (r : Bool) (w : World) (h : laws_alive.f  = some r) :
    Calls Try.prog 28 #[] w fun e w' => e = .returned (.bool r) ∧ Below w.heap.size w w' := by
  have hu56 := Try.underlying56
  have HB := Aside0.mk (Below.refl w.heap.size w)
  have H : ((impl_TaskValid.f 1 1 1).bind fun t339 => (some t339)) = some r := h
  clear h
  replace H := Option.bind_eq_some_iff.mp H
  obtain ⟨t339, A10, H⟩ := H
  replace H : (some t339) = some r := H
  have A1 := Aside0.mk A10
  clear A10
  obtain rfl := Option.some.inj H
  go_enter Try.func28, Try.ntmps28
  go_wp2_with (first | ((with_reducible refine gate_callee (f := 62) rfl ?_); refine goesL_ (some 2) rfl rfl Try.func62 (by kernel_rfl) rfl #[.agg #[.int .i64 1, .int .i64 1, .int .i64 1]] rfl (by (try simp only [List.map_toArray, List.map_cons, List.map_nil]); first | done | rfl | (simp only [List.length_drop, List.length_take]; rfl)) ?_; (with_reducible refine (impl_TaskValid.calls 1 1 1 t339 _ A1.out).mono ?_); rintro e w2 ⟨rfl, hb⟩; refine ⟨_, rfl, ?_⟩; have n0_ := Aside0.mk (below_step (by repeat (first | (with_reducible first | exact HB.out | apply below_alloc | apply pw_below_drewN | apply below_drew1) | exact HB.out)) hb); clear HB; have HB := n0_; clear n0_; (try clear hb); (try clear hb2); (try clear hk); (try clear hi)))
  go_ret
  exact ⟨by first | rfl | (simp [errW_none, errW_some] <;> rfl) | (simp [*, errW_none, errW_some] <;> rfl), by repeat (first | (with_reducible first | exact HB.out | apply below_alloc | apply pw_below_drewN | apply below_drew1) | exact HB.out)⟩

end Go.Proofs.Ytgcjadhmkhpbnaa.P
/- The library is alive. No condition. -/
namespace Go.Proofs.Ytgcjadhmkhpbnaa.Alive
open Go.RowKit Go.Proofs.Ytgcjadhmkhpbnaa.P Go.Proofs.Ytgcjadhmkhpbnaa.Base Go.Proofs.YtgcjadhmkhpbnaaW.PrintWords Go.Proofs.YtgcjadhmkhpbnaaW.PrintLast
def TV (c d p : Int) : Prop := 1 ≤ c ∧ c ≤ 8 ∧ c ≤ d ∧ d ≤ p ∧ p ≤ 12
instance (c d p : Int) : Decidable (TV c d p) := by unfold TV; infer_instance
theorem task_f (c d p : Int) : impl_TaskValid.f c d p = some (decide (TV c d p)) := by
  unfold impl_TaskValid.f
  rw [in_f, in_f, and_bind, and_bind]
  by_cases h1 : 1 ≤ c ∧ c ≤ 8
  · by_cases h2 : c ≤ d ∧ d ≤ p
    · rw [if_pos h1, if_pos h2]; congr 1; rw [decide_eq_decide]; unfold TV; omega
    · rw [if_pos h1, if_neg h2]; congr 1; symm; rw [decide_eq_false_iff_not]; unfold TV; omega
  · rw [if_neg h1]; congr 1; symm; rw [decide_eq_false_iff_not]; unfold TV; omega
theorem alive_f : laws_alive.f = some true := by
  unfold laws_alive.f
  rw [task_f]; rfl
end Go.Proofs.Ytgcjadhmkhpbnaa.Alive
/- A task set's validity, as one test. No condition. -/
namespace Go.Proofs.Ytgcjadhmkhpbnaa.Set
open Go.RowKit Go.Proofs.Ytgcjadhmkhpbnaa.P Go.Proofs.Ytgcjadhmkhpbnaa.Base Go.Proofs.Ytgcjadhmkhpbnaa.Alive Go.Proofs.YtgcjadhmkhpbnaaW.PrintWords Go.Proofs.YtgcjadhmkhpbnaaW.PrintLast
abbrev Task := S56
def TVt (t : Task) : Prop := TV t.f0 t.f1 t.f2
instance (t : Task) : Decidable (TVt t) := by unfold TVt; infer_instance
def SetOk (l : List Task) : Prop := l.length ≤ 5 ∧ ∀ t ∈ l, TVt t
instance (l : List Task) : Decidable (SetOk l) := by unfold SetOk; infer_instance
def Impl (l : List Task) : Prop := SetOk l ∧ ∀ t ∈ l, t.f1 = t.f2
instance (l : List Task) : Decidable (Impl l) := by unfold Impl; infer_instance
theorem taskOk_iff (t : Task) : taskOk t = decide (TVt t) := by
  unfold taskOk
  rw [decide_eq_decide]; unfold TVt TV; omega
theorem any_tasks_f (l : List Task) : any_tasks.f l = some (decide (¬ ∀ t ∈ l, TVt t)) := by
  unfold any_tasks.f
  congr 1
  rw [Bool.eq_iff_iff, List.any_eq_true]
  simp [any_tasks.bad, taskOk_iff]
theorem set_f (l : List Task) : impl_SetValid.f l = some (decide (SetOk l)) := by
  unfold impl_SetValid.f
  by_cases h : (l.length : Int) ≤ 5
  · rw [if_pos h, any_tasks_f]
    simp only [Option.bind_some]
    congr 1
    rw [Bool.eq_iff_iff]
    unfold SetOk
    have : l.length ≤ 5 := by omega
    simp [this]
  · rw [if_neg h]
    congr 1; symm; rw [decide_eq_false_iff_not]
    unfold SetOk; omega
theorem any_late_f (l : List Task) : any_late.f l = some (decide (¬ ∀ t ∈ l, t.f1 = t.f2)) := by
  unfold any_late.f
  congr 1
  rw [Bool.eq_iff_iff, List.any_eq_true]
  simp [any_late.bad]
theorem impl_f (l : List Task) : impl_implicit.f l = some (decide (Impl l)) := by
  unfold impl_implicit.f
  rw [set_f, and_bind, any_late_f]
  simp only [Option.bind_some]
  by_cases h : SetOk l
  · rw [if_pos h]
    congr 1
    rw [Bool.eq_iff_iff]
    unfold Impl
    simp [h]
  · rw [if_neg h]
    congr 1; symm; rw [decide_eq_false_iff_not]
    exact fun h' => h h'.1
end Go.Proofs.Ytgcjadhmkhpbnaa.Set
/- Copies of a row of tasks. Condition: the row is not too long. -/
namespace Go.Proofs.Ytgcjadhmkhpbnaa.CopyTask
open Go.RowKit Go.Proofs.Ytgcjadhmkhpbnaa.P Go.Proofs.Ytgcjadhmkhpbnaa.Base Go.Proofs.Ytgcjadhmkhpbnaa.Gen Go.Proofs.Ytgcjadhmkhpbnaa.Set Go.Proofs.YtgcjadhmkhpbnaaW.PrintWords Go.Proofs.YtgcjadhmkhpbnaaW.PrintLast
abbrev LTask := S65
def cv (x : LTask) : Task := ⟨x.f0, x.f1, x.f2⟩
theorem rdA_at (l : List Task) (i : Nat) (h : i < l.length) : rd_T56 l (i : Int) = l[i] := by
  unfold rd_T56
  rw [List.getD_eq_getElem?_getD, Int.toNat_natCast, List.getElem?_eq_getElem h]
  rfl
theorem rdB_at (l : List LTask) (i : Nat) (h : i < l.length) : rd_T65 l (i : Int) = l[i] := by
  unfold rd_T65
  rw [List.getD_eq_getElem?_getD, Int.toNat_natCast, List.getElem?_eq_getElem h]
  rfl
theorem toTaskS_tot (l : List LTask) (hl : l.length ≤ 1048576) : Tot (fun k => laws_toTaskS.f k l) (fun r => r = l.map cv) := by
  have h := Tot.copy (fun k acc i => laws_toTaskS.l0 k l acc i) (l.map cv) z56 (fun k acc i h ha => by
    have hi : i < l.length := by simpa using h
    have ha' : acc.length = l.length := by simpa using ha
    simp only [laws_toTaskS.l0, laws_toTask.f, Option.bind_some]
    rw [if_pos (by omega), if_pos (by omega), if_pos (by omega), rdB_at _ _ hi, w64 (by omega) (by omega), Int.toNat_natCast, List.getElem_map]
    rfl) (fun k acc ha => by
    simp only [laws_toTaskS.l0]
    rw [if_neg (by simp)])
  refine Tot.congr (fun k => ?_) h
  unfold laws_toTaskS.f
  rw [if_pos (by omega), if_pos (by omega), Int.toNat_natCast, List.length_map]
theorem eqTaskS_tot (l : List Task) (hl : l.length ≤ 1048576) : Tot (fun k => laws_eqTaskS.f k l l) (fun r => r = true) := by
  have h := Tot.look (r := true) (fun k i => laws_eqTaskS.l0 k l l i) l.length (fun k i h => by
    simp only [laws_eqTaskS.l0, laws_eqTask.f, if_true, Option.bind_some]
    rw [if_pos (by omega), if_pos (by omega), if_pos (by omega), w64 (by omega) (by omega)]) (fun k => by
    simp only [laws_eqTaskS.l0]
    rw [if_neg (by omega)])
  refine Tot.congr (fun k => ?_) h
  unfold laws_eqTaskS.f
  rw [if_pos rfl]
theorem szTaskS_f (l : List LTask) (hl : l.length ≤ maxLen) : ∃ r, laws_szTaskS.f l 1048576 = some r ∧ (r < 0 ∨ l.length ≤ 1048576) := by
  have hm : maxLen ≤ 9223372036854775807 := by decide
  unfold laws_szTaskS.f
  rw [w64 (by omega) (by omega)]
  by_cases h : (1048576 : Int) - (l.length : Int) < 0
  · rw [if_pos h]; exact ⟨_, rfl, Or.inl (by decide)⟩
  · rw [if_neg h]; exact ⟨_, rfl, Or.inr (by omega)⟩
end Go.Proofs.Ytgcjadhmkhpbnaa.CopyTask
-- Laid by a program of this work.
namespace Go.Proofs.Ytgcjadhmkhpbnaa.P
open Go.RowKit Go.Proofs.YtgcjadhmkhpbnaaW.PrintWords Go.Proofs.YtgcjadhmkhpbnaaW.PrintLast Go.Proofs.YtgcjadhmkhpbnaaW.PrintMore
attribute [local go_sem] max2_int min2_int max_two min_two max_three min_three max_four min_four   -- for this text's walks alone
set_option linter.unusedVariables false
set_option linter.unusedSimpArgs false

/-! ### spec_l2Demand: function 70 -/
def spec_l2Demand.l0 : Nat → List (S56) → Int → Int → Int → Option (Int)
  | 0, _, _, _, _ => none
  | k + 1, x0, x1, x5, x6 => if x6 < (x0.length : Int) then (if 0 ≤ x6 then (if x1 ≥ ((rd_T56 x0 x6).f1) then (if ((rd_T56 x0 x6).f2) = 0 then (none) else (spec_l2Demand.l0 k x0 x1 (wrap64 (x5 + (wrap64 ((wrap64 ((wrap64 (Int.tdiv (wrap64 (x1 - ((rd_T56 x0 x6).f1))) ((rd_T56 x0 x6).f2))) + 1)) * ((rd_T56 x0 x6).f0))))) (wrap64 (x6 + 1)))) else (spec_l2Demand.l0 k x0 x1 x5 (wrap64 (x6 + 1)))) else (none)) else (some x5)
def spec_l2Demand.f (k : Nat) (l0 : List (S56)) (a1 : Int) : Option (Int) := spec_l2Demand.l0 k l0 a1 0 0
theorem spec_l2Demand.mono_l : ∀ k, (∀ y0 y1 y2 y3, LeO (spec_l2Demand.l0 k y0 y1 y2 y3) (spec_l2Demand.l0 (k + 1) y0 y1 y2 y3))
  | 0 => fun _ _ _ _ r h => by simp [spec_l2Demand.l0] at h
  | k + 1 => by
    have ih0 := spec_l2Demand.mono_l k
    · intro y0 y1 y2 y3
      unfold spec_l2Demand.l0
      repeat' first
      | (with_reducible exact ih0 _ _ _ _)
      | (with_reducible exact LeO.refl _)
      | (with_reducible exact LeO.none _)
      | (with_reducible refine LeO.ite ?_ ?_)
      | (with_reducible refine LeO.bind ?_ (fun _ => ?_))
      | exact ih0 _ _ _ _
      | exact LeO.none _
      | refine LeO.ite ?_ ?_
      | refine LeO.bind ?_ (fun _ => ?_)
theorem spec_l2Demand.mono : ∀ a0 a1 k, LeO (spec_l2Demand.f k a0 a1) (spec_l2Demand.f (k + 1) a0 a1) := by
  intro a0 a1 k
  have ih0 := spec_l2Demand.mono_l k
  unfold spec_l2Demand.f
  repeat' first
      | (with_reducible exact ih0 _ _ _ _)
      | (with_reducible exact LeO.refl _)
      | (with_reducible exact LeO.none _)
      | (with_reducible refine LeO.ite ?_ ?_)
      | (with_reducible refine LeO.bind ?_ (fun _ => ?_))
      | exact ih0 _ _ _ _
      | exact LeO.none _
      | refine LeO.ite ?_ ?_
      | refine LeO.bind ?_ (fun _ => ?_)
set_option maxHeartbeats 8000000 in
set_option maxRecDepth 100000 in
theorem spec_l2Demand.calls (k : Nat) (A0 : Option Addr) (c0 : Nat) (l0 : List (S56)) (a1 : Int) (r : Int) (w : World) (hr0 : Kd.C k56 w A0 l0.length l0) (hc0 : l0.length ≤ c0) (h : spec_l2Demand.f k l0 a1 = some r) :
    Calls Try.prog 70 #[.slice A0 l0.length c0, .int .i64 a1] w fun e w' => e = .returned (.int .i64 r) ∧ Drawn0 w w' := by
  have HR0 := Aside0.mk hr0
  have HC0 := Aside0.mk hc0
  clear hr0 hc0
  have H : (spec_l2Demand.l0 k l0 a1 0 0) = some r := h
  clear h
  have H' := Aside0.mk H
  clear H
  go_enter Try.func70, Try.ntmps70
  go_wp2
  repeat (go_quiet (fail); try go_wp2)
  go_loopg [5, 6] k (fun kq v5 v6 w' => ∃ (x5_1 : Int) (x6_1 : Int), v5 = .int .i64 x5_1 ∧ v6 = .int .i64 x6_1 ∧ Aside0 (spec_l2Demand.l0 kq l0 a1 x5_1 x6_1 = some r) ∧ Aside0 (kq ≤ k) ∧ Drawn0 w w')
  case atStart => exact ⟨(0), (0), (by first | rfl | (simp; done) | (simp [*]; done)), (by first | rfl | (simp; done) | (simp [*]; done)), H', ⟨Nat.le_refl _⟩, by repeat (first | exact Drawn0.refl _ | apply Drawn0.step)⟩
  case round =>
    clear H'
    try clear p2
    obtain ⟨x5_1, x6_1, rfl, rfl, HA, HK1, ⟨m1, rfl⟩⟩ := hrel
    cases gk with
    | zero => exact absurd HA.out (by simp [spec_l2Demand.l0])
    | succ k1 =>
      have H := HA.out
      clear HA
      simp only [spec_l2Demand.l0] at H
      by_cases c3 : x6_1 < (l0.length : Int)
      · rw [if_pos c3] at H
        have c3b0 : decide (x6_1 < (l0.length : Int)) = true := decide_eq_true c3
        clear c3
        by_cases c4 : 0 ≤ x6_1
        · rw [if_pos c4] at H
          have c4b0 : decide (0 ≤ x6_1) = true := decide_eq_true c4
          clear c4
          by_cases c5 : a1 ≥ ((rd_T56 l0 x6_1).f1)
          · rw [if_pos c5] at H
            have c5b0 : decide (((rd_T56 l0 x6_1).f1) ≤ a1) = true := decide_eq_true c5
            clear c5
            by_cases c6 : ((rd_T56 l0 x6_1).f2) = 0
            · rw [if_pos c6] at H
              exact absurd H (by simp)
            · rw [if_neg c6] at H
              have c6b0 : (((rd_T56 l0 x6_1).f2) == 0) = false := beq_eq_false_iff_ne.mpr c6
              have c6b1 : (((rd_T56 l0 x6_1).f2) != 0) = true := bne_iff_ne.mpr c6
              have H' := Aside0.mk H
              clear H
              have p398 : 0 ≤ (x6_1 : Int) := of_decide_eq_true (by first | (with_reducible assumption) | assumption)
              have q398 : x6_1 < (l0.length : Int) := of_decide_eq_true (by first | (with_reducible assumption) | assumption)
              obtain ⟨ad398, e398, hx398_0, hx398_1, hx398_2⟩ := at_T56 HR0.out x6_1 p398 q398
              cases e398
              replace p398 := eq_true p398
              replace q398 := eq_true q398
              have p399 : 0 ≤ (x6_1 : Int) := of_decide_eq_true (by first | (with_reducible assumption) | assumption)
              have q399 : x6_1 < (l0.length : Int) := of_decide_eq_true (by first | (with_reducible assumption) | assumption)
              obtain ⟨ad399, e399, hx399_0, hx399_1, hx399_2⟩ := at_T56 HR0.out x6_1 p399 q399
              obtain rfl : ad398 = ad399 := (by injection e399)
              replace p399 := eq_true p399
              replace q399 := eq_true q399
              have p400 : 0 ≤ (x6_1 : Int) := of_decide_eq_true (by first | (with_reducible assumption) | assumption)
              have q400 : x6_1 < (l0.length : Int) := of_decide_eq_true (by first | (with_reducible assumption) | assumption)
              obtain ⟨ad400, e400, hx400_0, hx400_1, hx400_2⟩ := at_T56 HR0.out x6_1 p400 q400
              obtain rfl : ad398 = ad400 := (by injection e400)
              replace p400 := eq_true p400
              replace q400 := eq_true q400
              have p401 : 0 ≤ (x6_1 : Int) := of_decide_eq_true (by first | (with_reducible assumption) | assumption)
              have q401 : x6_1 < (l0.length : Int) := of_decide_eq_true (by first | (with_reducible assumption) | assumption)
              obtain ⟨ad401, e401, hx401_0, hx401_1, hx401_2⟩ := at_T56 HR0.out x6_1 p401 q401
              obtain rfl : ad398 = ad401 := (by injection e401)
              replace p401 := eq_true p401
              replace q401 := eq_true q401
              go_wp2
              repeat (go_quiet (fail); try go_wp2)
              go_roundg k1
              case measure => have := HK1.out; omega
              case rel => exact ⟨(wrap64 (x5_1 + (wrap64 ((wrap64 ((wrap64 (Int.tdiv (wrap64 (a1 - ((rd_T56 l0 x6_1).f1))) ((rd_T56 l0 x6_1).f2))) + 1)) * ((rd_T56 l0 x6_1).f0))))), (wrap64 (x6_1 + 1)), (by first | rfl | (simp; done) | (simp [*]; done)), (by first | rfl | (simp; done) | (simp [*]; done)), H', ⟨by have := HK1.out; omega⟩, by repeat (first | exact Drawn0.refl _ | apply Drawn0.step)⟩
          · rw [if_neg c5] at H
            have c5b0 : decide (((rd_T56 l0 x6_1).f1) ≤ a1) = false := decide_eq_false c5
            clear c5
            have H' := Aside0.mk H
            clear H
            have p398 : 0 ≤ (x6_1 : Int) := of_decide_eq_true (by first | (with_reducible assumption) | assumption)
            have q398 : x6_1 < (l0.length : Int) := of_decide_eq_true (by first | (with_reducible assumption) | assumption)
            obtain ⟨ad398, e398, hx398_0, hx398_1, hx398_2⟩ := at_T56 HR0.out x6_1 p398 q398
            cases e398
            replace p398 := eq_true p398
            replace q398 := eq_true q398
            go_wp2
            repeat (go_quiet (fail); try go_wp2)
            go_roundg k1
            case measure => have := HK1.out; omega
            case rel => exact ⟨(x5_1), (wrap64 (x6_1 + 1)), (by first | rfl | (simp; done) | (simp [*]; done)), (by first | rfl | (simp; done) | (simp [*]; done)), H', ⟨by have := HK1.out; omega⟩, by repeat (first | exact Drawn0.refl _ | apply Drawn0.step)⟩
        · rw [if_neg c4] at H
          exact absurd H (by simp)
      · rw [if_neg c3] at H
        have c3b0 : decide (x6_1 < (l0.length : Int)) = false := decide_eq_false c3
        clear c3
        obtain rfl := Option.some.inj H
        go_wp2
        repeat (go_quiet (fail); try go_wp2)
        go_ret
        exact ⟨by first | rfl | (simp; done) | (simp [*]; done), by repeat (first | exact Drawn0.refl _ | apply Drawn0.step)⟩

end Go.Proofs.Ytgcjadhmkhpbnaa.P
-- Laid by a program of this work.
namespace Go.Proofs.Ytgcjadhmkhpbnaa.P
open Go.RowKit Go.Proofs.YtgcjadhmkhpbnaaW.PrintWords Go.Proofs.YtgcjadhmkhpbnaaW.PrintLast Go.Proofs.YtgcjadhmkhpbnaaW.PrintMore
attribute [local go_sem] max2_int min2_int max_two min_two max_three min_three max_four min_four   -- for this text's walks alone
set_option linter.unusedVariables false
set_option linter.unusedSimpArgs false

/-! ### impl_demand: function 74 -/
def impl_demand.l0 : Nat → Int → Int → List (S56) → Int → Int → Option (Int)
  | 0, _, _, _, _, _ => none
  | k + 1, x1, x5, x8, x9, x10 => if x10 < x9 then (if 0 ≤ x10 then (if x10 < (x8.length : Int) then (if x1 ≥ ((rd_T56 x8 x10).f1) then (if ((rd_T56 x8 x10).f2) = 0 then (none) else (impl_demand.l0 k x1 (wrap64 (x5 + (wrap64 ((wrap64 ((wrap64 (Int.tdiv (wrap64 (x1 - ((rd_T56 x8 x10).f1))) ((rd_T56 x8 x10).f2))) + 1)) * ((rd_T56 x8 x10).f0))))) x8 x9 (wrap64 (x10 + 1)))) else (impl_demand.l0 k x1 x5 x8 x9 (wrap64 (x10 + 1)))) else (none)) else (none)) else (some x5)
def impl_demand.f (k : Nat) (l0 : List (S56)) (a1 : Int) : Option (Int) := impl_demand.l0 k a1 0 l0 (l0.length : Int) 0
theorem impl_demand.mono_l : ∀ k, (∀ y0 y1 y2 y3 y4, LeO (impl_demand.l0 k y0 y1 y2 y3 y4) (impl_demand.l0 (k + 1) y0 y1 y2 y3 y4))
  | 0 => fun _ _ _ _ _ r h => by simp [impl_demand.l0] at h
  | k + 1 => by
    have ih0 := impl_demand.mono_l k
    · intro y0 y1 y2 y3 y4
      unfold impl_demand.l0
      repeat' first
      | (with_reducible exact ih0 _ _ _ _ _)
      | (with_reducible exact LeO.refl _)
      | (with_reducible exact LeO.none _)
      | (with_reducible refine LeO.ite ?_ ?_)
      | (with_reducible refine LeO.bind ?_ (fun _ => ?_))
      | exact ih0 _ _ _ _ _
      | exact LeO.none _
      | refine LeO.ite ?_ ?_
      | refine LeO.bind ?_ (fun _ => ?_)
theorem impl_demand.mono : ∀ a0 a1 k, LeO (impl_demand.f k a0 a1) (impl_demand.f (k + 1) a0 a1) := by
  intro a0 a1 k
  have ih0 := impl_demand.mono_l k
  unfold impl_demand.f
  repeat' first
      | (with_reducible exact ih0 _ _ _ _ _)
      | (with_reducible exact LeO.refl _)
      | (with_reducible exact LeO.none _)
      | (with_reducible refine LeO.ite ?_ ?_)
      | (with_reducible refine LeO.bind ?_ (fun _ => ?_))
      | exact ih0 _ _ _ _ _
      | exact LeO.none _
      | refine LeO.ite ?_ ?_
      | refine LeO.bind ?_ (fun _ => ?_)
set_option maxHeartbeats 8000000 in
set_option maxRecDepth 100000 in
theorem impl_demand.calls (k : Nat) (A0 : Option Addr) (c0 : Nat) (l0 : List (S56)) (a1 : Int) (r : Int) (w : World) (hr0 : Kd.C k56 w A0 l0.length l0) (hc0 : l0.length ≤ c0) (h : impl_demand.f k l0 a1 = some r) :
    Calls Try.prog 74 #[.slice A0 l0.length c0, .int .i64 a1] w fun e w' => e = .returned (.int .i64 r) ∧ Below w.heap.size w w' := by
  have hu56 := Try.underlying56
  have HR0 := Aside0.mk hr0
  have HC0 := Aside0.mk hc0
  clear hr0 hc0
  have HB := Aside0.mk (Below.refl w.heap.size w)
  have H : (impl_demand.l0 k a1 0 l0 (l0.length : Int) 0) = some r := h
  clear h
  have H' := Aside0.mk H
  clear H
  go_enter Try.func74, Try.ntmps74
  go_wp2
  repeat (go_quiet (fail); try go_wp2)
  go_loopg [5, 10] k (fun kq v5 v10 w' => ∃ (x5_1 : Int) (x10_1 : Int), v5 = .int .i64 x5_1 ∧ v10 = .int .i64 x10_1 ∧ Aside0 (impl_demand.l0 kq a1 x5_1 l0 (l0.length : Int) x10_1 = some r) ∧ Aside0 (kq ≤ k) ∧ Aside0 (Below w.heap.size w w'))
  case atStart => exact ⟨(0), (0), (by first | rfl | (simp; done) | (simp [*]; done)), (by first | rfl | (simp; done) | (simp [*]; done)), H', ⟨Nat.le_refl _⟩, ⟨by repeat (first | (with_reducible first | exact HB.out | apply below_alloc | apply pw_below_drewN | apply below_drew1) | exact HB.out)⟩⟩
  case round =>
    clear H'
    try clear p2
    obtain ⟨x5_1, x10_1, rfl, rfl, HA, HK1, HB⟩ := hrel
    cases gk with
    | zero => exact absurd HA.out (by simp [impl_demand.l0])
    | succ k1 =>
      have H := HA.out
      clear HA
      simp only [impl_demand.l0] at H
      by_cases c3 : x10_1 < (l0.length : Int)
      · rw [if_pos c3] at H
        have c3b0 : decide (x10_1 < (l0.length : Int)) = true := decide_eq_true c3
        clear c3
        by_cases c4 : 0 ≤ x10_1
        · rw [if_pos c4] at H
          have c4b0 : decide (0 ≤ x10_1) = true := decide_eq_true c4
          clear c4
          by_cases c5 : x10_1 < (l0.length : Int)
          · rw [if_pos c5] at H
            have c5b0 : decide (x10_1 < (l0.length : Int)) = true := decide_eq_true c5
            clear c5
            by_cases c6 : a1 ≥ ((rd_T56 l0 x10_1).f1)
            · rw [if_pos c6] at H
              have c6b0 : decide (((rd_T56 l0 x10_1).f1) ≤ a1) = true := decide_eq_true c6
              clear c6
              by_cases c7 : ((rd_T56 l0 x10_1).f2) = 0
              · rw [if_pos c7] at H
                exact absurd H (by simp)
              · rw [if_neg c7] at H
                have c7b0 : (((rd_T56 l0 x10_1).f2) == 0) = false := beq_eq_false_iff_ne.mpr c7
                have c7b1 : (((rd_T56 l0 x10_1).f2) != 0) = true := bne_iff_ne.mpr c7
                have H' := Aside0.mk H
                clear H
                have p418 : 0 ≤ (x10_1 : Int) := of_decide_eq_true (by first | (with_reducible assumption) | assumption)
                have q418 : x10_1 < (l0.length : Int) := of_decide_eq_true (by first | (with_reducible assumption) | assumption)
                obtain ⟨ad418, e418, hx418_0, hx418_1, hx418_2⟩ := at_T56 HR0.out x10_1 p418 q418
                cases e418
                replace hx418_0 := (HB.out.cell (World.block_lt_of_cell? w _ hx418_0)).trans hx418_0
                replace hx418_1 := (HB.out.cell (World.block_lt_of_cell? w _ hx418_1)).trans hx418_1
                replace hx418_2 := (HB.out.cell (World.block_lt_of_cell? w _ hx418_2)).trans hx418_2
                replace p418 := eq_true p418
                replace q418 := eq_true q418
                go_wp2_with (first | ((with_reducible refine gate_dst (N := 7) rfl ?_); refine box_event ?hg (N := 7) ?hd (cs := #[.int .i64 0, .int .i64 0, .int .i64 0]) (t := 56) ?hr ?_; (case hd => rfl); (case hg => rfl); (case hr => first | (go_simp; done) | (go_simp; rfl)); intro gb419 hg w8 hbox hb; have n0_ := Aside0.mk (below_step (by repeat (first | (with_reducible first | exact HB.out | apply below_alloc | apply pw_below_drewN | apply below_drew1) | exact HB.out)) hb); have n1_ := Aside0.mk (hbox); have n2_ := Aside0.mk ((by rw [hg]; exact (below_size (by repeat (first | (with_reducible first | exact HB.out | apply below_alloc | apply pw_below_drewN | apply below_drew1) | exact HB.out))) : w.heap.size ≤ gb419)); have n3_ := Aside0.mk ((by rw [hg]; exact (below_size (by repeat (first | (with_reducible first | exact HB.out | apply below_alloc | apply pw_below_drewN | apply below_drew1) | exact HB.out))) : w.heap.size ≤ gb419)); clear HB; have HB := n0_; have BK419 := n1_; have GW419 := n2_; have GE419 := n3_; clear n0_ n1_ n2_ n3_; clear hb hbox hg; have hcz9_0 : w8.cell? ⟨gb419, 0, none⟩ = some (.int .i64 0) := (blk_cell BK419.out 0).trans rfl; have hcz9_1 : w8.cell? ⟨gb419, 1, none⟩ = some (.int .i64 0) := (blk_cell BK419.out 1).trans rfl; have hcz9_2 : w8.cell? ⟨gb419, 2, none⟩ = some (.int .i64 0) := (blk_cell BK419.out 2).trans rfl; have hfz9_0 := blk_frozen BK419.out 0; have hfz9_1 := blk_frozen BK419.out 1; have hfz9_2 := blk_frozen BK419.out 2))
                repeat (go_quiet (first | ((with_reducible refine gate_dst (N := 7) rfl ?_); refine box_event ?hg (N := 7) ?hd (cs := #[.int .i64 0, .int .i64 0, .int .i64 0]) (t := 56) ?hr ?_; (case hd => rfl); (case hg => rfl); (case hr => first | (go_simp; done) | (go_simp; rfl)); intro gb419 hg w8 hbox hb; have n0_ := Aside0.mk (below_step (by repeat (first | (with_reducible first | exact HB.out | apply below_alloc | apply pw_below_drewN | apply below_drew1) | exact HB.out)) hb); have n1_ := Aside0.mk (hbox); have n2_ := Aside0.mk ((by rw [hg]; exact (below_size (by repeat (first | (with_reducible first | exact HB.out | apply below_alloc | apply pw_below_drewN | apply below_drew1) | exact HB.out))) : w.heap.size ≤ gb419)); have n3_ := Aside0.mk ((by rw [hg]; exact (below_size (by repeat (first | (with_reducible first | exact HB.out | apply below_alloc | apply pw_below_drewN | apply below_drew1) | exact HB.out))) : w.heap.size ≤ gb419)); clear HB; have HB := n0_; have BK419 := n1_; have GW419 := n2_; have GE419 := n3_; clear n0_ n1_ n2_ n3_; clear hb hbox hg; have hcz9_0 : w8.cell? ⟨gb419, 0, none⟩ = some (.int .i64 0) := (blk_cell BK419.out 0).trans rfl; have hcz9_1 : w8.cell? ⟨gb419, 1, none⟩ = some (.int .i64 0) := (blk_cell BK419.out 1).trans rfl; have hcz9_2 : w8.cell? ⟨gb419, 2, none⟩ = some (.int .i64 0) := (blk_cell BK419.out 2).trans rfl; have hfz9_0 := blk_frozen BK419.out 0; have hfz9_1 := blk_frozen BK419.out 1; have hfz9_2 := blk_frozen BK419.out 2)); try go_wp2_with (first | ((with_reducible refine gate_dst (N := 7) rfl ?_); refine box_event ?hg (N := 7) ?hd (cs := #[.int .i64 0, .int .i64 0, .int .i64 0]) (t := 56) ?hr ?_; (case hd => rfl); (case hg => rfl); (case hr => first | (go_simp; done) | (go_simp; rfl)); intro gb419 hg w8 hbox hb; have n0_ := Aside0.mk (below_step (by repeat (first | (with_reducible first | exact HB.out | apply below_alloc | apply pw_below_drewN | apply below_drew1) | exact HB.out)) hb); have n1_ := Aside0.mk (hbox); have n2_ := Aside0.mk ((by rw [hg]; exact (below_size (by repeat (first | (with_reducible first | exact HB.out | apply below_alloc | apply pw_below_drewN | apply below_drew1) | exact HB.out))) : w.heap.size ≤ gb419)); have n3_ := Aside0.mk ((by rw [hg]; exact (below_size (by repeat (first | (with_reducible first | exact HB.out | apply below_alloc | apply pw_below_drewN | apply below_drew1) | exact HB.out))) : w.heap.size ≤ gb419)); clear HB; have HB := n0_; have BK419 := n1_; have GW419 := n2_; have GE419 := n3_; clear n0_ n1_ n2_ n3_; clear hb hbox hg; have hcz9_0 : w8.cell? ⟨gb419, 0, none⟩ = some (.int .i64 0) := (blk_cell BK419.out 0).trans rfl; have hcz9_1 : w8.cell? ⟨gb419, 1, none⟩ = some (.int .i64 0) := (blk_cell BK419.out 1).trans rfl; have hcz9_2 : w8.cell? ⟨gb419, 2, none⟩ = some (.int .i64 0) := (blk_cell BK419.out 2).trans rfl; have hfz9_0 := blk_frozen BK419.out 0; have hfz9_1 := blk_frozen BK419.out 1; have hfz9_2 := blk_frozen BK419.out 2)))
                go_roundg k1
                case measure => have := HK1.out; omega
                case rel => exact ⟨(wrap64 (x5_1 + (wrap64 ((wrap64 ((wrap64 (Int.tdiv (wrap64 (a1 - ((rd_T56 l0 x10_1).f1))) ((rd_T56 l0 x10_1).f2))) + 1)) * ((rd_T56 l0 x10_1).f0))))), (wrap64 (x10_1 + 1)), (by first | rfl | (simp; done) | (simp [*]; done)), (by first | rfl | (simp; done) | (simp [*]; done)), H', ⟨by have := HK1.out; omega⟩, ⟨by repeat (first | (with_reducible first | exact HB.out | apply below_alloc | apply pw_below_drewN | apply below_drew1 | refine below_set ?_ GE419.out) | exact HB.out)⟩⟩
            · rw [if_neg c6] at H
              have c6b0 : decide (((rd_T56 l0 x10_1).f1) ≤ a1) = false := decide_eq_false c6
              clear c6
              have H' := Aside0.mk H
              clear H
              have p418 : 0 ≤ (x10_1 : Int) := of_decide_eq_true (by first | (with_reducible assumption) | assumption)
              have q418 : x10_1 < (l0.length : Int) := of_decide_eq_true (by first | (with_reducible assumption) | assumption)
              obtain ⟨ad418, e418, hx418_0, hx418_1, hx418_2⟩ := at_T56 HR0.out x10_1 p418 q418
              cases e418
              replace hx418_0 := (HB.out.cell (World.block_lt_of_cell? w _ hx418_0)).trans hx418_0
              replace hx418_1 := (HB.out.cell (World.block_lt_of_cell? w _ hx418_1)).trans hx418_1
              replace hx418_2 := (HB.out.cell (World.block_lt_of_cell? w _ hx418_2)).trans hx418_2
              replace p418 := eq_true p418
              replace q418 := eq_true q418
              go_wp2_with (first | ((with_reducible refine gate_dst (N := 7) rfl ?_); refine box_event ?hg (N := 7) ?hd (cs := #[.int .i64 0, .int .i64 0, .int .i64 0]) (t := 56) ?hr ?_; (case hd => rfl); (case hg => rfl); (case hr => first | (go_simp; done) | (go_simp; rfl)); intro gb419 hg w10 hbox hb; have n0_ := Aside0.mk (below_step (by repeat (first | (with_reducible first | exact HB.out | apply below_alloc | apply pw_below_drewN | apply below_drew1) | exact HB.out)) hb); have n1_ := Aside0.mk (hbox); have n2_ := Aside0.mk ((by rw [hg]; exact (below_size (by repeat (first | (with_reducible first | exact HB.out | apply below_alloc | apply pw_below_drewN | apply below_drew1) | exact HB.out))) : w.heap.size ≤ gb419)); have n3_ := Aside0.mk ((by rw [hg]; exact (below_size (by repeat (first | (with_reducible first | exact HB.out | apply below_alloc | apply pw_below_drewN | apply below_drew1) | exact HB.out))) : w.heap.size ≤ gb419)); clear HB; have HB := n0_; have BK419 := n1_; have GW419 := n2_; have GE419 := n3_; clear n0_ n1_ n2_ n3_; clear hb hbox hg; have hcz11_0 : w10.cell? ⟨gb419, 0, none⟩ = some (.int .i64 0) := (blk_cell BK419.out 0).trans rfl; have hcz11_1 : w10.cell? ⟨gb419, 1, none⟩ = some (.int .i64 0) := (blk_cell BK419.out 1).trans rfl; have hcz11_2 : w10.cell? ⟨gb419, 2, none⟩ = some (.int .i64 0) := (blk_cell BK419.out 2).trans rfl; have hfz11_0 := blk_frozen BK419.out 0; have hfz11_1 := blk_frozen BK419.out 1; have hfz11_2 := blk_frozen BK419.out 2))
              repeat (go_quiet (first | ((with_reducible refine gate_dst (N := 7) rfl ?_); refine box_event ?hg (N := 7) ?hd (cs := #[.int .i64 0, .int .i64 0, .int .i64 0]) (t := 56) ?hr ?_; (case hd => rfl); (case hg => rfl); (case hr => first | (go_simp; done) | (go_simp; rfl)); intro gb419 hg w10 hbox hb; have n0_ := Aside0.mk (below_step (by repeat (first | (with_reducible first | exact HB.out | apply below_alloc | apply pw_below_drewN | apply below_drew1) | exact HB.out)) hb); have n1_ := Aside0.mk (hbox); have n2_ := Aside0.mk ((by rw [hg]; exact (below_size (by repeat (first | (with_reducible first | exact HB.out | apply below_alloc | apply pw_below_drewN | apply below_drew1) | exact HB.out))) : w.heap.size ≤ gb419)); have n3_ := Aside0.mk ((by rw [hg]; exact (below_size (by repeat (first | (with_reducible first | exact HB.out | apply below_alloc | apply pw_below_drewN | apply below_drew1) | exact HB.out))) : w.heap.size ≤ gb419)); clear HB; have HB := n0_; have BK419 := n1_; have GW419 := n2_; have GE419 := n3_; clear n0_ n1_ n2_ n3_; clear hb hbox hg; have hcz11_0 : w10.cell? ⟨gb419, 0, none⟩ = some (.int .i64 0) := (blk_cell BK419.out 0).trans rfl; have hcz11_1 : w10.cell? ⟨gb419, 1, none⟩ = some (.int .i64 0) := (blk_cell BK419.out 1).trans rfl; have hcz11_2 : w10.cell? ⟨gb419, 2, none⟩ = some (.int .i64 0) := (blk_cell BK419.out 2).trans rfl; have hfz11_0 := blk_frozen BK419.out 0; have hfz11_1 := blk_frozen BK419.out 1; have hfz11_2 := blk_frozen BK419.out 2)); try go_wp2_with (first | ((with_reducible refine gate_dst (N := 7) rfl ?_); refine box_event ?hg (N := 7) ?hd (cs := #[.int .i64 0, .int .i64 0, .int .i64 0]) (t := 56) ?hr ?_; (case hd => rfl); (case hg => rfl); (case hr => first | (go_simp; done) | (go_simp; rfl)); intro gb419 hg w10 hbox hb; have n0_ := Aside0.mk (below_step (by repeat (first | (with_reducible first | exact HB.out | apply below_alloc | apply pw_below_drewN | apply below_drew1) | exact HB.out)) hb); have n1_ := Aside0.mk (hbox); have n2_ := Aside0.mk ((by rw [hg]; exact (below_size (by repeat (first | (with_reducible first | exact HB.out | apply below_alloc | apply pw_below_drewN | apply below_drew1) | exact HB.out))) : w.heap.size ≤ gb419)); have n3_ := Aside0.mk ((by rw [hg]; exact (below_size (by repeat (first | (with_reducible first | exact HB.out | apply below_alloc | apply pw_below_drewN | apply below_drew1) | exact HB.out))) : w.heap.size ≤ gb419)); clear HB; have HB := n0_; have BK419 := n1_; have GW419 := n2_; have GE419 := n3_; clear n0_ n1_ n2_ n3_; clear hb hbox hg; have hcz11_0 : w10.cell? ⟨gb419, 0, none⟩ = some (.int .i64 0) := (blk_cell BK419.out 0).trans rfl; have hcz11_1 : w10.cell? ⟨gb419, 1, none⟩ = some (.int .i64 0) := (blk_cell BK419.out 1).trans rfl; have hcz11_2 : w10.cell? ⟨gb419, 2, none⟩ = some (.int .i64 0) := (blk_cell BK419.out 2).trans rfl; have hfz11_0 := blk_frozen BK419.out 0; have hfz11_1 := blk_frozen BK419.out 1; have hfz11_2 := blk_frozen BK419.out 2)))
              go_roundg k1
              case measure => have := HK1.out; omega
              case rel => exact ⟨(x5_1), (wrap64 (x10_1 + 1)), (by first | rfl | (simp; done) | (simp [*]; done)), (by first | rfl | (simp; done) | (simp [*]; done)), H', ⟨by have := HK1.out; omega⟩, ⟨by repeat (first | (with_reducible first | exact HB.out | apply below_alloc | apply pw_below_drewN | apply below_drew1 | refine below_set ?_ GE419.out) | exact HB.out)⟩⟩
          · rw [if_neg c5] at H
            exact absurd H (by simp)
        · rw [if_neg c4] at H
          exact absurd H (by simp)
      · rw [if_neg c3] at H
        have c3b0 : decide (x10_1 < (l0.length : Int)) = false := decide_eq_false c3
        clear c3
        obtain rfl := Option.some.inj H
        go_wp2
        repeat (go_quiet (fail); try go_wp2)
        go_ret
        exact ⟨by first | rfl | (simp [errW_none, errW_some] <;> rfl) | (simp [*, errW_none, errW_some] <;> rfl), by repeat (first | (with_reducible first | exact HB.out | apply below_alloc | apply pw_below_drewN | apply below_drew1) | exact HB.out)⟩

end Go.Proofs.Ytgcjadhmkhpbnaa.P
/- Task sets, their hyperperiod, load and demand, as plain functions. Conditions: a valid set. -/
namespace Go.Proofs.Ytgcjadhmkhpbnaa.Tm
open Go.RowKit Go.Proofs.Ytgcjadhmkhpbnaa.P Go.Proofs.Ytgcjadhmkhpbnaa.Base Go.Proofs.Ytgcjadhmkhpbnaa.Gen Go.Proofs.Ytgcjadhmkhpbnaa.Alive Go.Proofs.Ytgcjadhmkhpbnaa.Set Go.Proofs.YtgcjadhmkhpbnaaW.PrintWords Go.Proofs.YtgcjadhmkhpbnaaW.PrintLast
/-- A sum over a row. -/
def sm {α : Type} (f : α → Int) : List α → Int
  | [] => 0
  | a :: l => f a + sm f l
theorem sm_append {α : Type} (f : α → Int) (l m : List α) : sm f (l ++ m) = sm f l + sm f m := by
  induction l with
  | nil => simp [sm]
  | cons a l ih => rw [List.cons_append, sm, sm, ih]; omega
theorem sm_take {α : Type} (f : α → Int) (l : List α) (i : Nat) (h : i < l.length) : sm f (l.take (i + 1)) = sm f (l.take i) + f l[i] := by
  rw [List.take_succ_eq_append_getElem h, sm_append]
  simp [sm]
theorem sm_perm {α : Type} (f : α → Int) {l m : List α} (h : l.Perm m) : sm f l = sm f m := by
  induction h with
  | nil => rfl
  | cons a _ ih => rw [sm, sm, ih]
  | swap a b l => simp only [sm]; omega
  | trans _ _ h1 h2 => exact h1.trans h2
theorem sm_le {α : Type} (f g : α → Int) (l : List α) (h : ∀ a ∈ l, f a ≤ g a) : sm f l ≤ sm g l := by
  induction l with
  | nil => exact Int.le_refl _
  | cons a l ih =>
    have h1 := h a (List.mem_cons_self ..)
    have h2 := ih (fun x hx => h x (List.mem_cons_of_mem _ hx))
    rw [sm, sm]; omega
theorem sm_congr {α : Type} (f g : α → Int) (l : List α) (h : ∀ a ∈ l, f a = g a) : sm f l = sm g l := by
  induction l with
  | nil => rfl
  | cons a l ih => rw [sm, sm, h a (List.mem_cons_self ..), ih (fun x hx => h x (List.mem_cons_of_mem _ hx))]
theorem sm_nonneg {α : Type} (f : α → Int) (l : List α) (h : ∀ a ∈ l, 0 ≤ f a) : 0 ≤ sm f l := by
  induction l with
  | nil => exact Int.le_refl _
  | cons a l ih =>
    have h1 := h a (List.mem_cons_self ..)
    have h2 := ih (fun x hx => h x (List.mem_cons_of_mem _ hx))
    rw [sm]; omega
theorem sm_bd {α : Type} (f : α → Int) (l : List α) (B : Int) (hB : ∀ a ∈ l, f a ≤ B) : sm f l ≤ l.length * B := by
  induction l with
  | nil => simp [sm]
  | cons a l ih =>
    have h1 := hB a (List.mem_cons_self ..)
    have h2 := ih (fun x hx => hB x (List.mem_cons_of_mem _ hx))
    rw [sm, List.length_cons, Int.natCast_add, Int.add_mul]; simp only [Int.natCast_one, Int.one_mul]; omega
theorem sm_add {α : Type} (f g : α → Int) (l : List α) : sm (fun a => f a + g a) l = sm f l + sm g l := by
  induction l with
  | nil => rfl
  | cons a l ih => rw [sm, sm, sm, ih]; omega
theorem sm_mul {α : Type} (f : α → Int) (c : Int) (l : List α) : sm (fun a => c * f a) l = c * sm f l := by
  induction l with
  | nil => simp [sm]
  | cons a l ih => rw [sm, sm, ih, Int.mul_add]
theorem sm_map {α β : Type} (f : β → Int) (g : α → β) (l : List α) : sm f (l.map g) = sm (fun a => f (g a)) l := by
  induction l with
  | nil => rfl
  | cons a l ih => rw [List.map_cons, sm, sm, ih]
theorem take_bd {α : Type} (f : α → Int) (l : List α) (B : Int) (h0 : ∀ a ∈ l, 0 ≤ f a ∧ f a ≤ B) (i : Nat) (hi : i ≤ l.length) : 0 ≤ sm f (l.take i) ∧ sm f (l.take i) ≤ i * B := by
  refine ⟨sm_nonneg _ _ (fun a ha => (h0 a (List.mem_of_mem_take ha)).1), ?_⟩
  have := sm_bd f (l.take i) B (fun a ha => (h0 a (List.mem_of_mem_take ha)).2)
  rwa [List.length_take, Nat.min_eq_left hi] at this
/-- The hyperperiod. -/
def hy (l : List Task) : Nat := l.foldl (fun h t => Nat.lcm h t.f2.toNat) 1
theorem hy_take (l : List Task) (i : Nat) (h : i < l.length) : hy (l.take (i + 1)) = Nat.lcm (hy (l.take i)) l[i].f2.toNat := by
  unfold hy
  rw [List.take_succ_eq_append_getElem h, List.foldl_append]
  rfl
theorem fold_dvd (l : List Task) : ∀ h : Nat, h ∣ l.foldl (fun h t => Nat.lcm h t.f2.toNat) h ∧ ∀ t ∈ l, t.f2.toNat ∣ l.foldl (fun h t => Nat.lcm h t.f2.toNat) h := by
  induction l with
  | nil => intro h; exact ⟨Nat.dvd_refl _, fun t ht => by simp at ht⟩
  | cons a l ih =>
    intro h
    obtain ⟨h1, h2⟩ := ih (Nat.lcm h a.f2.toNat)
    refine ⟨Nat.dvd_trans (Nat.dvd_lcm_left _ _) h1, fun t ht => ?_⟩
    rcases List.mem_cons.1 ht with rfl | ht
    · exact Nat.dvd_trans (Nat.dvd_lcm_right _ _) h1
    · exact h2 t ht
theorem hy_dvd {l : List Task} {t : Task} (ht : t ∈ l) : t.f2.toNat ∣ hy l := (fold_dvd l 1).2 t ht
theorem fold_least (l : List Task) (m : Nat) (hm : ∀ t ∈ l, t.f2.toNat ∣ m) : ∀ h : Nat, h ∣ m → l.foldl (fun h t => Nat.lcm h t.f2.toNat) h ∣ m := by
  induction l with
  | nil => intro h hh; exact hh
  | cons a l ih =>
    intro h hh
    exact ih (fun t ht => hm t (List.mem_cons_of_mem _ ht)) _ (Nat.lcm_dvd hh (hm a (List.mem_cons_self ..)))
theorem hy_least {l : List Task} {m : Nat} (hm : ∀ t ∈ l, t.f2.toNat ∣ m) : hy l ∣ m := fold_least l m hm 1 (Nat.one_dvd _)
def AllV (l : List Task) : Prop := ∀ t ∈ l, TVt t
theorem _root_.Go.Proofs.Ytgcjadhmkhpbnaa.Set.SetOk.all {l : List Task} (h : SetOk l) : AllV l := h.2
theorem small_dvd {p : Nat} (h1 : 1 ≤ p) (h2 : p ≤ 12) : p ∣ 27720 := by
  have : p = 1 ∨ p = 2 ∨ p = 3 ∨ p = 4 ∨ p = 5 ∨ p = 6 ∨ p = 7 ∨ p = 8 ∨ p = 9 ∨ p = 10 ∨ p = 11 ∨ p = 12 := by omega
  rcases this with rfl | rfl | rfl | rfl | rfl | rfl | rfl | rfl | rfl | rfl | rfl | rfl <;> decide
theorem hy_small {l : List Task} (h : AllV l) : hy l ∣ 27720 := hy_least fun t ht => by
  have := h t ht
  unfold TVt TV at this
  exact small_dvd (by omega) (by omega)
theorem hy_bd {l : List Task} (h : AllV l) : 1 ≤ hy l ∧ hy l ≤ 27720 := by
  have h1 := hy_small h
  have h2 := Nat.le_of_dvd (by omega) h1
  have h3 : hy l ≠ 0 := fun e => by rw [e] at h1; simp at h1
  omega
theorem AllV.take {l : List Task} (h : AllV l) (i : Nat) : AllV (l.take i) := fun t ht => h t (List.mem_of_mem_take ht)
theorem lcm_div (a b : Nat) (h : 0 < a) : a / Nat.gcd a b * b = Nat.lcm a b := by
  unfold Nat.lcm
  obtain ⟨k, hk⟩ := Nat.gcd_dvd_left a b
  have hg : 0 < Nat.gcd a b := Nat.gcd_pos_of_pos_left _ h
  generalize Nat.gcd a b = g at *
  subst hk
  rw [Nat.mul_div_cancel_left _ hg, Nat.mul_assoc, Nat.mul_div_cancel_left _ hg]
/-- The work of one hyperperiod (or of a multiple of it). -/
def wk (l : List Task) (m : Int) : Int := sm (fun t => m / t.f2 * t.f0) l
def ld (l : List Task) : Int := wk l (hy l)
/-- The demand bound. -/
def d1 (t : Int) (x : Task) : Int := if t ≥ x.f1 then ((t - x.f1) / x.f2 + 1) * x.f0 else 0
def dm (l : List Task) (t : Int) : Int := sm (d1 t) l
theorem d1_bd {x : Task} (hx : TVt x) {t : Int} (h0 : 0 ≤ t) : 0 ≤ d1 t x ∧ d1 t x ≤ 8 * (t + 1) := by
  unfold TVt TV at hx
  unfold d1
  split
  · rename_i h
    have h1 := Int.ediv_nonneg (show 0 ≤ t - x.f1 by omega) (show 0 ≤ x.f2 by omega)
    have h2 := Int.ediv_le_self x.f2 (show 0 ≤ t - x.f1 by omega)
    have h3 := mul_bd (a := (t - x.f1) / x.f2 + 1) (b := x.f0) (A := t + 1) (B := 8) (by omega) (by omega) (by omega) (by omega)
    omega
  · omega
theorem d1_add {x : Task} (hx : TVt x) {t q : Int} (h0 : 0 ≤ t) (hq : 0 ≤ q) : d1 (t + q * x.f2) x = d1 t x + q * x.f0 := by
  unfold TVt TV at hx
  unfold d1
  by_cases h : t ≥ x.f1
  · have hm := Int.mul_nonneg hq (show 0 ≤ x.f2 by omega)
    rw [if_pos h, if_pos (by omega), show t + q * x.f2 - x.f1 = t - x.f1 + q * x.f2 by omega, Int.add_mul_ediv_right _ _ (by omega)]
    rw [show (t - x.f1) / x.f2 + q + 1 = (t - x.f1) / x.f2 + 1 + q by omega, Int.add_mul]
  · rw [if_neg h]
    by_cases hz : q = 0
    · subst hz
      rw [if_neg (by omega)]; omega
    · have hm : x.f2 ≤ q * x.f2 := by
        have := Int.mul_le_mul_of_nonneg_right (show 1 ≤ q by omega) (show 0 ≤ x.f2 by omega)
        omega
      have e : (t - x.f1) / x.f2 = -1 := by
        have e1 : (t - x.f1 + 1 * x.f2) / x.f2 = (t - x.f1) / x.f2 + 1 := Int.add_mul_ediv_right _ _ (by omega)
        have e2 : (t - x.f1 + 1 * x.f2) / x.f2 = 0 := Int.ediv_eq_zero_of_lt (by omega) (by omega)
        omega
      rw [if_pos (by omega), show t + q * x.f2 - x.f1 = t - x.f1 + q * x.f2 by omega, Int.add_mul_ediv_right _ _ (by omega), e]
      rw [show -1 + q + 1 = q by omega]; omega
theorem dm_add {l : List Task} (hl : AllV l) {t m : Int} (h0 : 0 ≤ t) (hm : 0 ≤ m) (hd : ∀ x ∈ l, x.f2 ∣ m) : dm l (t + m) = dm l t + wk l m := by
  unfold dm wk
  rw [← sm_add]
  apply sm_congr
  intro x hx
  have hv := hl x hx
  have hv' := hv
  unfold TVt TV at hv'
  obtain ⟨q, rfl⟩ := hd x hx
  have hq : 0 ≤ q := by
    apply Classical.byContradiction
    intro h
    have := Int.mul_lt_mul_of_pos_left (show q < 0 by omega) (show 0 < x.f2 by omega)
    omega
  rw [Int.mul_ediv_cancel_left _ (by omega), Int.mul_comm, d1_add hv h0 hq]
theorem dm_zero {l : List Task} (hl : AllV l) : dm l 0 = 0 := by
  unfold dm
  have : sm (d1 0) l = sm (fun _ => 0) l := sm_congr _ _ _ fun x hx => by
    have := hl x hx
    unfold TVt TV at this
    unfold d1; rw [if_neg (by omega)]
  rw [this]
  clear this hl
  induction l with
  | nil => rfl
  | cons a l ih => rw [sm, ih]; rfl
theorem hy_int {l : List Task} (hl : AllV l) {x : Task} (hx : x ∈ l) : x.f2 ∣ (hy l : Int) := by
  have h1 := hy_dvd hx
  have := hl x hx
  unfold TVt TV at this
  have := Int.natCast_dvd_natCast.2 h1
  rwa [Int.toNat_of_nonneg (by omega)] at this
theorem dm_hy {l : List Task} (hl : AllV l) : dm l (hy l) = ld l := by
  have := dm_add hl (t := 0) (m := hy l) (by omega) (by omega) (fun x hx => hy_int hl hx)
  rw [dm_zero hl] at this
  unfold ld
  simpa using this
/-- The processor-demand test. -/
def Edf (l : List Task) : Prop := SetOk l ∧ ∀ t : Int, 1 ≤ t → t ≤ hy l → dm l t ≤ t
theorem edf_all {l : List Task} (h : Edf l) : ∀ n : Nat, dm l (n : Int) ≤ (n : Int) := by
  intro n
  induction n using Nat.strongRecOn with
  | ind n ih =>
    have hb := hy_bd h.1.all
    rcases Nat.eq_zero_or_pos n with rfl | hn
    · rw [show ((0 : Nat) : Int) = 0 from rfl, dm_zero h.1.all]; omega
    · by_cases hle : n ≤ hy l
      · exact h.2 n (by omega) (by omega)
      · have h1 := ih (n - hy l) (by omega)
        have h2 := dm_add h.1.all (t := ((n - hy l : Nat) : Int)) (m := hy l) (by omega) (by omega) (fun x hx => hy_int h.1.all hx)
        have h3 := dm_hy h.1.all
        have h4 := h.2 (hy l) (by omega) (by omega)
        unfold ld at h3
        rw [show (n : Int) = ((n - hy l : Nat) : Int) + (hy l : Int) by omega]
        omega
theorem edf_load {l : List Task} (h : Edf l) : ld l ≤ hy l := by
  have hb := hy_bd h.1.all
  rw [← dm_hy h.1.all]
  exact h.2 _ (by omega) (by omega)
theorem ld_bd {l : List Task} (h : SetOk l) : 0 ≤ ld l ∧ ld l ≤ 1108800 := by
  have hb := hy_bd h.all
  have h1 : ∀ t ∈ l, 0 ≤ (hy l : Int) / t.f2 * t.f0 ∧ (hy l : Int) / t.f2 * t.f0 ≤ 27720 * 8 := by
    intro t ht
    have := h.2 t ht
    unfold TVt TV at this
    have h1 := Int.ediv_nonneg (show 0 ≤ (hy l : Int) by omega) (show 0 ≤ t.f2 by omega)
    have h2 := Int.ediv_le_self t.f2 (show 0 ≤ (hy l : Int) by omega)
    exact mul_bd h1 (by omega) (by omega) (by omega)
  have h2 := take_bd _ l _ h1 l.length (Nat.le_refl _)
  rw [List.take_length] at h2
  have h3 := h.1
  unfold ld wk
  omega
end Go.Proofs.Ytgcjadhmkhpbnaa.Tm
/- The program's and the reference's functions on task sets are the plain ones. Conditions: a valid set. -/
namespace Go.Proofs.Ytgcjadhmkhpbnaa.Tm
open Go.RowKit Go.Proofs.Ytgcjadhmkhpbnaa.P Go.Proofs.Ytgcjadhmkhpbnaa.Base Go.Proofs.Ytgcjadhmkhpbnaa.Gen Go.Proofs.Ytgcjadhmkhpbnaa.Alive Go.Proofs.Ytgcjadhmkhpbnaa.Set Go.Proofs.YtgcjadhmkhpbnaaW.PrintWords Go.Proofs.YtgcjadhmkhpbnaaW.PrintLast
theorem rdT_at (l : List Task) (i : Nat) (h : i < l.length) : rd_T56 l (i : Int) = l[i] := by
  unfold rd_T56
  rw [List.getD_eq_getElem?_getD, Int.toNat_natCast, List.getElem?_eq_getElem h]
  rfl
theorem stv_f (c d p : Int) : spec_TaskValid.f c d p = some (decide (TV c d p)) := by
  unfold spec_TaskValid.f
  rw [l1In_f, l1In_f, l1In_f, and_bind, and_bind]
  by_cases h1 : 1 ≤ c ∧ c ≤ 8
  · by_cases h2 : c ≤ d ∧ d ≤ p
    · rw [if_pos h1, if_pos h2]; simp only [Option.bind_some]; congr 1; rw [decide_eq_decide]; unfold TV; omega
    · rw [if_pos h1, if_neg h2]; congr 1; symm; rw [decide_eq_false_iff_not]; unfold TV; omega
  · rw [if_neg h1]; congr 1; symm; rw [decide_eq_false_iff_not]; unfold TV; omega
theorem sset_ev (l : List Task) (hl : l.length ≤ 2097152) : Ev (fun k => spec_SetValid.f k l) (decide (SetOk l)) := by
  have loop : ∀ d i, i + d = l.length → (∀ j (h : j < l.length), j < i → TVt l[j]) → Ev (fun k => spec_SetValid.l0 k l (i : Int)) (decide (SetOk l)) := by
    intro d
    induction d with
    | zero =>
      intro i hi hm
      have ha : ∀ t ∈ l, TVt t := by
        intro t ht
        obtain ⟨j, hj, rfl⟩ := List.mem_iff_getElem.1 ht
        exact hm j hj (by omega)
      refine Ev.step (f := fun _ => some (decide (SetOk l))) (fun k => ?_) (Ev.now _)
      simp only [spec_SetValid.l0]
      rw [if_neg (by omega)]
      congr 1
      rw [decide_eq_decide]
      unfold SetOk
      exact ⟨fun h => ⟨by omega, ha⟩, fun h => by omega⟩
    | succ d ih =>
      intro i hi hm
      have hil : i < l.length := by omega
      by_cases hv : TVt l[i]
      · refine Ev.step (fun k => ?_) (ih (i + 1) (by omega) (fun j hj hji => ?_))
        · have hv' : TV l[i].f0 l[i].f1 l[i].f2 := hv
          simp only [spec_SetValid.l0]
          rw [if_pos (by omega), if_pos (by omega), rdT_at l i hil, stv_f, decide_eq_true hv', w64 (by omega) (by omega)]
          rfl
        · by_cases e : j = i
          · subst e; exact hv
          · exact hm j hj (by omega)
      · rw [decide_eq_false (fun h => hv (h.2 _ (List.getElem_mem hil)))]
        have hv' : ¬ TV l[i].f0 l[i].f1 l[i].f2 := hv
        refine Ev.step (f := fun _ => some false) (fun k => ?_) (Ev.now _)
        simp only [spec_SetValid.l0]
        rw [if_pos (by omega), if_pos (by omega), rdT_at l i hil, stv_f, decide_eq_false hv']
        rfl
  exact loop l.length 0 (by omega) (fun j _ h => by omega)
theorem nmod (a b : Nat) : Int.tmod (a : Int) (b : Int) = ((a % b : Nat) : Int) := by
  rw [tmod_pos (by omega)]; omega
theorem ndiv (a b : Nat) : Int.tdiv (a : Int) (b : Int) = ((a / b : Nat) : Int) := by
  rw [tdiv_pos (by omega)]; omega
theorem gcd_step (a b : Nat) : Nat.gcd b (a % b) = Nat.gcd a b := by
  rw [Nat.gcd_comm b (a % b), ← Nat.gcd_rec, Nat.gcd_comm]
theorem gcd_ev : ∀ (b a : Nat), Ev (fun k => impl_gcd.f k (a : Int) (b : Int)) ((Nat.gcd a b : Nat) : Int) := by
  intro b
  induction b using Nat.strongRecOn with
  | ind b ih =>
    intro a
    rcases Nat.eq_zero_or_pos b with rfl | hb
    · refine Ev.step (f := fun _ => some (a : Int)) (fun k => ?_) ?_
      · unfold impl_gcd.f
        simp only [impl_gcd.l0]
        rw [if_pos (by omega)]
      · rw [Nat.gcd_zero_right]; exact Ev.now _
    · have h := ih (a % b) (Nat.mod_lt _ hb) b
      rw [gcd_step] at h
      refine Ev.step (fun k => ?_) h
      unfold impl_gcd.f
      simp only [impl_gcd.l0]
      rw [if_neg (by omega), nmod]
theorem sgcd_ev : ∀ (b a : Nat), Ev (fun k => spec_l1Gcd.f k (a : Int) (b : Int)) ((Nat.gcd a b : Nat) : Int) := by
  intro b
  induction b using Nat.strongRecOn with
  | ind b ih =>
    intro a
    rcases Nat.eq_zero_or_pos b with rfl | hb
    · refine Ev.step (f := fun _ => some (a : Int)) (fun k => ?_) ?_
      · unfold spec_l1Gcd.f
        simp only [spec_l1Gcd.l0]
        rw [if_neg (by omega)]
      · rw [Nat.gcd_zero_right]; exact Ev.now _
    · have h := ih (a % b) (Nat.mod_lt _ hb) b
      rw [gcd_step] at h
      refine Ev.step (fun k => ?_) h
      unfold spec_l1Gcd.f
      simp only [spec_l1Gcd.l0]
      rw [if_pos (by omega), if_neg (by omega), nmod]
theorem lcm_val {h p : Nat} (h1 : 1 ≤ h) (h2 : h ≤ 27720) (h3 : Nat.lcm h p ≤ 27720) : ((Nat.gcd h p : Nat) : Int) ≠ 0 ∧ wrap64 (wrap64 (Int.tdiv (h : Int) ((Nat.gcd h p : Nat) : Int)) * (p : Int)) = ((Nat.lcm h p : Nat) : Int) := by
  have hg : 0 < Nat.gcd h p := Nat.gcd_pos_of_pos_left _ h1
  refine ⟨by omega, ?_⟩
  have hd := Nat.div_le_self h (Nat.gcd h p)
  have hl := lcm_div h p h1
  rw [ndiv]
  generalize h / Nat.gcd h p = q at hd hl ⊢
  rw [w64 (x := ((q : Nat) : Int)) (by omega) (by omega), ← Int.natCast_mul, hl, w64 (by omega) (by omega)]
theorem lcm_ev {h p : Nat} (h1 : 1 ≤ h) (h2 : h ≤ 27720) (h3 : Nat.lcm h p ≤ 27720) : Ev (fun k => impl_lcm.f k (h : Int) (p : Int)) ((Nat.lcm h p : Nat) : Int) := by
  have hv := lcm_val h1 h2 h3
  unfold impl_lcm.f
  refine Ev.bind (gcd_ev p h) ?_
  rw [if_neg hv.1, hv.2]
  exact Ev.now _
theorem pnat {l : List Task} (hl : AllV l) (i : Nat) (h : i < l.length) : l[i].f2 = ((l[i].f2.toNat : Nat) : Int) := by
  have := hl _ (List.getElem_mem h)
  unfold TVt TV at this
  omega
theorem hyper_ev {l : List Task} (hs : SetOk l) : Ev (fun k => impl_hyper.f k l) ((hy l : Nat) : Int) := by
  have hl := hs.all
  have hlen := hs.1
  have loop : ∀ d i, i + d = l.length → Ev (fun k => impl_hyper.l0 k ((hy (l.take i) : Nat) : Int) l (l.length : Int) (i : Int)) ((hy l : Nat) : Int) := by
    intro d
    induction d with
    | zero =>
      intro i hi
      refine Ev.step (f := fun _ => some ((hy l : Nat) : Int)) (fun k => ?_) (Ev.now _)
      simp only [impl_hyper.l0]
      rw [if_neg (by omega), List.take_of_length_le (by omega)]
    | succ d ih =>
      intro i hi
      have hil : i < l.length := by omega
      have hb := hy_bd (hl.take i)
      have hb2 := hy_bd (hl.take (i + 1))
      rw [hy_take _ _ hil] at hb2
      refine Ev.step (f := fun k => (impl_lcm.f k ((hy (l.take i) : Nat) : Int) ((l[i].f2.toNat : Nat) : Int)).bind fun t => impl_hyper.l0 k t l (l.length : Int) ((i : Int) + 1)) (fun k => ?_) ?_
      · simp only [impl_hyper.l0]
        rw [if_pos (by omega), if_pos (by omega), if_pos (by omega), rdT_at l i hil, ← pnat hl i hil, w64 (by omega) (by omega)]
      · refine Ev.bind (lcm_ev hb.1 hb.2 hb2.2) ?_
        rw [← hy_take _ _ hil]
        exact ih (i + 1) (by omega)
  exact loop l.length 0 (by omega)
theorem shyper_ev {l : List Task} (hs : SetOk l) : Ev (fun k => spec_l1Hyper.f k l) ((hy l : Nat) : Int) := by
  have hl := hs.all
  have hlen := hs.1
  have loop : ∀ d i, i + d = l.length → Ev (fun k => spec_l1Hyper.l0 k l ((hy (l.take i) : Nat) : Int) (i : Int)) ((hy l : Nat) : Int) := by
    intro d
    induction d with
    | zero =>
      intro i hi
      refine Ev.step (f := fun _ => some ((hy l : Nat) : Int)) (fun k => ?_) (Ev.now _)
      simp only [spec_l1Hyper.l0]
      rw [if_neg (by omega), List.take_of_length_le (by omega)]
    | succ d ih =>
      intro i hi
      have hil : i < l.length := by omega
      have hb := hy_bd (hl.take i)
      have hb2 := hy_bd (hl.take (i + 1))
      rw [hy_take _ _ hil] at hb2
      have hv := lcm_val hb.1 hb.2 hb2.2
      refine Ev.step (f := fun k => (spec_l1Gcd.f k ((hy (l.take i) : Nat) : Int) ((l[i].f2.toNat : Nat) : Int)).bind fun t => if t = 0 then none else spec_l1Hyper.l0 k l (wrap64 (wrap64 (Int.tdiv ((hy (l.take i) : Nat) : Int) t) * ((l[i].f2.toNat : Nat) : Int))) ((i : Int) + 1)) (fun k => ?_) ?_
      · simp only [spec_l1Hyper.l0]
        rw [if_pos (by omega), if_pos (by omega), rdT_at l i hil, ← pnat hl i hil, w64 (x := (i : Int) + 1) (by omega) (by omega)]
      · refine Ev.bind (sgcd_ev _ _) ?_
        simp only [if_neg hv.1, hv.2, ← hy_take _ _ hil]
        exact ih (i + 1) (by omega)
  exact loop l.length 0 (by omega)
theorem wk1_bd {l : List Task} (hs : SetOk l) : ∀ t ∈ l, 0 ≤ (hy l : Int) / t.f2 ∧ (hy l : Int) / t.f2 ≤ 27720 ∧ 0 ≤ (hy l : Int) / t.f2 * t.f0 ∧ (hy l : Int) / t.f2 * t.f0 ≤ 221760 := by
  intro t ht
  have hb := hy_bd hs.all
  have := hs.2 t ht
  unfold TVt TV at this
  have h1 := Int.ediv_nonneg (show 0 ≤ (hy l : Int) by omega) (show 0 ≤ t.f2 by omega)
  have h2 := Int.ediv_le_self t.f2 (show 0 ≤ (hy l : Int) by omega)
  have h3 := mul_bd (a := (hy l : Int) / t.f2) (b := t.f0) (A := 27720) (B := 8) h1 (by omega) (by omega) (by omega)
  omega
theorem load_ev {l : List Task} (hs : SetOk l) : Ev (fun k => impl_load.f k l) (ld l) := by
  have hl := hs.all
  have hlen := hs.1
  have hb := hy_bd hl
  have h1 := wk1_bd hs
  have loop : ∀ d i, i + d = l.length → Ev (fun k => impl_load.l0 k (hy l : Int) (sm (fun t => (hy l : Int) / t.f2 * t.f0) (l.take i)) l (l.length : Int) (i : Int)) (ld l) := by
    intro d
    induction d with
    | zero =>
      intro i hi
      refine Ev.step (f := fun _ => some (ld l)) (fun k => ?_) (Ev.now _)
      simp only [impl_load.l0]
      rw [if_neg (by omega), List.take_of_length_le (by omega)]
      rfl
    | succ d ih =>
      intro i hi
      have hil : i < l.length := by omega
      have hi1 := h1 _ (List.getElem_mem hil)
      have hv := hl _ (List.getElem_mem hil)
      unfold TVt TV at hv
      have ht := take_bd (fun t => (hy l : Int) / t.f2 * t.f0) l 221760 (fun a ha => by have := h1 a ha; exact ⟨this.2.2.1, this.2.2.2⟩) i (by omega)
      have IH := ih (i + 1) (by omega)
      rw [sm_take _ _ _ hil] at IH
      refine Ev.step (fun k => ?_) IH
      simp only [impl_load.l0]
      rw [if_pos (by omega), if_pos (by omega), if_pos (by omega), rdT_at l i hil, if_neg (by omega), tdiv_pos (by omega), w64 (x := (hy l : Int) / l[i].f2) (by omega) (by omega), w64 (x := (hy l : Int) / l[i].f2 * l[i].f0) (by omega) (by omega), w64 (x := (i : Int) + 1) (by omega) (by omega), w64 (by omega) (by omega)]
      rfl
  unfold impl_load.f
  exact Ev.bind (hyper_ev hs) (loop l.length 0 (by omega))
/-- The utilization in lowest terms. -/
def ut (l : List Task) : Int × Int := (ld l / (Nat.gcd (hy l) (ld l).toNat : Nat), (hy l : Int) / (Nat.gcd (hy l) (ld l).toNat : Nat))
theorem ut_mul {l : List Task} (hs : SetOk l) : ∃ g : Int, 1 ≤ g ∧ ld l = (ut l).1 * g ∧ (hy l : Int) = (ut l).2 * g ∧ 0 ≤ (ut l).1 ∧ (ut l).1 ≤ 1108800 ∧ 1 ≤ (ut l).2 ∧ (ut l).2 ≤ 27720 := by
  have hb := hy_bd hs.all
  have hd := ld_bd hs
  have hg : 0 < Nat.gcd (hy l) (ld l).toNat := Nat.gcd_pos_of_pos_left _ hb.1
  obtain ⟨a, ha⟩ := Nat.gcd_dvd_left (hy l) (ld l).toNat
  obtain ⟨b, hb2⟩ := Nat.gcd_dvd_right (hy l) (ld l).toNat
  unfold ut
  generalize Nat.gcd (hy l) (ld l).toNat = g at *
  have e1 : (hy l : Int) = (g : Int) * (a : Int) := by rw [← Int.natCast_mul, ← ha]
  have e2 : ld l = (g : Int) * (b : Int) := by rw [← Int.natCast_mul, ← hb2]; omega
  have a1 : 1 ≤ a := by
    rcases Nat.eq_zero_or_pos a with rfl | h
    · simp at ha; omega
    · exact h
  have a2 : a ≤ hy l := by rw [ha]; exact Nat.le_mul_of_pos_left _ hg
  have b2 : b ≤ (ld l).toNat := by rw [hb2]; exact Nat.le_mul_of_pos_left _ hg
  refine ⟨g, by omega, ?_⟩
  simp only
  rw [e1, e2, Int.mul_ediv_cancel_left _ (by omega), Int.mul_ediv_cancel_left _ (by omega)]
  refine ⟨Int.mul_comm _ _, Int.mul_comm _ _, by omega, by omega, by omega, by omega⟩
theorem ut_le {l : List Task} (hs : SetOk l) : (ut l).1 ≤ (ut l).2 ↔ ld l ≤ hy l := by
  obtain ⟨g, hg, e1, e2, _⟩ := ut_mul hs
  rw [e1, e2]
  exact ⟨fun h => Int.mul_le_mul_of_nonneg_right h (by omega), fun h => Int.le_of_mul_le_mul_right h (by omega)⟩
theorem ut_scale {l : List Task} (hs : SetOk l) (b p : Int) : (ut l).1 * p ≤ b * (ut l).2 ↔ ld l * p ≤ b * hy l := by
  obtain ⟨g, hg, e1, e2, _⟩ := ut_mul hs
  rw [e1, e2, ← Int.mul_assoc, Int.mul_assoc _ g p, Int.mul_comm g p, ← Int.mul_assoc]
  exact ⟨fun h => Int.mul_le_mul_of_nonneg_right h (by omega), fun h => Int.le_of_mul_le_mul_right h (by omega)⟩
theorem sutil_ev {l : List Task} (hs : SetOk l) : Ev (fun k => spec_Utilization.f k l) (ut l) := by
  have hl := hs.all
  have hlen := hs.1
  have hb := hy_bd hl
  have hd := ld_bd hs
  have h1 := wk1_bd hs
  obtain ⟨g, hg1, hg2, hg3, hg4, hg5, hg6, hg7⟩ := ut_mul hs
  have hg : 0 < Nat.gcd (hy l) (ld l).toNat := Nat.gcd_pos_of_pos_left _ hb.1
  have loop : ∀ d i, i + d = l.length → Ev (fun k => spec_Utilization.l0 k l (hy l : Int) (sm (fun t => (hy l : Int) / t.f2 * t.f0) (l.take i)) (i : Int)) (ut l) := by
    intro d
    induction d with
    | zero =>
      intro i hi
      refine Ev.step (f := fun k => (spec_l1Gcd.f k (hy l : Int) (((ld l).toNat : Nat) : Int)).bind fun t => if t = 0 then none else some (wrap64 (Int.tdiv (ld l) t), wrap64 (Int.tdiv (hy l : Int) t))) (fun k => ?_) ?_
      · simp only [spec_Utilization.l0]
        rw [if_neg (by omega), List.take_of_length_le (by omega), Int.toNat_of_nonneg hd.1]
        rfl
      · refine Ev.bind (sgcd_ev _ _) ?_
        rw [if_neg (by omega), tdiv_pos hd.1, tdiv_pos (by omega)]
        have e : (wrap64 (ld l / (Nat.gcd (hy l) (ld l).toNat : Nat)), wrap64 ((hy l : Int) / (Nat.gcd (hy l) (ld l).toNat : Nat))) = ut l := by
          show (wrap64 (ut l).1, wrap64 (ut l).2) = ut l
          rw [w64 (by omega) (by omega), w64 (by omega) (by omega)]
        rw [e]
        exact Ev.now _
    | succ d ih =>
      intro i hi
      have hil : i < l.length := by omega
      have hi1 := h1 _ (List.getElem_mem hil)
      have hv := hl _ (List.getElem_mem hil)
      unfold TVt TV at hv
      have ht := take_bd (fun t => (hy l : Int) / t.f2 * t.f0) l 221760 (fun a ha => by have := h1 a ha; exact ⟨this.2.2.1, this.2.2.2⟩) i (by omega)
      have IH := ih (i + 1) (by omega)
      rw [sm_take _ _ _ hil] at IH
      refine Ev.step (fun k => ?_) IH
      simp only [spec_Utilization.l0]
      rw [if_pos (by omega), if_pos (by omega), rdT_at l i hil, if_neg (by omega), tdiv_pos (by omega), w64 (x := (hy l : Int) / l[i].f2) (by omega) (by omega), Int.mul_comm l[i].f0, w64 (x := (hy l : Int) / l[i].f2 * l[i].f0) (by omega) (by omega), w64 (x := (i : Int) + 1) (by omega) (by omega), w64 (by omega) (by omega)]
      rfl
  unfold spec_Utilization.f
  refine Ev.bind (sset_ev l (by omega)) ?_
  simp only [decide_eq_true hs, if_true]
  exact Ev.bind (shyper_ev hs) (loop l.length 0 (by omega))
theorem dm_take_bd {l : List Task} (hs : SetOk l) {t : Int} (h0 : 0 ≤ t) (i : Nat) (hi : i ≤ l.length) : 0 ≤ sm (d1 t) (l.take i) ∧ sm (d1 t) (l.take i) ≤ i * (8 * (t + 1)) :=
  take_bd _ l _ (fun a ha => d1_bd (hs.2 a ha) h0) i hi
theorem d1_val {x : Task} (hx : TVt x) {t : Int} (h0 : 0 ≤ t) (h1 : t ≤ 100000) (h : t ≥ x.f1) : x.f2 ≠ 0 ∧ wrap64 (wrap64 (wrap64 (Int.tdiv (wrap64 (t - x.f1)) x.f2) + 1) * x.f0) = d1 t x := by
  have hb := d1_bd hx h0
  unfold TVt TV at hx
  unfold d1 at hb ⊢
  rw [if_pos h] at hb ⊢
  have h2 := Int.ediv_nonneg (show 0 ≤ t - x.f1 by omega) (show 0 ≤ x.f2 by omega)
  have h3 := Int.ediv_le_self x.f2 (show 0 ≤ t - x.f1 by omega)
  refine ⟨by omega, ?_⟩
  rw [w64 (x := t - x.f1) (by omega) (by omega), tdiv_pos (by omega), w64 (x := (t - x.f1) / x.f2) (by omega) (by omega), w64 (x := (t - x.f1) / x.f2 + 1) (by omega) (by omega), w64 (by omega) (by omega)]
theorem demand_ev {l : List Task} (hs : SetOk l) {t : Int} (h0 : 0 ≤ t) (h1 : t ≤ 100000) : Ev (fun k => impl_demand.f k l t) (dm l t) := by
  have hlen := hs.1
  have loop : ∀ d i, i + d = l.length → Ev (fun k => impl_demand.l0 k t (sm (d1 t) (l.take i)) l (l.length : Int) (i : Int)) (dm l t) := by
    intro d
    induction d with
    | zero =>
      intro i hi
      refine Ev.step (f := fun _ => some (dm l t)) (fun k => ?_) (Ev.now _)
      simp only [impl_demand.l0]
      rw [if_neg (by omega), List.take_of_length_le (by omega)]
      rfl
    | succ d ih =>
      intro i hi
      have hil : i < l.length := by omega
      have hv := hs.2 _ (List.getElem_mem hil)
      have hb := d1_bd hv h0
      have ht := dm_take_bd hs h0 i (by omega)
      have hm : (i : Int) * (8 * (t + 1)) ≤ 5 * (8 * (t + 1)) := Int.mul_le_mul_of_nonneg_right (by omega) (by omega)
      have IH := ih (i + 1) (by omega)
      rw [sm_take _ _ _ hil] at IH
      refine Ev.step (fun k => ?_) IH
      simp only [impl_demand.l0]
      rw [if_pos (by omega), if_pos (by omega), if_pos (by omega), rdT_at l i hil, w64 (x := (i : Int) + 1) (by omega) (by omega)]
      by_cases h : t ≥ l[i].f1
      · have := d1_val hv h0 h1 h
        rw [if_pos h, if_neg this.1, this.2, w64 (by omega) (by omega)]
        rfl
      · have e : d1 t l[i] = 0 := if_neg h
        rw [if_neg h, e, Int.add_zero]
        rfl
  exact loop l.length 0 (by omega)
theorem sdemand_ev {l : List Task} (hs : SetOk l) {t : Int} (h0 : 0 ≤ t) (h1 : t ≤ 100000) : Ev (fun k => spec_l2Demand.f k l t) (dm l t) := by
  have hlen := hs.1
  have loop : ∀ d i, i + d = l.length → Ev (fun k => spec_l2Demand.l0 k l t (sm (d1 t) (l.take i)) (i : Int)) (dm l t) := by
    intro d
    induction d with
    | zero =>
      intro i hi
      refine Ev.step (f := fun _ => some (dm l t)) (fun k => ?_) (Ev.now _)
      simp only [spec_l2Demand.l0]
      rw [if_neg (by omega), List.take_of_length_le (by omega)]
      rfl
    | succ d ih =>
      intro i hi
      have hil : i < l.length := by omega
      have hv := hs.2 _ (List.getElem_mem hil)
      have hb := d1_bd hv h0
      have ht := dm_take_bd hs h0 i (by omega)
      have hm : (i : Int) * (8 * (t + 1)) ≤ 5 * (8 * (t + 1)) := Int.mul_le_mul_of_nonneg_right (by omega) (by omega)
      have IH := ih (i + 1) (by omega)
      rw [sm_take _ _ _ hil] at IH
      refine Ev.step (fun k => ?_) IH
      simp only [spec_l2Demand.l0]
      rw [if_pos (by omega), if_pos (by omega), rdT_at l i hil, w64 (x := (i : Int) + 1) (by omega) (by omega)]
      by_cases h : t ≥ l[i].f1
      · have := d1_val hv h0 h1 h
        rw [if_pos h, if_neg this.1, this.2, w64 (by omega) (by omega)]
        rfl
      · have e : d1 t l[i] = 0 := if_neg h
        rw [if_neg h, e, Int.add_zero]
        rfl
  exact loop l.length 0 (by omega)
end Go.Proofs.Ytgcjadhmkhpbnaa.Tm
/- The test for scheduling without preemption, of the program and of the reference, as one plain proposition. No condition. -/
namespace Go.Proofs.Ytgcjadhmkhpbnaa.Np
open Go.RowKit Go.Proofs.Ytgcjadhmkhpbnaa.P Go.Proofs.Ytgcjadhmkhpbnaa.Base Go.Proofs.Ytgcjadhmkhpbnaa.Gen Go.Proofs.Ytgcjadhmkhpbnaa.Alive Go.Proofs.Ytgcjadhmkhpbnaa.Set Go.Proofs.Ytgcjadhmkhpbnaa.Tm Go.Proofs.YtgcjadhmkhpbnaaW.PrintWords Go.Proofs.YtgcjadhmkhpbnaaW.PrintLast
noncomputable instance (p : Prop) : Decidable p := Classical.propDecidable p
def n1 (P t : Int) (y : Task) : Int := if y.f2 < P then (t - 1) / y.f2 * y.f0 else 0
def np1 (l : List Task) (x : Task) (t : Int) : Int := x.f0 + sm (n1 x.f2 t) l
def NP (l : List Task) : Prop := Impl l ∧ ld l ≤ hy l ∧ ∀ x ∈ l, ∀ t : Int, (∃ y ∈ l, y.f2 < t) → t < x.f2 → np1 l x t ≤ t
noncomputable instance (l : List Task) : Decidable (NP l) := Classical.propDecidable _
theorem all_of {α : Type} {P : α → Prop} {l : List α} (h : ∀ i (h : i < l.length), P l[i]) : ∀ x ∈ l, P x := by
  intro x hx
  obtain ⟨i, hi, rfl⟩ := List.mem_iff_getElem.1 hx
  exact h i hi
theorem n1_bd {y : Task} (hy : TVt y) {P t : Int} (h0 : 1 ≤ t) (h1 : t ≤ 12) : 0 ≤ n1 P t y ∧ n1 P t y ≤ 100 := by
  unfold TVt TV at hy
  unfold n1
  split
  · have h2 := Int.ediv_nonneg (show 0 ≤ t - 1 by omega) (show 0 ≤ y.f2 by omega)
    have h3 := Int.ediv_le_self y.f2 (show 0 ≤ t - 1 by omega)
    have := mul_bd (a := (t - 1) / y.f2) (b := y.f0) (A := 12) (B := 8) h2 (by omega) (by omega) (by omega)
    omega
  · omega
theorem n1_val {y : Task} (hy : TVt y) {P t : Int} (h0 : 1 ≤ t) (h1 : t ≤ 12) (h : y.f2 < P) : y.f2 ≠ 0 ∧ wrap64 (wrap64 (Int.tdiv (wrap64 (t - 1)) y.f2) * y.f0) = n1 P t y := by
  have hb := n1_bd (P := P) hy h0 h1
  unfold TVt TV at hy
  unfold n1 at hb ⊢
  rw [if_pos h] at hb ⊢
  have h2 := Int.ediv_nonneg (show 0 ≤ t - 1 by omega) (show 0 ≤ y.f2 by omega)
  have h3 := Int.ediv_le_self y.f2 (show 0 ≤ t - 1 by omega)
  refine ⟨by omega, ?_⟩
  rw [w64 (x := t - 1) (by omega) (by omega), tdiv_pos (by omega), w64 (x := (t - 1) / y.f2) (by omega) (by omega), w64 (by omega) (by omega)]
theorem n1_take {l : List Task} (hs : SetOk l) {P t : Int} (h0 : 1 ≤ t) (h1 : t ≤ 12) (i : Nat) (hi : i ≤ l.length) : 0 ≤ sm (n1 P t) (l.take i) ∧ sm (n1 P t) (l.take i) ≤ 500 := by
  have := take_bd (n1 P t) l 100 (fun a ha => n1_bd (hs.2 a ha) h0 h1) i hi
  have h5 := hs.1
  omega
/-- The smallest period, at most 12. -/
def lst (l : List Task) : Int := l.foldl (fun m t => min m t.f2) 12
theorem lst_take (l : List Task) (i : Nat) (h : i < l.length) : lst (l.take (i + 1)) = min (lst (l.take i)) l[i].f2 := by
  unfold lst
  rw [List.take_succ_eq_append_getElem h, List.foldl_append]
  rfl
theorem fold_lst (l : List Task) : ∀ m t : Int, (l.foldl (fun m t => min m t.f2) m < t ↔ m < t ∨ ∃ y ∈ l, y.f2 < t) := by
  induction l with
  | nil => intro m t; simp
  | cons a l ih =>
    intro m t
    rw [List.foldl_cons, ih]
    simp only [List.mem_cons, exists_eq_or_imp]
    constructor
    · rintro (h | h)
      · by_cases h' : m < t
        · exact Or.inl h'
        · exact Or.inr (Or.inl (by omega))
      · exact Or.inr (Or.inr h)
    · rintro (h | h | h)
      · exact Or.inl (by omega)
      · exact Or.inl (by omega)
      · exact Or.inr h
theorem lst_lt {l : List Task} {x : Task} (hx : TVt x) {t : Int} (ht : t < x.f2) : lst l < t ↔ ∃ y ∈ l, y.f2 < t := by
  unfold TVt TV at hx
  unfold lst
  rw [fold_lst]
  constructor
  · rintro (h | h)
    · omega
    · exact h
  · exact Or.inr
theorem lst_bd {l : List Task} (hs : SetOk l) : 1 ≤ lst l ∧ lst l ≤ 12 := by
  have h1 := fold_lst l 12 1
  have h2 := (fold_lst l 12 13).2 (Or.inl (by omega))
  unfold lst
  have : ¬ (l.foldl (fun m t => min m t.f2) 12 < 1) := fun h => by
    rcases h1.1 h with h | ⟨y, hy, h⟩
    · omega
    · have := hs.2 y hy
      unfold TVt TV at this
      omega
  omega
theorem impl_np (l : List Task) : Ev (fun k => impl_NonPreemptiveFeasible.f k l) (decide (NP l)) := by
  apply Tot.ev
  have bad : ¬ NP l → Tot (fun k => impl_NonPreemptiveFeasible.j0 k l true) (fun r => r = decide (NP l)) := fun h =>
    Tot.step (fun k => by rw [impl_NonPreemptiveFeasible.j0]) (Tot.yes rfl (Tot.ret _ (decide_eq_false h).symm))
  unfold impl_NonPreemptiveFeasible.f
  refine Tot.bind0 (impl_f l) (Tot.ite (fun hI => ?_) (fun hI => bad (fun h => hI (decide_eq_true h.1))))
  have hI := of_decide_eq_true hI
  have hs := hI.1
  have hlen := hs.1
  have hlb := lst_bd hs
  refine Tot.bind (Tot.val (load_ev hs)) ?_
  rintro _ rfl
  refine Tot.bind (Tot.val (hyper_ev hs)) ?_
  rintro _ rfl
  by_cases hu : ld l > hy l
  · rw [decide_eq_true hu]
    exact bad (fun h => by have := h.2.1; omega)
  rw [decide_eq_false hu]
  refine Tot.step (fun k => by rw [impl_NonPreemptiveFeasible.j0]) (Tot.no (by simp) ?_)
  -- the sum at one length
  have inner : ∀ (i : Nat) (hi : i < l.length) (t : Int), 1 ≤ t → t < l[i].f2 → ∀ Q : Bool → Prop, (np1 l l[i] t > t → Q false) → (np1 l l[i] t ≤ t → Tot (fun k => impl_NonPreemptiveFeasible.l2 k l (lst l) (t + 1) l (l.length : Int) (i : Int) l[i].f0 l[i].f1 l[i].f2) Q) → ∀ d j, j + d = l.length → Tot (fun k => impl_NonPreemptiveFeasible.l3 k l (lst l) t (l[i].f0 + sm (n1 l[i].f2 t) (l.take j)) l (l.length : Int) (i : Int) l (l.length : Int) (j : Int) l[i].f0 l[i].f1 l[i].f2) Q := by
    intro i hi t h0 h1 Q hq1 hq2 d
    have hvi := hs.2 _ (List.getElem_mem hi)
    unfold TVt TV at hvi
    induction d with
    | zero =>
      intro j hj
      refine Tot.step (fun k => by rw [impl_NonPreemptiveFeasible.l3]) (Tot.no (by omega) ?_)
      rw [List.take_of_length_le (by omega), w64 (x := t + 1) (by omega) (by omega)]
      exact Tot.ite (fun h => Tot.ret _ (hq1 h)) (fun h => hq2 (show np1 l l[i] t ≤ t by unfold np1; omega))
    | succ d ih =>
      intro j hj
      have hjl : j < l.length := by omega
      have hvj := hs.2 _ (List.getElem_mem hjl)
      have hvj' := hvj
      unfold TVt TV at hvj'
      have hb := n1_bd (P := l[i].f2) hvj h0 (by omega)
      have ht := n1_take (P := l[i].f2) hs h0 (t := t) (by omega) j (by omega)
      have IH := ih (j + 1) (by omega)
      rw [sm_take _ _ _ hjl] at IH
      refine Tot.step (fun k => by rw [impl_NonPreemptiveFeasible.l3]) (Tot.yes (by omega) (Tot.yes (by omega) (Tot.yes (by omega) ?_)))
      rw [rdT_at l j hjl, w64 (x := (j : Int) + 1) (by omega) (by omega)]
      refine Tot.ite (fun h => ?_) (fun h => ?_)
      · have hv := n1_val (P := l[i].f2) hvj h0 (by omega) h
        refine Tot.no hv.1 ?_
        rw [hv.2, w64 (by omega) (by omega), Int.add_assoc]
        exact IH
      · have e : n1 l[i].f2 t l[j] = 0 := if_neg h
        rw [e, Int.add_zero] at IH
        exact IH
  have mid : ∀ (i : Nat) (hi : i < l.length) (Q : Bool → Prop), (∀ t : Int, lst l < t → t < l[i].f2 → np1 l l[i] t > t → Q false) → ((∀ t : Int, lst l < t → t < l[i].f2 → np1 l l[i] t ≤ t) → Tot (fun k => impl_NonPreemptiveFeasible.l1 k l (lst l) l (l.length : Int) ((i : Int) + 1)) Q) → ∀ (d : Nat) (t : Int), t + d = max (lst l + 1) l[i].f2 → lst l < t → (∀ q : Int, lst l < q → q < t → np1 l l[i] q ≤ q) → Tot (fun k => impl_NonPreemptiveFeasible.l2 k l (lst l) t l (l.length : Int) (i : Int) l[i].f0 l[i].f1 l[i].f2) Q := by
    intro i hi Q hq1 hq2 d
    have hvi := hs.2 _ (List.getElem_mem hi)
    unfold TVt TV at hvi
    induction d with
    | zero =>
      intro t ht h1 hm
      refine Tot.step (fun k => by rw [impl_NonPreemptiveFeasible.l2]) (Tot.no (by omega) ?_)
      rw [w64 (x := (i : Int) + 1) (by omega) (by omega)]
      exact hq2 (fun q q1 q2 => hm q q1 (by omega))
    | succ d ih =>
      intro t ht h1 hm
      refine Tot.step (fun k => by rw [impl_NonPreemptiveFeasible.l2]) (Tot.yes (by omega) ?_)
      have := inner i hi t (by omega) (by omega) Q (fun h => hq1 t h1 (by omega) h) (fun h => ih (t + 1) (by omega) (by omega) (fun q q1 q2 => by
        by_cases e : q = t
        · subst e; exact h
        · exact hm q q1 (by omega))) l.length 0 (by omega)
      simpa [sm] using this
  have outer : ∀ d i, i + d = l.length → (∀ p (hp : p < l.length), p < i → ∀ t : Int, lst l < t → t < l[p].f2 → np1 l l[p] t ≤ t) → Tot (fun k => impl_NonPreemptiveFeasible.l1 k l (lst l) l (l.length : Int) (i : Int)) (fun r => r = decide (NP l)) := by
    intro d
    induction d with
    | zero =>
      intro i hi hm
      refine Tot.step (fun k => by rw [impl_NonPreemptiveFeasible.l1]) (Tot.no (by omega) (Tot.ret _ ?_))
      symm
      rw [decide_eq_true_iff]
      refine ⟨hI, by omega, all_of (P := fun x => ∀ t : Int, (∃ y ∈ l, y.f2 < t) → t < x.f2 → np1 l x t ≤ t) (fun p hp t h1 h2 => hm p hp (by omega) t ((lst_lt (hs.2 _ (List.getElem_mem hp)) h2).2 h1) h2)⟩
    | succ d ih =>
      intro i hi hm
      have hil : i < l.length := by omega
      have hvi := hs.2 _ (List.getElem_mem hil)
      have hvi' := hvi
      unfold TVt TV at hvi'
      refine Tot.step (fun k => by rw [impl_NonPreemptiveFeasible.l1]) (Tot.yes (by omega) (Tot.yes (by omega) (Tot.yes (by omega) ?_)))
      rw [rdT_at l i hil, w64 (x := lst l + 1) (by omega) (by omega)]
      refine mid i hil _ (fun t h1 h2 h3 => ?_) (fun hall => ih (i + 1) (by omega) (fun p hp hpi => ?_)) (max (lst l + 1) l[i].f2 - (lst l + 1)).toNat (lst l + 1) (by omega) (by omega) (fun q q1 q2 => by omega)
      · symm
        rw [decide_eq_false_iff_not]
        intro h
        have := h.2.2 _ (List.getElem_mem hil) t ((lst_lt hvi h2).1 h1) h2
        omega
      · by_cases e : p = i
        · subst e; exact hall
        · exact hm p hp (by omega)
  have least : ∀ d i, i + d = l.length → Tot (fun k => impl_NonPreemptiveFeasible.l0 k l (lst (l.take i)) l (l.length : Int) (i : Int)) (fun r => r = decide (NP l)) := by
    intro d
    induction d with
    | zero =>
      intro i hi
      refine Tot.step (fun k => by rw [impl_NonPreemptiveFeasible.l0]) (Tot.no (by omega) ?_)
      rw [List.take_of_length_le (by omega)]
      exact outer l.length 0 (by omega) (fun p _ h => by omega)
    | succ d ih =>
      intro i hi
      have hil : i < l.length := by omega
      refine Tot.step (fun k => by rw [impl_NonPreemptiveFeasible.l0]) (Tot.yes (by omega) (Tot.yes (by omega) (Tot.yes (by omega) ?_)))
      have IH := ih (i + 1) (by omega)
      rw [lst_take _ _ hil] at IH
      rw [rdT_at l i hil, mn_min, w64 (by omega) (by omega)]
      exact IH
  exact least l.length 0 (by omega)
theorem spec_np (l : List Task) (hlen : l.length ≤ 2097152) : Ev (fun k => spec_NonPreemptiveFeasible.f k l) (decide (NP l)) := by
  apply Tot.ev
  unfold spec_NonPreemptiveFeasible.f
  refine Tot.bind (Tot.val (sset_ev l hlen)) ?_
  rintro _ rfl
  refine Tot.ite (fun hs => ?_) (fun hs => Tot.ret _ (decide_eq_false (fun h : NP l => hs (decide_eq_true h.1.1))).symm)
  have hs := of_decide_eq_true hs
  have h5 := hs.1
  have some_ : ∀ (i : Nat) (hi : i < l.length) (t : Int), t < l[i].f2 → Tot (fun k => spec_l18Some.f k l (i : Int) t) (fun r => r = decide (∃ y ∈ l, y.f2 < t)) := by
    intro i hi t ht
    have loop : ∀ d j, j + d = l.length → (∀ q (h : q < l.length), q < j → ¬ l[q].f2 < t) → Tot (fun k => spec_l18Some.l0 k l (i : Int) t (j : Int)) (fun r => r = decide (∃ y ∈ l, y.f2 < t)) := by
      intro d
      induction d with
      | zero =>
        intro j hj hm
        refine Tot.step (fun k => by rw [spec_l18Some.l0]) (Tot.no (by omega) (Tot.ret _ ?_))
        symm
        rw [decide_eq_false_iff_not]
        rintro ⟨y, hy, h⟩
        obtain ⟨q, hq, rfl⟩ := List.mem_iff_getElem.1 hy
        exact hm q hq (by omega) h
      | succ d ih =>
        intro j hj hm
        have hjl : j < l.length := by omega
        refine Tot.step (fun k => by rw [spec_l18Some.l0]) (Tot.yes (by omega) (Tot.yes (by omega) ?_))
        rw [rdT_at l j hjl, rdT_at l i hi, w64 (x := (j : Int) + 1) (by omega) (by omega)]
        refine Tot.ite (fun h => Tot.yes (by omega) (Tot.yes (by omega) (Tot.yes (by omega) (Tot.ret _ ?_)))) (fun h => ih (j + 1) (by omega) (fun q hq hqj => ?_))
        · symm
          rw [decide_eq_true_iff]
          exact ⟨_, List.getElem_mem hjl, h⟩
        · by_cases e : q = j
          · subst e; exact h
          · exact hm q hq (by omega)
    exact loop l.length 0 (by omega) (fun q _ h => by omega)
  have test : ∀ (i : Nat) (hi : i < l.length), Tot (fun k => spec_l18Test.f k l (i : Int)) (fun r => r = decide (∀ t : Int, (∃ y ∈ l, y.f2 < t) → t < l[i].f2 → np1 l l[i] t ≤ t)) := by
    intro i hi
    have hvi := hs.2 _ (List.getElem_mem hi)
    unfold TVt TV at hvi
    have inner : ∀ (t : Int), 1 ≤ t → t < l[i].f2 → ∀ Q : Bool → Prop, ((∃ y ∈ l, y.f2 < t) → np1 l l[i] t > t → Q false) → (((∃ y ∈ l, y.f2 < t) → np1 l l[i] t ≤ t) → Tot (fun k => spec_l18Test.l0 k l (i : Int) (t + 1)) Q) → ∀ d j, j + d = l.length → Tot (fun k => spec_l18Test.l1 k l (i : Int) t (l[i].f0 + sm (n1 l[i].f2 t) (l.take j)) (j : Int)) Q := by
      intro t h0 h1 Q hq1 hq2 d
      induction d with
      | zero =>
        intro j hj
        refine Tot.step (fun k => by rw [spec_l18Test.l1]) (Tot.no (by omega) ?_)
        rw [List.take_of_length_le (by omega), w64 (x := t + 1) (by omega) (by omega)]
        refine Tot.ite (fun h => ?_) (fun h => hq2 (fun _ => show np1 l l[i] t ≤ t by unfold np1; omega))
        refine Tot.bind (some_ i hi t h1) ?_
        rintro _ rfl
        exact Tot.ite (fun h' => Tot.ret _ (hq1 (of_decide_eq_true h') h)) (fun h' => hq2 (fun h2 => absurd (decide_eq_true h2) h'))
      | succ d ih =>
        intro j hj
        have hjl : j < l.length := by omega
        have hvj := hs.2 _ (List.getElem_mem hjl)
        have hvj' := hvj
        unfold TVt TV at hvj'
        have hb := n1_bd (P := l[i].f2) hvj h0 (by omega)
        have ht := n1_take (P := l[i].f2) hs h0 (t := t) (by omega) j (by omega)
        have IH := ih (j + 1) (by omega)
        rw [sm_take _ _ _ hjl] at IH
        refine Tot.step (fun k => by rw [spec_l18Test.l1]) (Tot.yes (by omega) (Tot.yes (by omega) (Tot.yes (by omega) (Tot.yes (by omega) ?_))))
        rw [rdT_at l j hjl, rdT_at l i hi, w64 (x := (j : Int) + 1) (by omega) (by omega)]
        refine Tot.ite (fun h => ?_) (fun h => ?_)
        · have hv := n1_val (P := l[i].f2) hvj h0 (by omega) h
          refine Tot.no hv.1 ?_
          rw [hv.2, w64 (by omega) (by omega), Int.add_assoc]
          exact IH
        · have e : n1 l[i].f2 t l[j] = 0 := if_neg h
          rw [e, Int.add_zero] at IH
          exact IH
    have outer : ∀ (d : Nat) (t : Int), t + d = l[i].f2 → 1 ≤ t → (∀ q : Int, 1 ≤ q → q < t → (∃ y ∈ l, y.f2 < q) → np1 l l[i] q ≤ q) → Tot (fun k => spec_l18Test.l0 k l (i : Int) t) (fun r => r = decide (∀ t : Int, (∃ y ∈ l, y.f2 < t) → t < l[i].f2 → np1 l l[i] t ≤ t)) := by
      intro d
      induction d with
      | zero =>
        intro t ht h1 hm
        refine Tot.step (fun k => by rw [spec_l18Test.l0]) (Tot.yes (by omega) (Tot.yes (by omega) ?_))
        rw [rdT_at l i hi]
        refine Tot.no (by omega) (Tot.ret _ ?_)
        symm
        rw [decide_eq_true_iff]
        intro q hq1 hq2
        have : 1 ≤ q := by
          obtain ⟨y, hy, h⟩ := hq1
          have := hs.2 y hy
          unfold TVt TV at this
          omega
        exact hm q this (by omega) hq1
      | succ d ih =>
        intro t ht h1 hm
        refine Tot.step (fun k => by rw [spec_l18Test.l0]) (Tot.yes (by omega) (Tot.yes (by omega) ?_))
        rw [rdT_at l i hi]
        refine Tot.yes (by omega) ?_
        have := inner t h1 (by omega) _ (fun h2 h3 => ?_) (fun h => ih (t + 1) (by omega) (by omega) (fun q q1 q2 => by
          by_cases e : q = t
          · subst e; exact h
          · exact hm q q1 (by omega))) l.length 0 (by omega)
        · simpa [sm] using this
        · symm
          rw [decide_eq_false_iff_not]
          intro h
          have := h t h2 (by omega)
          omega
    exact outer (l[i].f2 - 1).toNat 1 (by omega) (by omega) (fun q q1 q2 => by omega)
  have outer : ∀ d i, i + d = l.length → (∀ p (hp : p < l.length), p < i → l[p].f1 = l[p].f2 ∧ ∀ t : Int, (∃ y ∈ l, y.f2 < t) → t < l[p].f2 → np1 l l[p] t ≤ t) → Tot (fun k => spec_NonPreemptiveFeasible.l0 k l (i : Int)) (fun r => r = decide (NP l)) := by
    intro d
    induction d with
    | zero =>
      intro i hi hm
      refine Tot.step (fun k => by rw [spec_NonPreemptiveFeasible.l0]) (Tot.no (by omega) ?_)
      refine Tot.bind (Tot.val (sutil_ev hs)) ?_
      rintro _ rfl
      refine Tot.ret _ ?_
      rw [decide_eq_decide, ut_le hs]
      exact ⟨fun h => ⟨⟨hs, all_of (fun p hp => (hm p hp (by omega)).1)⟩, h, all_of (P := fun x => ∀ t : Int, (∃ y ∈ l, y.f2 < t) → t < x.f2 → np1 l x t ≤ t) (fun p hp => (hm p hp (by omega)).2)⟩, fun h => h.2.1⟩
    | succ d ih =>
      intro i hi hm
      have hil : i < l.length := by omega
      refine Tot.step (fun k => by rw [spec_NonPreemptiveFeasible.l0]) (Tot.yes (by omega) (Tot.yes (by omega) ?_))
      rw [rdT_at l i hil, w64 (x := (i : Int) + 1) (by omega) (by omega)]
      refine Tot.ite (fun h1 => ?_) (fun h1 => Tot.ret _ (decide_eq_false (fun h : NP l => h1 (h.1.2 _ (List.getElem_mem hil)))).symm)
      refine Tot.bind (test i hil) ?_
      rintro _ rfl
      refine Tot.ite (fun h2 => ?_) (fun h2 => Tot.ret _ (decide_eq_false (fun h : NP l => h2 (decide_eq_true (h.2.2 _ (List.getElem_mem hil))))).symm)
      have h2 := of_decide_eq_true h2
      refine ih (i + 1) (by omega) (fun p hp hpi => ?_)
      by_cases e : p = i
      · subst e; exact ⟨h1, h2⟩
      · exact hm p hp (by omega)
  exact outer l.length 0 (by omega) (fun p _ h => by omega)
end Go.Proofs.Ytgcjadhmkhpbnaa.Np
/- NonPreemptiveFeasible answers as the reference does. No condition. -/
namespace Go.Proofs.Ytgcjadhmkhpbnaa.Pure
open Go.RowKit Go.Proofs.Ytgcjadhmkhpbnaa.P Go.Proofs.Ytgcjadhmkhpbnaa.Base Go.Proofs.Ytgcjadhmkhpbnaa.Gen Go.Proofs.YtgcjadhmkhpbnaaW.PrintWords Go.Proofs.YtgcjadhmkhpbnaaW.PrintLast
open Go.Proofs.Ytgcjadhmkhpbnaa.CopyTask Go.Proofs.Ytgcjadhmkhpbnaa.Np 

theorem FnExactNonPreemptiveFeasible : laws_FnExactNonPreemptiveFeasible.Pure := by
  intro l _ hl
  apply Tot.rounds
  unfold laws_FnExactNonPreemptiveFeasible.f
  obtain ⟨r, er, hr⟩ := szTaskS_f l hl.1
  refine Tot.bind0 er (Tot.ite (fun _ => Tot.ret _ rfl) (fun h0 => ?_))
  have hs : l.length ≤ 1048576 := hr.resolve_left h0
  have hs2 : (l.map cv).length ≤ 1048576 := by rw [List.length_map]; exact hs
  refine Tot.bind (toTaskS_tot l hs) ?_
  rintro _ rfl
  refine Tot.bind (Tot.val (spec_np _ (by omega))) ?_
  rintro _ rfl
  refine Tot.bind (toTaskS_tot l hs) ?_
  rintro _ rfl
  refine Tot.bind (Tot.val (impl_np _)) ?_
  rintro _ rfl
  refine Tot.no (by simp) ?_
  refine Tot.bind (toTaskS_tot l hs) ?_
  rintro _ rfl
  refine Tot.bind (eqTaskS_tot _ hs2) ?_
  rintro _ rfl
  exact Tot.yes rfl (Tot.ret _ rfl)
end Go.Proofs.Ytgcjadhmkhpbnaa.Pure
/- Arguments of a law laid open: whatever reads as data of a type reads as a value of its kind.
   No condition. -/
namespace Go.Proofs.Ytgcjadhmkhpbnaa.Opn
open Go.ChangeShapes Go.WideShapes Go.Deep Go.RowKit Go.Proofs.YtgcjadhmkhpbnaaW.PrintWords
section
variable {H : Type} {enc : TypeId × Value → H} {P : Program} {W : World} {base : Nat} {spare : Nat → Bool} {held : Bool}

/-- Whatever reads as data of type t reads as a value of the kind d that is good. -/
def Opens {α : Type} (enc : TypeId × Value → H) (P : Program) (W : World) (base : Nat) (spare : Nat → Bool) (held : Bool) (t : TypeId) (d : Kd α) (G : α → Prop) : Prop :=
  ∀ (fuel : Nat) (cs : List Value) (x : DataW H × List MemPlace), DataW.trod enc P W base spare held fuel t cs = some x → ∃ a, d.K W a cs ∧ G a

theorem opens_int {t : TypeId} {k : IntKind} (hu : P.underlying t = some (.int k)) : Opens enc P W base spare held t (Kd.int k) (fun x => (Lit.int k x).wf = true) := by
  intro fuel cs x h
  obtain ⟨n, hc, _, hw⟩ := DataW.trod_int hu h
  exact ⟨n, hc, hw⟩
theorem opens_bool {t : TypeId} (hu : P.underlying t = some .bool) : Opens enc P W base spare held t Kd.bool (fun _ => True) := by
  intro fuel cs x h
  obtain ⟨n, hc, _⟩ := DataW.trod_bool hu h
  exact ⟨n, hc, trivial⟩

theorem list_of {α : Type} (m : Nat) (R : Nat → α → Prop) (h : ∀ i, i < m → ∃ a, R i a) : ∃ xs : List α, xs.length = m ∧ ∀ i a, xs[i]? = some a → R i a := by
  induction m with
  | zero => exact ⟨[], rfl, fun i a ha => by simp at ha⟩
  | succ m ih =>
    obtain ⟨xs, hl, hx⟩ := ih (fun i hi => h i (by omega))
    obtain ⟨a, ha⟩ := h m (by omega)
    refine ⟨xs ++ [a], by simp [hl], fun i b hb => ?_⟩
    rcases Nat.lt_or_ge i m with hi | hi
    · rw [List.getElem?_append_left (by omega)] at hb
      exact hx i b hb
    · have hi' : i = m := by
        have := (List.getElem?_eq_some_iff.1 hb).1
        simp at this
        omega
      subst hi'
      have : a = b := by simpa [hl] using hb
      subst this
      exact ha

/-- A slice of what opens. -/
theorem slice_row {α : Type} {t e : TypeId} {d : Kd α} {G : α → Prop} (hu : P.underlying t = some (.slice e)) (hC : P.cellsOf e = d.sz) (he : Opens enc P W base spare held e d G)
    {fuel : Nat} {A : Option Addr} {n cap : Nat} {x : DataW H × List MemPlace} (h : DataW.trod enc P W base spare held fuel t [.slice A n cap] = some x) :
    ∃ xs : List α, xs.length = n ∧ n ≤ cap ∧ n ≤ maxLen ∧ d.C W A xs.length xs ∧ ∀ y ∈ xs, G y := by
  rcases open_slice hu h with ⟨h0, _⟩ | ⟨a, len, c, m, k, D, Pl, hcs, _, hl, hm, hmm, _, hel⟩
  · simp only [List.cons.injEq, Value.slice.injEq, and_true] at h0
    obtain ⟨rfl, rfl, rfl⟩ := h0
    exact ⟨[], rfl, Nat.le_refl _, by simp [maxLen], Kd.C_nil d W, fun y hy => by simp at hy⟩
  · simp only [List.cons.injEq, Value.slice.injEq, and_true] at hcs
    obtain ⟨rfl, rfl, rfl⟩ := hcs
    have hle : n ≤ m := by rw [hmm]; split <;> omega
    obtain ⟨xs, hxl, hx⟩ := list_of (α := α) n (fun i y => G y ∧ ∃ cs', d.K W y cs' ∧ cs'.length = d.sz ∧ ∀ j, j < d.sz → W.cell? ((a.add (i * d.sz)).add j) = cs'[j]?) (by
      intro i hi
      obtain ⟨cs', hc, ht⟩ := hel i (by omega)
      obtain ⟨y, hK, hG⟩ := he _ _ _ ht
      rw [hC] at hc
      obtain ⟨_, hcl, hcc⟩ := World.cells?_some hc
      exact ⟨y, hG, cs', hK, hcl, hcc⟩)
    refine ⟨xs, hxl, hl, by omega, ⟨rfl, by simp only [maxLen] at hm; omega, fun hp => ⟨a, rfl, fun j p hj => ?_⟩⟩, fun y hy => ?_⟩
    · obtain ⟨_, cs', hK, hcl, hcc⟩ := hx j p hj
      refine ⟨cs', hcl, hK, fun i u hi => ?_⟩
      have hlt : i < d.sz := by
        have := (List.getElem?_eq_some_iff.1 hi).1
        omega
      rw [← Go.Deep.add_add, hcc i hlt, hi]
    · obtain ⟨i, hi, rfl⟩ := List.getElem_of_mem hy
      exact (hx i _ (List.getElem?_eq_getElem hi)).1
theorem opens_slice {α : Type} {t e : TypeId} {d : Kd α} {G : α → Prop} (hu : P.underlying t = some (.slice e)) (hC : P.cellsOf e = d.sz) (he : Opens enc P W base spare held e d G) :
    Opens enc P W base spare held t (Kd.slice e d) (fun xs => xs.length ≤ maxLen ∧ ∀ y ∈ xs, G y) := by
  intro fuel cs x h
  have hform : ∃ A n c, cs = [.slice A n c] := by
    rcases open_slice hu h with ⟨h0, _⟩ | ⟨a, len, c, m, k, D, Pl, hcs, _⟩
    · exact ⟨_, _, _, h0⟩
    · exact ⟨_, _, _, hcs⟩
  obtain ⟨A, n, c, rfl⟩ := hform
  obtain ⟨xs, rfl, hc, hm, hC', hG⟩ := slice_row hu hC he h
  exact ⟨xs, ⟨A, c, rfl, hc, hC'⟩, hm, hG⟩

/-- A struct of whole numbers. -/
theorem trod_ints {t : TypeId} {fs : Array Field} (hs : P.underlying t = some (.struct fs)) (hC : P.cellsOf t = fs.size) (hf : ∀ (j : Nat) (f : Field), fs[j]? = some f → f.offset = j ∧ P.cellsOf f.type = 1 ∧ P.underlying f.type = some (.int .i64))
    {fuel : Nat} {cs : List Value} {x : DataW H × List MemPlace} (h : DataW.trod enc P W base spare held fuel t cs = some x) :
    ∃ xs : List Int, xs.length = fs.size ∧ cs = xs.map (Value.int .i64) ∧ ∀ y ∈ xs, (Lit.int .i64 y).wf = true := by
  obtain ⟨ys, n, _, _, hl, hyl, hy⟩ := DataW.trod_struct hs h
  obtain ⟨xs, hxl, hx⟩ := list_of (α := Int) fs.size (fun j y => cs[j]? = some (.int .i64 y) ∧ (Lit.int .i64 y).wf = true) (by
    intro j hj
    have hfj : fs[j]? = some fs[j] := Array.getElem?_eq_getElem hj
    obtain ⟨ho, hk, hi⟩ := hf j _ hfj
    have h1 := hy j _ hfj
    rw [ho, hk] at h1
    have hjl : j < cs.length := by omega
    have e1 : (cs.drop j).take 1 = [cs[j]'hjl] := by
      rw [List.drop_eq_getElem_cons hjl]
      rfl
    rw [e1, List.getElem?_eq_getElem (by omega)] at h1
    obtain ⟨y, hc, _, hw⟩ := DataW.trod_int hi h1
    refine ⟨y, ?_, hw⟩
    rw [List.getElem?_eq_getElem hjl]
    simpa using hc)
  refine ⟨xs, hxl, ?_, fun y hy' => ?_⟩
  · apply List.ext_getElem?
    intro j
    rcases Nat.lt_or_ge j fs.size with hj | hj
    · rw [List.getElem?_map]
      have e := List.getElem?_eq_getElem (l := xs) (i := j) (by omega)
      rw [e, (hx j _ e).1]
      rfl
    · rw [List.getElem?_eq_none (by omega), List.getElem?_eq_none (by simp; omega)]
  · obtain ⟨i, hi, rfl⟩ := List.getElem_of_mem hy'
    exact (hx i _ (List.getElem?_eq_getElem hi)).2
theorem one2 {xs : List Int} (h : xs.length = 2) : ∃ a b, xs = [a, b] := by
  match xs, h with
  | [a, b], _ => exact ⟨a, b, rfl⟩
theorem one3 {xs : List Int} (h : xs.length = 3) : ∃ a b c, xs = [a, b, c] := by
  match xs, h with
  | [a, b, c], _ => exact ⟨a, b, c, rfl⟩
theorem one4 {xs : List Int} (h : xs.length = 4) : ∃ a b c d, xs = [a, b, c, d] := by
  match xs, h with
  | [a, b, c, d], _ => exact ⟨a, b, c, d, rfl⟩
theorem agg_cells (cs : Array Value) : (Value.agg cs).cells.toList = cs.toList := rfl
/-- The weight of a slice bounds its length. -/
theorem sized_row {t e : TypeId} {A : Option Addr} {n cap : Nat} {d : DataW H} {ps : List MemPlace} {ts : List TypeId} {ds : List (DataW H)} {j : Nat}
    (hsz : (DataW.weightsEach P ts ds).all (· ≤ reachBytes) = true) (ht : ts[j]? = some t) (hd : ds[j]? = some d) (hu : P.underlying t = some (.slice e)) {B : Nat} (hB : P.bytesOf e = B)
    (h : DataW.Trod enc P W base spare held t (.slice A n cap) d ps) : n * B ≤ 140737488351232 := by
  obtain ⟨fuel, hf⟩ := h
  have hf' : DataW.trod enc P W base spare held fuel t [.slice A n cap] = some (d, ps) := hf
  rcases open_slice hu hf' with ⟨h0, _⟩ | ⟨a, len, c, m, k, D, Pl, hcs, _, hl, hm, hmm, hx, hel⟩
  · simp only [List.cons.injEq, Value.slice.injEq, and_true] at h0
    obtain ⟨rfl, rfl, rfl⟩ := h0
    simp
  · simp only [List.cons.injEq, Value.slice.injEq, and_true] at hcs
    obtain ⟨rfl, rfl, rfl⟩ := hcs
    obtain ⟨hx, _⟩ := Prod.mk.inj hx
    subst hx
    have z := sized_slice hsz ht hd hu
    rw [hB] at z
    simp only [List.length_map, List.length_range] at z
    exact Nat.le_trans (Nat.mul_le_mul_right _ (by omega)) z
end
end Go.Proofs.Ytgcjadhmkhpbnaa.Opn
/- The head of the translation: a cut, with nothing lifted. No condition. -/
namespace Go.Proofs.Ytgcjadhmkhpbnaa.Head
open Go
def chars (l : List Nat) : List Char := l.map Char.ofNat
def w1 : List Nat := [104, 97, 114, 110, 101, 115, 115]
def w2 : List Nat := [54, 102, 101, 50, 53, 100, 57, 100, 52, 50, 55, 97, 97, 101, 99, 51, 100, 53, 100, 51, 97, 48, 97, 53, 53, 52, 57, 48, 98, 99, 48, 53, 50, 56, 49, 100, 53, 54, 98, 98, 54, 50, 100, 99, 53, 98, 50, 50, 56, 49, 50, 49, 49, 102, 98, 52, 52, 53, 101, 55, 98, 54, 51, 54]
def w3 : List Nat := [99, 117, 116]
def w4 : List Nat := [97, 116, 32, 108, 111, 111, 112, 46, 101, 120, 97, 109, 112, 108, 101, 47, 100, 101, 97, 100, 108, 105, 110, 101, 115, 99, 104, 101, 100, 117, 108, 101, 114, 47, 108, 97, 119, 115, 46, 70, 110, 69, 120, 97, 99, 116, 72, 97, 114, 109, 111, 110, 105, 99, 32, 108, 111, 111, 112, 46, 101, 120, 97, 109, 112, 108, 101, 47, 100, 101, 97, 100, 108, 105, 110, 101, 115, 99, 104, 101, 100, 117, 108, 101, 114, 47, 108, 97, 119, 115, 46, 70, 110, 69, 120, 97, 99, 116, 72, 121, 112, 101, 114, 98, 111, 108, 105, 99, 66, 111, 117, 110, 100, 32, 108, 111, 111, 112, 46, 101, 120, 97, 109, 112, 108, 101, 47, 100, 101, 97, 100, 108, 105, 110, 101, 115, 99, 104, 101, 100, 117, 108, 101, 114, 47, 108, 97, 119, 115, 46, 70, 110, 69, 120, 97, 99, 116, 66, 108, 111, 99, 107, 105, 110, 103, 84, 105, 109, 101, 32, 108, 111, 111, 112, 46, 101, 120, 97, 109, 112, 108, 101, 47, 100, 101, 97, 100, 108, 105, 110, 101, 115, 99, 104, 101, 100, 117, 108, 101, 114, 47, 108, 97, 119, 115, 46, 70, 110, 66, 108, 111, 99, 107, 105, 110, 103, 84, 105, 109, 101, 32, 108, 111, 111, 112, 46, 101, 120, 97, 109, 112, 108, 101, 47, 100, 101, 97, 100, 108, 105, 110, 101, 115, 99, 104, 101, 100, 117, 108, 101, 114, 47, 108, 97, 119, 115, 46, 70, 110, 69, 120, 97, 99, 116, 78, 111, 110, 80, 114, 101, 101, 109, 112, 116, 105, 118, 101, 70, 101, 97, 115, 105, 98, 108, 101, 32, 108, 111, 111, 112, 46, 101, 120, 97, 109, 112, 108, 101, 47, 100, 101, 97, 100, 108, 105, 110, 101, 115, 99, 104, 101, 100, 117, 108, 101, 114, 47, 108, 97, 119, 115, 46, 70, 110, 69, 120, 97, 99, 116, 83, 117, 112, 112, 108, 121, 70, 101, 97, 115, 105, 98, 108, 101, 32, 108, 111, 111, 112, 46, 101, 120, 97, 109, 112, 108, 101, 47, 100, 101, 97, 100, 108, 105, 110, 101, 115, 99, 104, 101, 100, 117, 108, 101, 114, 47, 108, 97, 119, 115, 46, 70, 110, 69, 120, 97, 99, 116, 77, 105, 110, 66, 117, 100, 103, 101, 116, 32, 108, 111, 111, 112, 46, 101, 120, 97, 109, 112, 108, 101, 47, 100, 101, 97, 100, 108, 105, 110, 101, 115, 99, 104, 101, 100, 117, 108, 101, 114, 47, 108, 97, 119, 115, 46, 70, 110, 83, 117, 112, 112, 108, 121, 70, 101, 97, 115, 105, 98, 108, 101, 32, 108, 111, 111, 112, 46, 101, 120, 97, 109, 112, 108, 101, 47, 100, 101, 97, 100, 108, 105, 110, 101, 115, 99, 104, 101, 100, 117, 108, 101, 114, 47, 108, 97, 119, 115, 46, 70, 110, 77, 105, 110, 66, 117, 100, 103, 101, 116, 32, 108, 111, 111, 112, 46, 101, 120, 97, 109, 112, 108, 101, 47, 100, 101, 97, 100, 108, 105, 110, 101, 115, 99, 104, 101, 100, 117, 108, 101, 114, 47, 108, 97, 119, 115, 46, 70, 110, 72, 121, 112, 101, 114, 98, 111, 108, 105, 99, 32, 108, 111, 111, 112, 46, 101, 120, 97, 109, 112, 108, 101, 47, 100, 101, 97, 100, 108, 105, 110, 101, 115, 99, 104, 101, 100, 117, 108, 101, 114, 47, 108, 97, 119, 115, 46, 70, 110, 72, 97, 114, 109, 111, 110, 105, 99, 32, 108, 111, 111, 112, 46, 101, 120, 97, 109, 112, 108, 101, 47, 100, 101, 97, 100, 108, 105, 110, 101, 115, 99, 104, 101, 100, 117, 108, 101, 114, 47, 108, 97, 119, 115, 46, 70, 110, 82, 97, 116, 101, 76, 111, 115, 101, 115]
theorem io_eq : Try.prog.initOrder = String.ofList (chars (w1 ++ 32 :: (w2 ++ 32 :: (w3 ++ 32 :: w4)))) := by kernel_rfl
theorem io_list : Try.prog.initOrder.toList = chars (w1 ++ 32 :: (w2 ++ 32 :: (w3 ++ 32 :: w4))) := by rw [io_eq, String.toList_ofList]
theorem ws_one (c : Char) (r w : List Char) (ws : List (List Char)) (hc : c ≠ Char.ofNat 32) (h : wordsSigns r = w :: ws) : wordsSigns (c :: r) = (c :: w) :: ws := by
  have e : wordsSigns (c :: r) = match wordsSigns r with
    | w :: ws => (c :: w) :: ws
    | [] => [[c]] := by
    rw [wordsSigns]
    · rfl
    · exact hc
  rw [e, h]
theorem ws_word (w : List Char) (h : ∀ c ∈ w, c ≠ Char.ofNat 32) (r : List Char) : wordsSigns (w ++ Char.ofNat 32 :: r) = w :: wordsSigns r := by
  induction w with
  | nil => rfl
  | cons c w ih => exact ws_one _ _ _ _ (h c (by simp)) (ih (fun x hx => h x (by simp [hx])))
theorem ws_nat (w r : List Nat) (h : w.all (fun n => !(Char.ofNat n == Char.ofNat 32)) = true) : wordsSigns (chars (w ++ 32 :: r)) = chars w :: wordsSigns (chars r) := by
  have e : chars (w ++ 32 :: r) = chars w ++ Char.ofNat 32 :: chars r := by simp [chars]
  rw [e]
  refine ws_word _ (fun c hc => ?_) _
  obtain ⟨n, hn, rfl⟩ := List.mem_map.1 hc
  have := List.all_eq_true.1 h n hn
  simpa using this
theorem io_words : behindMainWord (wordsSigns Try.prog.initOrder.toList) = chars w3 :: wordsSigns (chars w4) := by
  rw [io_list, ws_nat _ _ (by kernel_rfl), ws_nat _ _ (by kernel_rfl), ws_nat _ _ (by kernel_rfl)]
  generalize wordsSigns (chars w4) = R
  kernel_rfl
theorem make_gen (P : Program) (c : List Char) (R : List (List Char)) (h : behindMainWord (wordsSigns P.initOrder.toList) = c :: R) (h1 : (c == "gc".toList || c == "spec".toList) = false) (h2 : (c == "cut".toList) = true) : P.make = some .cut := by
  unfold Program.make
  rw [h]
  simp only [h1, h2, Bool.true_or, if_true, Bool.false_eq_true, if_false]
theorem make : Try.prog.make = some .cut := make_gen _ _ _ io_words (by kernel_rfl) (by kernel_rfl)
theorem enter_gen (P : Program) (c : List Char) (R : List (List Char)) (h : behindMainWord (wordsSigns P.initOrder.toList) = c :: R) (h1 : ∀ R, stripLifts liftWords (c :: R) = ([], c :: R)) (h2 : (some c == some "cut".toList) = true)
    (h3 : P.laysLater = false) (h4 : P.bearsReflect = false) (h5 : P.doorFits [] = true) : P.mayEnter = true := by
  unfold Program.mayEnter
  rw [h]
  simp only [h1, h2, h3, h4, h5, List.head?_cons, Bool.not_false, Bool.or_true, Bool.and_true, List.contains_nil]
theorem enter : Try.prog.mayEnter = true := enter_gen _ _ _ io_words (fun R => by kernel_rfl) (by kernel_rfl) (by kernel_rfl) (by kernel_rfl) (by kernel_rfl)
theorem lifts : Try.prog.liftsFinal = false := by
  unfold Program.liftsFinal Program.headLifts
  simp only [io_words]
  generalize wordsSigns (chars w4) = R
  kernel_rfl
end Go.Proofs.Ytgcjadhmkhpbnaa.Head
/- The law FnExactNonPreemptiveFeasible, proved: for every input the call returns true and each argument reads as it did. No condition. -/
namespace Go.Proofs.Ytgcjadhmkhpbnaa.fnExactNonPreemptiveFeasible
open Go.ChangeShapes Go.WideShapes Go.ChangeAt Go.RowKit Go.Proofs.YtgcjadhmkhpbnaaW.PrintWords Go.Proofs.Ytgcjadhmkhpbnaa.P
open Go.ChangeMaps (open_string shut_string)
theorem own : ownKnob Try.prog.godebug = none := by kernel_rfl
theorem laidOut : laidOutB Try.prog = true := by kernel_rfl
theorem fieldsT65 : ∃ fs, Try.prog.underlying 65 = some (.struct fs) ∧ fs.size = 3 ∧ Try.prog.cellsOf 65 = fs.size ∧ ∀ (j : Nat) (f : Field), fs[j]? = some f → f.offset = j ∧ Try.prog.cellsOf f.type = 1 ∧ Try.prog.underlying f.type = some (.int .i64) := by
  refine ⟨_, Try.underlying65, rfl, by kernel_rfl, fun j f hj => ?_⟩
  match j, hj with
  | 0, hj => obtain rfl := Option.some.inj hj; exact ⟨rfl, by kernel_rfl, Try.underlying3⟩
  | 1, hj => obtain rfl := Option.some.inj hj; exact ⟨rfl, by kernel_rfl, Try.underlying3⟩
  | 2, hj => obtain rfl := Option.some.inj hj; exact ⟨rfl, by kernel_rfl, Try.underlying3⟩
  | n + 3, hj => exact absurd hj (by simp)
theorem opensT65 {H : Type} {enc : TypeId × Value → H} {W : World} {base : Nat} {spare : Nat → Bool} {held : Bool} : Opn.Opens enc Try.prog W base spare held 65 k65 (fun x => ((Lit.int .i64 x.f0).wf = true) ∧ ((Lit.int .i64 x.f1).wf = true) ∧ ((Lit.int .i64 x.f2).wf = true)) := by
  intro fuel cs x h
  obtain ⟨fs, hu, hm, hc, hf⟩ := fieldsT65
  obtain ⟨xs, hl, rfl, hw⟩ := Opn.trod_ints hu hc hf h
  obtain ⟨a, b, c, rfl⟩ := Opn.one3 (hl.trans hm)
  exact ⟨⟨a, b, c⟩, k65_mk _ _, by simpa using hw⟩
set_option maxRecDepth 100000 in
theorem lifted (os : Os) (started : os.Started) (H : Type) (enc : TypeId × Value → H) :
    ReturnsInHanded {} Try.checked os 7 .any (Rows.fnExactNonPreemptiveFeasibleSpec.pre6 enc Try.prog Try.f7 Rows.fnExactNonPreemptiveFeasibleRow.domain false) (Rows.fnExactNonPreemptiveFeasibleSpec.post enc Try.prog Try.f7 false true false false) := by
  refine returnsInHanded_of_change_sized (C := Try.checked) own started (by kernel_rfl) Try.func7
    (ChangeSpec.witness6 (enc := enc) (C := Try.checked) false ⟨#[], #[.slice none 0 0], []⟩ 8 (by kernel_rfl) (by kernel_rfl) (by kernel_rfl) (by kernel_rfl)) ?_
  intro W base args ds gs before hval0 hW hcnd hsz0 _
  have hsz : (DataW.weightsEach Try.prog (Try.f7.params.toList ++ Rows.fnExactNonPreemptiveFeasibleSpec.plain.varTypes Try.prog) (ds ++ gs)).all (· ≤ reachBytes) = true := hsz0
  have hval : ∀ (j : Nat) t v, Try.f7.params[j]? = some t → args[j]? = some v → Value.okWide Try.prog W .any base t v := hval0
  have hW' := hW
  obtain ⟨p, q, hA0, hV, rfl, hfz, hnd⟩ := hW
  have hA : DataW.TrodAll enc Try.prog W 0 (fun _ => true) true Try.f7.params.toList args.toList ds p := hA0
  rw [Try.params7] at hA hval hsz
  obtain ⟨v0, vs0, d0, ds0, p0, q0, hargs, rfl, rfl, h0, r0⟩ := trodAll_cons hA
  obtain ⟨rfl, rfl, rfl⟩ := trodAll_nil r0
  obtain rfl : args = #[v0] := by cases args; simp_all
  obtain ⟨rfl, rfl⟩ := trodVars_none hV
  have k0 := h0
  have lt0 : ∀ x ∈ p0, x.block < W.heap.size := by obtain ⟨m, hm⟩ := k0; exact DataW.trod_lt m _ _ _ hm
  obtain ⟨A0, n0, c0, rfl⟩ := okWide_slice Try.underlying22 (hval 0 22 v0 rfl rfl)
  have y0 : n0 * 24 ≤ 140737488351232 := Opn.sized_row hsz (j := 0) (t := 22) rfl rfl Try.underlying22 (by kernel_rfl) h0
  obtain ⟨l0, rfl, hc0, hm0, hr0, hg0⟩ : ∃ xs : List (S65), xs.length = n0 ∧ n0 ≤ c0 ∧ n0 ≤ maxLen ∧ Kd.C k65 W A0 xs.length xs ∧ ∀ y0 ∈ xs, ((Lit.int .i64 y0.f0).wf = true) ∧ ((Lit.int .i64 y0.f1).wf = true) ∧ ((Lit.int .i64 y0.f2).wf = true) := by
    obtain ⟨fuel, hf⟩ := h0
    exact Opn.slice_row Try.underlying22 (by kernel_rfl) opensT65 hf
  obtain ⟨k, hk⟩ := Pure.FnExactNonPreemptiveFeasible l0 y0 ⟨hm0, hg0⟩
  clear hA0 hval0 hsz0 hsz
  refine (laws_FnExactNonPreemptiveFeasible.calls k A0 c0 l0 true W hr0 hc0 hk).mono fun e W' ⟨he, hd⟩ => ?_
  have bel := hd
  subst he
  exact ⟨_, rfl, _, _, _, [], _, [], hW', trodAll_mk1 (shut_bool Try.underlying4 _), (trodAll_cons_mk (Below.trod laidOut (by kernel_rfl) (of_decide_eq_true (by kernel_rfl)) k0 bel lt0) trodAll_mk0), rfl, bel.frame _, fun h => by cases h⟩
theorem closed : joinedFacts Try.prog 7 Try.f7 Rows.fnExactNonPreemptiveFeasibleSpec Rows.fnExactNonPreemptiveFeasibleRow = true := by
  simp only [joinedFacts, Head.enter, Head.lifts, Head.make]
  kernel_rfl
theorem named : Try.prog.funcNamed Rows.fnExactNonPreemptiveFeasibleRow.func = some 7 := by kernel_rfl
theorem wrapped : Try.f7.isWrapper Try.prog Rows.fnExactNonPreemptiveFeasibleRow.wrapper Rows.fnExactNonPreemptiveFeasibleRow.mainSum := by unfold Func.isWrapper; first | (rw [if_pos (by decide +kernel)]; kernel_rfl) | (rw [if_neg (by decide +kernel)]; exact ⟨rfl, rfl⟩)
theorem over : Rows.fnExactNonPreemptiveFeasibleRow.holds Try.pinned (OpenSpec.ofChange Rows.fnExactNonPreemptiveFeasibleSpec) :=
  OpenClaim.holds_of_wide 7 Try.f7 rfl rfl rfl rfl rfl rfl rfl ⟨rfl, rfl, rfl, rfl, rfl⟩ rfl rfl rfl rfl rfl named Try.func7 closed
    (of_decide_eq_true (by kernel_rfl)) wrapped
    (fun os started H enc _ => lifted os started H enc)
theorem proved : Rows.FnExactNonPreemptiveFeasibleSaid := over
#print axioms proved
end Go.Proofs.Ytgcjadhmkhpbnaa.fnExactNonPreemptiveFeasible
namespace Go.Proofs.Ytgcjadhmkhpbnaa
/-- The row, under a short name, for the claim. -/
theorem fnExactNonPreemptiveFeasible_holds : Rows.FnExactNonPreemptiveFeasibleSaid := fnExactNonPreemptiveFeasible.proved
end Go.Proofs.Ytgcjadhmkhpbnaa
