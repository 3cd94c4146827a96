/- The law FnSupplyFeasible for every input, part 5 of its proof: what the program's functions answer, and the plain law. No condition. -/
import Derived.Test.YtgcjadhmkhpbnaaMFnSupplyFeasible1
import Derived.Test.YtgcjadhmkhpbnaaMFnSupplyFeasible2
import Derived.Test.YtgcjadhmkhpbnaaMFnSupplyFeasible4
import Derived.SizedLaws
import Derived.ChangeSlices
import Derived.ChangeArms
import Derived.WideShapes
import Derived.Deep.Slices
import Derived.OpenShut
import Derived.Test.YtgcjadhmkhpbnaaRows
import Derived.JoinedOf
import Derived.KernelRfl
import Derived.WalkKit
import Derived.ProofKit
import Derived.ShutString
import Derived.ChangeOld
import Derived.Below
-- Laid by a program of this work.
namespace Go.Proofs.Ytgcjadhmkhpbnaa.P
open Go.RowKit Go.Proofs.YtgcjadhmkhpbnaaW.PrintWords Go.Proofs.YtgcjadhmkhpbnaaW.PrintLast Go.Proofs.YtgcjadhmkhpbnaaW.PrintMore
attribute [local go_sem] max2_int min2_int max_two min_two max_three min_three max_four min_four   -- for this text's walks alone
set_option linter.unusedVariables false
set_option linter.unusedSimpArgs false

/-! ### impl_implicit: function 54 -/
def impl_implicit.f (l0 : List (S56)) : Option (Bool) := (impl_SetValid.f l0).bind fun t290 => (if t290 = true then ((any_late.f l0).bind fun t291 => (some (!t291))) else (some false))
set_option maxHeartbeats 8000000 in
set_option maxRecDepth 100000 in
theorem impl_implicit.calls (A0 : Option Addr) (c0 : Nat) (l0 : List (S56)) (r : Bool) (w : World) (hr0 : Kd.C k56 w A0 l0.length l0) (hc0 : l0.length ≤ c0) (h : impl_implicit.f l0 = some r) :
    Calls Try.prog 54 #[.slice A0 l0.length c0] w fun e w' => e = .returned (.bool r) ∧ Below w.heap.size w w' := by
  have HR0 := Aside0.mk hr0
  have HC0 := Aside0.mk hc0
  clear hr0 hc0
  have HB := Aside0.mk (Below.refl w.heap.size w)
  have H : ((impl_SetValid.f l0).bind fun t290 => (if t290 = true then ((any_late.f l0).bind fun t291 => (some (!t291))) else (some false))) = some r := h
  clear h
  replace H := Option.bind_eq_some_iff.mp H
  obtain ⟨t290, A20, H⟩ := H
  replace H : (if t290 = true then ((any_late.f l0).bind fun t291 => (some (!t291))) else (some false)) = some r := H
  have A2 := Aside0.mk A20
  clear A20
  by_cases c3 : t290 = true
  · subst c3
    have H1 : ((any_late.f l0).bind fun t291 => (some (!t291))) = some r := by rw [if_pos rfl] at H; exact H
    clear H
    have H := H1
    clear H1
    replace H := Option.bind_eq_some_iff.mp H
    obtain ⟨t291, A40, H⟩ := H
    replace H : (some (!t291)) = some r := H
    have A4 := Aside0.mk A40
    clear A40
    obtain rfl := Option.some.inj H
    go_enter Try.func54, Try.ntmps54
    go_wp2_with (first | ((with_reducible refine gate_callee (f := 52) rfl ?_); refine goesL_ (some 4) rfl rfl Try.func52 (by kernel_rfl) rfl #[.slice A0 l0.length c0] rfl (by (try simp only [List.map_toArray, List.map_cons, List.map_nil]); first | done | rfl | (simp only [List.length_drop, List.length_take]; rfl)) ?_; (with_reducible refine (impl_SetValid.calls _ _ l0 true _ ?side1 ?side2 A2.out).mono ?_); (case side1 => repeat (first | exact HR0.out | (with_reducible refine Kd.C_alloc ?_ _) | (with_reducible refine Kd.C_drewN ?_ _) | (with_reducible refine Kd.C_drew ?_))); (case side2 => exact HC0.out); rintro e w5 ⟨rfl, hb⟩; refine ⟨_, rfl, ?_⟩; have n0_ := Aside0.mk (below_step (by repeat (first | (with_reducible first | exact HB.out | apply below_alloc | apply pw_below_drewN | apply below_drew1) | exact HB.out)) hb); clear HB; have HB := n0_; clear n0_; (try clear hb); (try clear hb2); (try clear hk); (try clear hi)) | (go_at_call 95; (with_reducible refine (any_late.calls _ _ l0  t291 _ ?side1 ?side2 A4.out).mono ?_); (case side1 => repeat (first | exact (Kd.C_below HR0.out HB.out) | (with_reducible refine Kd.C_alloc ?_ _) | (with_reducible refine Kd.C_drewN ?_ _) | (with_reducible refine Kd.C_drew ?_))); (case side2 => exact HC0.out); rintro e w6 ⟨rfl, hb⟩; have n0_ := Aside0.mk (below_step (by repeat (first | (with_reducible first | exact HB.out | apply below_alloc | apply pw_below_drewN | apply below_drew1) | exact HB.out)) hb); clear HB; have HB := n0_; clear n0_; (try clear hb); (try clear hb2); (try clear hk); (try clear hi)))
    go_ret
    exact ⟨by first | rfl | (simp [errW_none, errW_some] <;> rfl) | (simp [*, errW_none, errW_some] <;> rfl), by repeat (first | (with_reducible first | exact HB.out | apply below_alloc | apply pw_below_drewN | apply below_drew1) | exact HB.out)⟩
  · replace c3 := Bool.eq_false_iff.mpr c3
    subst c3
    have H1 : (some false) = some r := by rw [if_neg (show ¬ (false = true) by decide)] at H; exact H
    clear H
    have H := H1
    clear H1
    obtain rfl := Option.some.inj H
    go_enter Try.func54, Try.ntmps54
    go_wp2_with (first | ((with_reducible refine gate_callee (f := 52) rfl ?_); refine goesL_ (some 4) rfl rfl Try.func52 (by kernel_rfl) rfl #[.slice A0 l0.length c0] rfl (by (try simp only [List.map_toArray, List.map_cons, List.map_nil]); first | done | rfl | (simp only [List.length_drop, List.length_take]; rfl)) ?_; (with_reducible refine (impl_SetValid.calls _ _ l0 false _ ?side1 ?side2 A2.out).mono ?_); (case side1 => repeat (first | exact HR0.out | (with_reducible refine Kd.C_alloc ?_ _) | (with_reducible refine Kd.C_drewN ?_ _) | (with_reducible refine Kd.C_drew ?_))); (case side2 => exact HC0.out); rintro e w7 ⟨rfl, hb⟩; refine ⟨_, rfl, ?_⟩; have n0_ := Aside0.mk (below_step (by repeat (first | (with_reducible first | exact HB.out | apply below_alloc | apply pw_below_drewN | apply below_drew1) | exact HB.out)) hb); clear HB; have HB := n0_; clear n0_; (try clear hb); (try clear hb2); (try clear hk); (try clear hi)))
    go_ret
    exact ⟨by first | rfl | (simp [errW_none, errW_some] <;> rfl) | (simp [*, errW_none, errW_some] <;> rfl), by repeat (first | (with_reducible first | exact HB.out | apply below_alloc | apply pw_below_drewN | apply below_drew1) | exact HB.out)⟩

end Go.Proofs.Ytgcjadhmkhpbnaa.P
/- A task set's validity, as one test. No condition. -/
namespace Go.Proofs.Ytgcjadhmkhpbnaa.Set
open Go.RowKit Go.Proofs.Ytgcjadhmkhpbnaa.P Go.Proofs.Ytgcjadhmkhpbnaa.Base Go.Proofs.Ytgcjadhmkhpbnaa.Alive Go.Proofs.YtgcjadhmkhpbnaaW.PrintWords Go.Proofs.YtgcjadhmkhpbnaaW.PrintLast
abbrev Task := S56
def TVt (t : Task) : Prop := TV t.f0 t.f1 t.f2
instance (t : Task) : Decidable (TVt t) := by unfold TVt; infer_instance
def SetOk (l : List Task) : Prop := l.length ≤ 5 ∧ ∀ t ∈ l, TVt t
instance (l : List Task) : Decidable (SetOk l) := by unfold SetOk; infer_instance
def Impl (l : List Task) : Prop := SetOk l ∧ ∀ t ∈ l, t.f1 = t.f2
instance (l : List Task) : Decidable (Impl l) := by unfold Impl; infer_instance
theorem taskOk_iff (t : Task) : taskOk t = decide (TVt t) := by
  unfold taskOk
  rw [decide_eq_decide]; unfold TVt TV; omega
theorem any_tasks_f (l : List Task) : any_tasks.f l = some (decide (¬ ∀ t ∈ l, TVt t)) := by
  unfold any_tasks.f
  congr 1
  rw [Bool.eq_iff_iff, List.any_eq_true]
  simp [any_tasks.bad, taskOk_iff]
theorem set_f (l : List Task) : impl_SetValid.f l = some (decide (SetOk l)) := by
  unfold impl_SetValid.f
  by_cases h : (l.length : Int) ≤ 5
  · rw [if_pos h, any_tasks_f]
    simp only [Option.bind_some]
    congr 1
    rw [Bool.eq_iff_iff]
    unfold SetOk
    have : l.length ≤ 5 := by omega
    simp [this]
  · rw [if_neg h]
    congr 1; symm; rw [decide_eq_false_iff_not]
    unfold SetOk; omega
end Go.Proofs.Ytgcjadhmkhpbnaa.Set
/- Task sets, their hyperperiod, load and demand, as plain functions. Conditions: a valid set. -/
namespace Go.Proofs.Ytgcjadhmkhpbnaa.Tm
open Go.RowKit Go.Proofs.Ytgcjadhmkhpbnaa.P Go.Proofs.Ytgcjadhmkhpbnaa.Base Go.Proofs.Ytgcjadhmkhpbnaa.Gen Go.Proofs.Ytgcjadhmkhpbnaa.Alive Go.Proofs.Ytgcjadhmkhpbnaa.Set Go.Proofs.YtgcjadhmkhpbnaaW.PrintWords Go.Proofs.YtgcjadhmkhpbnaaW.PrintLast
/-- A sum over a row. -/
def sm {α : Type} (f : α → Int) : List α → Int
  | [] => 0
  | a :: l => f a + sm f l
theorem sm_append {α : Type} (f : α → Int) (l m : List α) : sm f (l ++ m) = sm f l + sm f m := by
  induction l with
  | nil => simp [sm]
  | cons a l ih => rw [List.cons_append, sm, sm, ih]; omega
theorem sm_take {α : Type} (f : α → Int) (l : List α) (i : Nat) (h : i < l.length) : sm f (l.take (i + 1)) = sm f (l.take i) + f l[i] := by
  rw [List.take_succ_eq_append_getElem h, sm_append]
  simp [sm]
theorem sm_congr {α : Type} (f g : α → Int) (l : List α) (h : ∀ a ∈ l, f a = g a) : sm f l = sm g l := by
  induction l with
  | nil => rfl
  | cons a l ih => rw [sm, sm, h a (List.mem_cons_self ..), ih (fun x hx => h x (List.mem_cons_of_mem _ hx))]
theorem sm_nonneg {α : Type} (f : α → Int) (l : List α) (h : ∀ a ∈ l, 0 ≤ f a) : 0 ≤ sm f l := by
  induction l with
  | nil => exact Int.le_refl _
  | cons a l ih =>
    have h1 := h a (List.mem_cons_self ..)
    have h2 := ih (fun x hx => h x (List.mem_cons_of_mem _ hx))
    rw [sm]; omega
theorem sm_bd {α : Type} (f : α → Int) (l : List α) (B : Int) (hB : ∀ a ∈ l, f a ≤ B) : sm f l ≤ l.length * B := by
  induction l with
  | nil => simp [sm]
  | cons a l ih =>
    have h1 := hB a (List.mem_cons_self ..)
    have h2 := ih (fun x hx => hB x (List.mem_cons_of_mem _ hx))
    rw [sm, List.length_cons, Int.natCast_add, Int.add_mul]; simp only [Int.natCast_one, Int.one_mul]; omega
theorem sm_add {α : Type} (f g : α → Int) (l : List α) : sm (fun a => f a + g a) l = sm f l + sm g l := by
  induction l with
  | nil => rfl
  | cons a l ih => rw [sm, sm, sm, ih]; omega
theorem take_bd {α : Type} (f : α → Int) (l : List α) (B : Int) (h0 : ∀ a ∈ l, 0 ≤ f a ∧ f a ≤ B) (i : Nat) (hi : i ≤ l.length) : 0 ≤ sm f (l.take i) ∧ sm f (l.take i) ≤ i * B := by
  refine ⟨sm_nonneg _ _ (fun a ha => (h0 a (List.mem_of_mem_take ha)).1), ?_⟩
  have := sm_bd f (l.take i) B (fun a ha => (h0 a (List.mem_of_mem_take ha)).2)
  rwa [List.length_take, Nat.min_eq_left hi] at this
/-- The hyperperiod. -/
def hy (l : List Task) : Nat := l.foldl (fun h t => Nat.lcm h t.f2.toNat) 1
theorem hy_take (l : List Task) (i : Nat) (h : i < l.length) : hy (l.take (i + 1)) = Nat.lcm (hy (l.take i)) l[i].f2.toNat := by
  unfold hy
  rw [List.take_succ_eq_append_getElem h, List.foldl_append]
  rfl
theorem fold_dvd (l : List Task) : ∀ h : Nat, h ∣ l.foldl (fun h t => Nat.lcm h t.f2.toNat) h ∧ ∀ t ∈ l, t.f2.toNat ∣ l.foldl (fun h t => Nat.lcm h t.f2.toNat) h := by
  induction l with
  | nil => intro h; exact ⟨Nat.dvd_refl _, fun t ht => by simp at ht⟩
  | cons a l ih =>
    intro h
    obtain ⟨h1, h2⟩ := ih (Nat.lcm h a.f2.toNat)
    refine ⟨Nat.dvd_trans (Nat.dvd_lcm_left _ _) h1, fun t ht => ?_⟩
    rcases List.mem_cons.1 ht with rfl | ht
    · exact Nat.dvd_trans (Nat.dvd_lcm_right _ _) h1
    · exact h2 t ht
theorem hy_dvd {l : List Task} {t : Task} (ht : t ∈ l) : t.f2.toNat ∣ hy l := (fold_dvd l 1).2 t ht
theorem fold_least (l : List Task) (m : Nat) (hm : ∀ t ∈ l, t.f2.toNat ∣ m) : ∀ h : Nat, h ∣ m → l.foldl (fun h t => Nat.lcm h t.f2.toNat) h ∣ m := by
  induction l with
  | nil => intro h hh; exact hh
  | cons a l ih =>
    intro h hh
    exact ih (fun t ht => hm t (List.mem_cons_of_mem _ ht)) _ (Nat.lcm_dvd hh (hm a (List.mem_cons_self ..)))
theorem hy_least {l : List Task} {m : Nat} (hm : ∀ t ∈ l, t.f2.toNat ∣ m) : hy l ∣ m := fold_least l m hm 1 (Nat.one_dvd _)
def AllV (l : List Task) : Prop := ∀ t ∈ l, TVt t
theorem _root_.Go.Proofs.Ytgcjadhmkhpbnaa.Set.SetOk.all {l : List Task} (h : SetOk l) : AllV l := h.2
theorem small_dvd {p : Nat} (h1 : 1 ≤ p) (h2 : p ≤ 12) : p ∣ 27720 := by
  have : p = 1 ∨ p = 2 ∨ p = 3 ∨ p = 4 ∨ p = 5 ∨ p = 6 ∨ p = 7 ∨ p = 8 ∨ p = 9 ∨ p = 10 ∨ p = 11 ∨ p = 12 := by omega
  rcases this with rfl | rfl | rfl | rfl | rfl | rfl | rfl | rfl | rfl | rfl | rfl | rfl <;> decide
theorem hy_small {l : List Task} (h : AllV l) : hy l ∣ 27720 := hy_least fun t ht => by
  have := h t ht
  unfold TVt TV at this
  exact small_dvd (by omega) (by omega)
theorem hy_bd {l : List Task} (h : AllV l) : 1 ≤ hy l ∧ hy l ≤ 27720 := by
  have h1 := hy_small h
  have h2 := Nat.le_of_dvd (by omega) h1
  have h3 : hy l ≠ 0 := fun e => by rw [e] at h1; simp at h1
  omega
theorem AllV.take {l : List Task} (h : AllV l) (i : Nat) : AllV (l.take i) := fun t ht => h t (List.mem_of_mem_take ht)
theorem lcm_div (a b : Nat) (h : 0 < a) : a / Nat.gcd a b * b = Nat.lcm a b := by
  unfold Nat.lcm
  obtain ⟨k, hk⟩ := Nat.gcd_dvd_left a b
  have hg : 0 < Nat.gcd a b := Nat.gcd_pos_of_pos_left _ h
  generalize Nat.gcd a b = g at *
  subst hk
  rw [Nat.mul_div_cancel_left _ hg, Nat.mul_assoc, Nat.mul_div_cancel_left _ hg]
/-- The work of one hyperperiod (or of a multiple of it). -/
def wk (l : List Task) (m : Int) : Int := sm (fun t => m / t.f2 * t.f0) l
def ld (l : List Task) : Int := wk l (hy l)
/-- The demand bound. -/
def d1 (t : Int) (x : Task) : Int := if t ≥ x.f1 then ((t - x.f1) / x.f2 + 1) * x.f0 else 0
def dm (l : List Task) (t : Int) : Int := sm (d1 t) l
theorem d1_bd {x : Task} (hx : TVt x) {t : Int} (h0 : 0 ≤ t) : 0 ≤ d1 t x ∧ d1 t x ≤ 8 * (t + 1) := by
  unfold TVt TV at hx
  unfold d1
  split
  · rename_i h
    have h1 := Int.ediv_nonneg (show 0 ≤ t - x.f1 by omega) (show 0 ≤ x.f2 by omega)
    have h2 := Int.ediv_le_self x.f2 (show 0 ≤ t - x.f1 by omega)
    have h3 := mul_bd (a := (t - x.f1) / x.f2 + 1) (b := x.f0) (A := t + 1) (B := 8) (by omega) (by omega) (by omega) (by omega)
    omega
  · omega
theorem d1_add {x : Task} (hx : TVt x) {t q : Int} (h0 : 0 ≤ t) (hq : 0 ≤ q) : d1 (t + q * x.f2) x = d1 t x + q * x.f0 := by
  unfold TVt TV at hx
  unfold d1
  by_cases h : t ≥ x.f1
  · have hm := Int.mul_nonneg hq (show 0 ≤ x.f2 by omega)
    rw [if_pos h, if_pos (by omega), show t + q * x.f2 - x.f1 = t - x.f1 + q * x.f2 by omega, Int.add_mul_ediv_right _ _ (by omega)]
    rw [show (t - x.f1) / x.f2 + q + 1 = (t - x.f1) / x.f2 + 1 + q by omega, Int.add_mul]
  · rw [if_neg h]
    by_cases hz : q = 0
    · subst hz
      rw [if_neg (by omega)]; omega
    · have hm : x.f2 ≤ q * x.f2 := by
        have := Int.mul_le_mul_of_nonneg_right (show 1 ≤ q by omega) (show 0 ≤ x.f2 by omega)
        omega
      have e : (t - x.f1) / x.f2 = -1 := by
        have e1 : (t - x.f1 + 1 * x.f2) / x.f2 = (t - x.f1) / x.f2 + 1 := Int.add_mul_ediv_right _ _ (by omega)
        have e2 : (t - x.f1 + 1 * x.f2) / x.f2 = 0 := Int.ediv_eq_zero_of_lt (by omega) (by omega)
        omega
      rw [if_pos (by omega), show t + q * x.f2 - x.f1 = t - x.f1 + q * x.f2 by omega, Int.add_mul_ediv_right _ _ (by omega), e]
      rw [show -1 + q + 1 = q by omega]; omega
theorem dm_add {l : List Task} (hl : AllV l) {t m : Int} (h0 : 0 ≤ t) (hm : 0 ≤ m) (hd : ∀ x ∈ l, x.f2 ∣ m) : dm l (t + m) = dm l t + wk l m := by
  unfold dm wk
  rw [← sm_add]
  apply sm_congr
  intro x hx
  have hv := hl x hx
  have hv' := hv
  unfold TVt TV at hv'
  obtain ⟨q, rfl⟩ := hd x hx
  have hq : 0 ≤ q := by
    apply Classical.byContradiction
    intro h
    have := Int.mul_lt_mul_of_pos_left (show q < 0 by omega) (show 0 < x.f2 by omega)
    omega
  rw [Int.mul_ediv_cancel_left _ (by omega), Int.mul_comm, d1_add hv h0 hq]
theorem dm_zero {l : List Task} (hl : AllV l) : dm l 0 = 0 := by
  unfold dm
  have : sm (d1 0) l = sm (fun _ => 0) l := sm_congr _ _ _ fun x hx => by
    have := hl x hx
    unfold TVt TV at this
    unfold d1; rw [if_neg (by omega)]
  rw [this]
  clear this hl
  induction l with
  | nil => rfl
  | cons a l ih => rw [sm, ih]; rfl
theorem hy_int {l : List Task} (hl : AllV l) {x : Task} (hx : x ∈ l) : x.f2 ∣ (hy l : Int) := by
  have h1 := hy_dvd hx
  have := hl x hx
  unfold TVt TV at this
  have := Int.natCast_dvd_natCast.2 h1
  rwa [Int.toNat_of_nonneg (by omega)] at this
theorem dm_hy {l : List Task} (hl : AllV l) : dm l (hy l) = ld l := by
  have := dm_add hl (t := 0) (m := hy l) (by omega) (by omega) (fun x hx => hy_int hl hx)
  rw [dm_zero hl] at this
  unfold ld
  simpa using this
/-- The processor-demand test. -/
def Edf (l : List Task) : Prop := SetOk l ∧ ∀ t : Int, 1 ≤ t → t ≤ hy l → dm l t ≤ t
theorem edf_all {l : List Task} (h : Edf l) : ∀ n : Nat, dm l (n : Int) ≤ (n : Int) := by
  intro n
  induction n using Nat.strongRecOn with
  | ind n ih =>
    have hb := hy_bd h.1.all
    rcases Nat.eq_zero_or_pos n with rfl | hn
    · rw [show ((0 : Nat) : Int) = 0 from rfl, dm_zero h.1.all]; omega
    · by_cases hle : n ≤ hy l
      · exact h.2 n (by omega) (by omega)
      · have h1 := ih (n - hy l) (by omega)
        have h2 := dm_add h.1.all (t := ((n - hy l : Nat) : Int)) (m := hy l) (by omega) (by omega) (fun x hx => hy_int h.1.all hx)
        have h3 := dm_hy h.1.all
        have h4 := h.2 (hy l) (by omega) (by omega)
        unfold ld at h3
        rw [show (n : Int) = ((n - hy l : Nat) : Int) + (hy l : Int) by omega]
        omega
theorem edf_load {l : List Task} (h : Edf l) : ld l ≤ hy l := by
  have hb := hy_bd h.1.all
  rw [← dm_hy h.1.all]
  exact h.2 _ (by omega) (by omega)
theorem ld_bd {l : List Task} (h : SetOk l) : 0 ≤ ld l ∧ ld l ≤ 1108800 := by
  have hb := hy_bd h.all
  have h1 : ∀ t ∈ l, 0 ≤ (hy l : Int) / t.f2 * t.f0 ∧ (hy l : Int) / t.f2 * t.f0 ≤ 27720 * 8 := by
    intro t ht
    have := h.2 t ht
    unfold TVt TV at this
    have h1 := Int.ediv_nonneg (show 0 ≤ (hy l : Int) by omega) (show 0 ≤ t.f2 by omega)
    have h2 := Int.ediv_le_self t.f2 (show 0 ≤ (hy l : Int) by omega)
    exact mul_bd h1 (by omega) (by omega) (by omega)
  have h2 := take_bd _ l _ h1 l.length (Nat.le_refl _)
  rw [List.take_length] at h2
  have h3 := h.1
  unfold ld wk
  omega
end Go.Proofs.Ytgcjadhmkhpbnaa.Tm
/- The functions of a periodic resource, each as a plain function. No condition. -/
namespace Go.Proofs.Ytgcjadhmkhpbnaa.Sup
open Go.RowKit Go.Proofs.Ytgcjadhmkhpbnaa.P Go.Proofs.Ytgcjadhmkhpbnaa.Base Go.Proofs.YtgcjadhmkhpbnaaW.PrintWords Go.Proofs.YtgcjadhmkhpbnaaW.PrintLast
def SV (b p : Int) : Prop := 1 ≤ b ∧ b ≤ p ∧ p ≤ 12
instance (b p : Int) : Decidable (SV b p) := by unfold SV; infer_instance
theorem sv_f (b p : Int) : impl_SupplyValid.f b p = some (decide (SV b p)) := by
  unfold impl_SupplyValid.f
  rw [in_f]; simp only [Option.bind_some]
  rw [and_two]
  congr 1; rw [decide_eq_decide]; unfold SV; omega
theorem ssv_f (b p : Int) : spec_SupplyValid.f b p = some (decide (SV b p)) := by
  unfold spec_SupplyValid.f
  rw [l1In_f, l1In_f]; simp only [Option.bind_some]
  rw [and_two]
  congr 1; rw [decide_eq_decide]; unfold SV; omega
/-- The supply bound of a valid resource. -/
def sb (b p t : Int) : Int := if t - (p - b) < 0 then 0 else (t - (p - b)) / p * b + max 0 (min b (t - (p - b) - (t - (p - b)) / p * p - (p - b)))
theorem div_bd {x p : Int} (h0 : 0 ≤ x) (hp : 1 ≤ p) : 0 ≤ x / p ∧ x / p ≤ x ∧ x / p * p ≤ x ∧ x < x / p * p + p := by
  have h1 := Int.ediv_nonneg h0 (show 0 ≤ p by omega)
  have h2 := Int.ediv_le_self p h0
  have h3 := Int.mul_ediv_add_emod x p
  have h4 := Int.emod_nonneg x (show p ≠ 0 by omega)
  have h5 := Int.emod_lt_of_pos x (show 0 < p by omega)
  rw [Int.mul_comm] at h3
  omega
theorem bound_f {b p t : Int} (h : SV b p) (h0 : 0 ≤ t) (h1 : t ≤ 10000000) : impl_Supply_bound.f b p t = some (sb b p t) := by
  unfold SV at h
  unfold impl_Supply_bound.f sb
  rw [w64 (x := p - b) (by omega) (by omega), w64 (x := t - (p - b)) (by omega) (by omega)]
  by_cases hx : t - (p - b) < 0
  · rw [if_pos hx, if_pos hx]
  · rw [if_neg hx, if_neg hx, if_neg (by omega), tdiv_pos (by omega), mx_max, mn_min]
    have hd := div_bd (x := t - (p - b)) (p := p) (by omega) (by omega)
    have hxb : t - (p - b) ≤ 10000000 := by omega
    generalize t - (p - b) = x at *
    generalize x / p = k at *
    have hm := mul_bd (a := k) (b := b) (A := 10000000) (B := 12) (by omega) (by omega) (by omega) (by omega)
    rw [w64 (x := k) (by omega) (by omega), w64 (x := k * b) (by omega) (by omega), w64 (x := k * p) (by omega) (by omega), w64 (x := x - k * p) (by omega) (by omega), w64 (x := x - k * p - (p - b)) (by omega) (by omega), w64 (by omega) (by omega)]
theorem sbound_f {b p t : Int} (h : SV b p) (h0 : 0 ≤ t) (h1 : t ≤ 10000000) : spec_l22Bound.f b p t = some (sb b p t) := by
  have hv := h
  unfold SV at h
  unfold spec_l22Bound.f sb
  rw [w64 (x := p - b) (by omega) (by omega), w64 (x := 2 * (p - b)) (by omega) (by omega), w64 (x := t - 2 * (p - b)) (by omega) (by omega), w64 (x := t - (p - b)) (by omega) (by omega), mx_max, mn_min]
  by_cases hx : t ≤ 2 * (p - b)
  · rw [if_pos hx]
    by_cases hy : t - (p - b) < 0
    · rw [if_pos hy]
      congr 1; omega
    · rw [if_neg hy, show (t - (p - b)) / p = 0 from Int.ediv_eq_zero_of_lt (by omega) (by omega)]
      congr 1; omega
  · rw [if_neg hx, if_neg (by omega), if_neg (by omega), tdiv_pos (by omega), mx_max, mn_min]
    have hd := div_bd (x := t - (p - b)) (p := p) (by omega) (by omega)
    have hxb : t - (p - b) ≤ 10000000 := by omega
    generalize t - (p - b) = x at *
    generalize x / p = k at *
    have hm := mul_bd (a := k) (b := b) (A := 10000000) (B := 12) (by omega) (by omega) (by omega) (by omega)
    rw [w64 (x := k) (by omega) (by omega), w64 (x := k * b) (by omega) (by omega), w64 (x := k * p) (by omega) (by omega), w64 (x := x - k * p) (by omega) (by omega), w64 (x := x - k * p - (p - b)) (by omega) (by omega), w64 (by omega) (by omega)]
end Go.Proofs.Ytgcjadhmkhpbnaa.Sup
/- How the supply bound grows. Conditions: a valid resource. -/
namespace Go.Proofs.Ytgcjadhmkhpbnaa.SupLaw
open Go.RowKit Go.Proofs.Ytgcjadhmkhpbnaa.Base Go.Proofs.Ytgcjadhmkhpbnaa.Sup
theorem div_eq {x p q : Int} (hp : 1 ≤ p) (h1 : q * p ≤ x) (h2 : x < q * p + p) : x / p = q := by
  have e : x = q * p + (x - q * p) := by omega
  rw [e, Int.add_comm, Int.add_mul_ediv_right _ _ (by omega), Int.ediv_eq_zero_of_lt (by omega) (by omega)]
  omega
theorem sb_neg {b p t : Int} (h : t - (p - b) < 0) : sb b p t = 0 := by unfold sb; rw [if_pos h]
theorem sb_at {b p t k : Int} (hv : SV b p) (h1 : k * p ≤ t - (p - b)) (h2 : t - (p - b) < k * p + p) (hk : 0 ≤ k) : sb b p t = k * b + max 0 (min b (t - (p - b) - k * p - (p - b))) := by
  unfold SV at hv
  have hkp : 0 ≤ k * p := Int.mul_nonneg hk (by omega)
  unfold sb
  rw [if_neg (by omega), div_eq (by omega) h1 h2]
theorem sb_k {b p t : Int} (hv : SV b p) (h : 0 ≤ t - (p - b)) : ∃ k, 0 ≤ k ∧ k * p ≤ t - (p - b) ∧ t - (p - b) < k * p + p := by
  unfold SV at hv
  have hd := div_bd (x := t - (p - b)) (p := p) h (by omega)
  exact ⟨_, hd.1, hd.2.2.1, hd.2.2.2⟩
theorem sb_step {b p t : Int} (hv : SV b p) (ht : 0 ≤ t) : sb b p t ≤ sb b p (t + 1) ∧ sb b p (t + 1) ≤ sb b p t + 1 := by
  have hv' := hv
  unfold SV at hv'
  by_cases hx : t - (p - b) < 0
  · rw [sb_neg hx]
    by_cases hy : t + 1 - (p - b) < 0
    · rw [sb_neg hy]; omega
    · rw [sb_at (k := 0) hv (by omega) (by omega) (by omega)]
      omega
  · obtain ⟨k, hk, h1, h2⟩ := sb_k hv (t := t) (by omega)
    rw [sb_at hv h1 h2 hk]
    have e : (k + 1) * p = k * p + p := by rw [Int.add_mul, Int.one_mul]
    have e2 : (k + 1) * b = k * b + b := by rw [Int.add_mul, Int.one_mul]
    by_cases hr : t + 1 - (p - b) < k * p + p
    · rw [sb_at (k := k) hv (by omega) (by omega) hk]; omega
    · rw [sb_at (k := k + 1) hv (by omega) (by omega) (by omega), e, e2]; omega
theorem sb_full {p t : Int} (hv : SV p p) (ht : 0 ≤ t) : sb p p t = t := by
  have hv' := hv
  unfold SV at hv'
  obtain ⟨k, hk, h1, h2⟩ := sb_k hv (t := t) (by omega)
  rw [sb_at hv h1 h2 hk]
  omega
theorem sb_zero {b p t : Int} (hv : SV b p) (ht : t ≤ 2 * (p - b)) : sb b p t = 0 := by
  have hv' := hv
  unfold SV at hv'
  by_cases hx : t - (p - b) < 0
  · exact sb_neg hx
  · rw [sb_at (k := 0) hv (by omega) (by omega) (by omega)]; omega
theorem sb_nonneg {b p t : Int} (hv : SV b p) : 0 ≤ sb b p t := by
  have hv' := hv
  unfold SV at hv'
  by_cases hx : t - (p - b) < 0
  · rw [sb_neg hx]; omega
  · obtain ⟨k, hk, h1, h2⟩ := sb_k hv (t := t) (by omega)
    have := Int.mul_nonneg hk (show 0 ≤ b by omega)
    rw [sb_at hv h1 h2 hk]; omega
theorem sb_le {b p t : Int} (hv : SV b p) (ht : 0 ≤ t) : sb b p t ≤ t := by
  have hz : sb b p 0 = 0 := sb_zero hv (by unfold SV at hv; omega)
  obtain ⟨n, rfl⟩ := Int.eq_ofNat_of_zero_le ht
  clear ht
  induction n with
  | zero => simp [hz]
  | succ n ih =>
    have := (sb_step hv (t := (n : Int)) (by omega)).2
    rw [show (((n + 1 : Nat)) : Int) = n + 1 by push_cast; rfl]
    omega
end Go.Proofs.Ytgcjadhmkhpbnaa.SupLaw
/- Schedulability on a periodic resource, as a plain proposition, and its laws. Conditions: a valid set. -/
namespace Go.Proofs.Ytgcjadhmkhpbnaa.Sf
open Go.RowKit Go.Proofs.Ytgcjadhmkhpbnaa.P Go.Proofs.Ytgcjadhmkhpbnaa.Base Go.Proofs.Ytgcjadhmkhpbnaa.Gen Go.Proofs.Ytgcjadhmkhpbnaa.Alive Go.Proofs.Ytgcjadhmkhpbnaa.Set Go.Proofs.Ytgcjadhmkhpbnaa.Tm Go.Proofs.Ytgcjadhmkhpbnaa.Sup Go.Proofs.Ytgcjadhmkhpbnaa.SupLaw Go.Proofs.YtgcjadhmkhpbnaaW.PrintWords Go.Proofs.YtgcjadhmkhpbnaaW.PrintLast
/-- The last length that is tested. -/
def lim (l : List Task) (p : Int) : Int := (Nat.lcm (hy l) p.toNat : Int) + 2 * p
def SF (l : List Task) (b p : Int) : Prop := SetOk l ∧ SV b p ∧ ld l * p ≤ b * hy l ∧ ∀ t : Int, 1 ≤ t → t ≤ lim l p → dm l t ≤ sb b p t
noncomputable instance (l : List Task) (b p : Int) : Decidable (SF l b p) := Classical.propDecidable _
noncomputable instance (l : List Task) : Decidable (Edf l) := Classical.propDecidable _
theorem lim_bd {l : List Task} (h : AllV l) {b p : Int} (hv : SV b p) : (hy l : Int) ≤ lim l p ∧ lim l p ≤ 27744 := by
  unfold SV at hv
  have hb := hy_bd h
  have h1 : Nat.lcm (hy l) p.toNat ∣ 27720 := Nat.lcm_dvd (hy_small h) (small_dvd (by omega) (by omega))
  have h2 := Nat.le_of_dvd (by omega) h1
  have h3 : hy l ∣ Nat.lcm (hy l) p.toNat := Nat.dvd_lcm_left _ _
  have h4 : 0 < Nat.lcm (hy l) p.toNat := Nat.lcm_pos (by omega) (by omega)
  have h5 := Nat.le_of_dvd h4 h3
  unfold lim
  omega
theorem sf_edf {l : List Task} {b p : Int} (h : SF l b p) : Edf l := by
  refine ⟨h.1, fun t h1 h2 => ?_⟩
  have h3 := lim_bd h.1.all h.2.1
  have h4 := h.2.2.2 t h1 (by omega)
  have h5 := sb_le h.2.1 (t := t) (by omega)
  omega
theorem edf_full {l : List Task} (h : Edf l) {p : Int} (h1 : 1 ≤ p) (h2 : p ≤ 12) : SF l p p := by
  have hv : SV p p := ⟨h1, Int.le_refl _, h2⟩
  refine ⟨h.1, hv, ?_, fun t h3 _ => ?_⟩
  · rw [Int.mul_comm]
    exact Int.mul_le_mul_of_nonneg_left (edf_load h) (by omega)
  · rw [sb_full hv (by omega)]
    obtain ⟨n, rfl⟩ := Int.eq_ofNat_of_zero_le (show 0 ≤ t by omega)
    exact edf_all h n
theorem sf_one (l : List Task) : SF l 1 1 ↔ Edf l := ⟨sf_edf, fun h => edf_full h (by omega) (by omega)⟩
theorem sb_budget {b p t : Int} (hv : SV b p) (hv2 : SV (b + 1) p) : sb b p t ≤ sb (b + 1) p t := by
  have hv' := hv
  have hv2' := hv2
  unfold SV at hv' hv2'
  by_cases hx : t - (p - b) < 0
  · rw [sb_neg hx]; exact sb_nonneg hv2
  · obtain ⟨k, hk, h1, h2⟩ := sb_k hv (t := t) (by omega)
    rw [sb_at hv h1 h2 hk]
    have e : (k + 1) * p = k * p + p := by rw [Int.add_mul, Int.one_mul]
    have e2 : (k + 1) * (b + 1) = k * b + k + b + 1 := by rw [Int.add_mul, Int.mul_add]; omega
    have e3 : k * (b + 1) = k * b + k := by rw [Int.mul_add, Int.mul_one]
    by_cases hr : t - (p - (b + 1)) < k * p + p
    · rw [sb_at (k := k) hv2 (by omega) (by omega) hk, e3]; omega
    · rw [sb_at (k := k + 1) hv2 (by omega) (by omega) (by omega), e2, e]; omega
theorem sf_succ {l : List Task} {b p : Int} (h : SF l b p) (hb : b < p) : SF l (b + 1) p := by
  have hv := h.2.1
  have hv' := hv
  unfold SV at hv'
  have hv2 : SV (b + 1) p := ⟨by omega, by omega, by omega⟩
  refine ⟨h.1, hv2, ?_, fun t h1 h2 => Int.le_trans (h.2.2.2 t h1 h2) (sb_budget hv hv2)⟩
  have := h.2.2.1
  rw [Int.add_mul]; omega
end Go.Proofs.Ytgcjadhmkhpbnaa.Sf
/- The program's and the reference's functions on task sets are the plain ones. Conditions: a valid set. -/
namespace Go.Proofs.Ytgcjadhmkhpbnaa.Tm
open Go.RowKit Go.Proofs.Ytgcjadhmkhpbnaa.P Go.Proofs.Ytgcjadhmkhpbnaa.Base Go.Proofs.Ytgcjadhmkhpbnaa.Gen Go.Proofs.Ytgcjadhmkhpbnaa.Alive Go.Proofs.Ytgcjadhmkhpbnaa.Set Go.Proofs.YtgcjadhmkhpbnaaW.PrintWords Go.Proofs.YtgcjadhmkhpbnaaW.PrintLast
theorem rdT_at (l : List Task) (i : Nat) (h : i < l.length) : rd_T56 l (i : Int) = l[i] := by
  unfold rd_T56
  rw [List.getD_eq_getElem?_getD, Int.toNat_natCast, List.getElem?_eq_getElem h]
  rfl
theorem stv_f (c d p : Int) : spec_TaskValid.f c d p = some (decide (TV c d p)) := by
  unfold spec_TaskValid.f
  rw [l1In_f, l1In_f, l1In_f, and_bind, and_bind]
  by_cases h1 : 1 ≤ c ∧ c ≤ 8
  · by_cases h2 : c ≤ d ∧ d ≤ p
    · rw [if_pos h1, if_pos h2]; simp only [Option.bind_some]; congr 1; rw [decide_eq_decide]; unfold TV; omega
    · rw [if_pos h1, if_neg h2]; congr 1; symm; rw [decide_eq_false_iff_not]; unfold TV; omega
  · rw [if_neg h1]; congr 1; symm; rw [decide_eq_false_iff_not]; unfold TV; omega
theorem sset_ev (l : List Task) (hl : l.length ≤ 2097152) : Ev (fun k => spec_SetValid.f k l) (decide (SetOk l)) := by
  have loop : ∀ d i, i + d = l.length → (∀ j (h : j < l.length), j < i → TVt l[j]) → Ev (fun k => spec_SetValid.l0 k l (i : Int)) (decide (SetOk l)) := by
    intro d
    induction d with
    | zero =>
      intro i hi hm
      have ha : ∀ t ∈ l, TVt t := by
        intro t ht
        obtain ⟨j, hj, rfl⟩ := List.mem_iff_getElem.1 ht
        exact hm j hj (by omega)
      refine Ev.step (f := fun _ => some (decide (SetOk l))) (fun k => ?_) (Ev.now _)
      simp only [spec_SetValid.l0]
      rw [if_neg (by omega)]
      congr 1
      rw [decide_eq_decide]
      unfold SetOk
      exact ⟨fun h => ⟨by omega, ha⟩, fun h => by omega⟩
    | succ d ih =>
      intro i hi hm
      have hil : i < l.length := by omega
      by_cases hv : TVt l[i]
      · refine Ev.step (fun k => ?_) (ih (i + 1) (by omega) (fun j hj hji => ?_))
        · have hv' : TV l[i].f0 l[i].f1 l[i].f2 := hv
          simp only [spec_SetValid.l0]
          rw [if_pos (by omega), if_pos (by omega), rdT_at l i hil, stv_f, decide_eq_true hv', w64 (by omega) (by omega)]
          rfl
        · by_cases e : j = i
          · subst e; exact hv
          · exact hm j hj (by omega)
      · rw [decide_eq_false (fun h => hv (h.2 _ (List.getElem_mem hil)))]
        have hv' : ¬ TV l[i].f0 l[i].f1 l[i].f2 := hv
        refine Ev.step (f := fun _ => some false) (fun k => ?_) (Ev.now _)
        simp only [spec_SetValid.l0]
        rw [if_pos (by omega), if_pos (by omega), rdT_at l i hil, stv_f, decide_eq_false hv']
        rfl
  exact loop l.length 0 (by omega) (fun j _ h => by omega)
theorem nmod (a b : Nat) : Int.tmod (a : Int) (b : Int) = ((a % b : Nat) : Int) := by
  rw [tmod_pos (by omega)]; omega
theorem ndiv (a b : Nat) : Int.tdiv (a : Int) (b : Int) = ((a / b : Nat) : Int) := by
  rw [tdiv_pos (by omega)]; omega
theorem gcd_step (a b : Nat) : Nat.gcd b (a % b) = Nat.gcd a b := by
  rw [Nat.gcd_comm b (a % b), ← Nat.gcd_rec, Nat.gcd_comm]
theorem gcd_ev : ∀ (b a : Nat), Ev (fun k => impl_gcd.f k (a : Int) (b : Int)) ((Nat.gcd a b : Nat) : Int) := by
  intro b
  induction b using Nat.strongRecOn with
  | ind b ih =>
    intro a
    rcases Nat.eq_zero_or_pos b with rfl | hb
    · refine Ev.step (f := fun _ => some (a : Int)) (fun k => ?_) ?_
      · unfold impl_gcd.f
        simp only [impl_gcd.l0]
        rw [if_pos (by omega)]
      · rw [Nat.gcd_zero_right]; exact Ev.now _
    · have h := ih (a % b) (Nat.mod_lt _ hb) b
      rw [gcd_step] at h
      refine Ev.step (fun k => ?_) h
      unfold impl_gcd.f
      simp only [impl_gcd.l0]
      rw [if_neg (by omega), nmod]
theorem sgcd_ev : ∀ (b a : Nat), Ev (fun k => spec_l1Gcd.f k (a : Int) (b : Int)) ((Nat.gcd a b : Nat) : Int) := by
  intro b
  induction b using Nat.strongRecOn with
  | ind b ih =>
    intro a
    rcases Nat.eq_zero_or_pos b with rfl | hb
    · refine Ev.step (f := fun _ => some (a : Int)) (fun k => ?_) ?_
      · unfold spec_l1Gcd.f
        simp only [spec_l1Gcd.l0]
        rw [if_neg (by omega)]
      · rw [Nat.gcd_zero_right]; exact Ev.now _
    · have h := ih (a % b) (Nat.mod_lt _ hb) b
      rw [gcd_step] at h
      refine Ev.step (fun k => ?_) h
      unfold spec_l1Gcd.f
      simp only [spec_l1Gcd.l0]
      rw [if_pos (by omega), if_neg (by omega), nmod]
theorem lcm_val {h p : Nat} (h1 : 1 ≤ h) (h2 : h ≤ 27720) (h3 : Nat.lcm h p ≤ 27720) : ((Nat.gcd h p : Nat) : Int) ≠ 0 ∧ wrap64 (wrap64 (Int.tdiv (h : Int) ((Nat.gcd h p : Nat) : Int)) * (p : Int)) = ((Nat.lcm h p : Nat) : Int) := by
  have hg : 0 < Nat.gcd h p := Nat.gcd_pos_of_pos_left _ h1
  refine ⟨by omega, ?_⟩
  have hd := Nat.div_le_self h (Nat.gcd h p)
  have hl := lcm_div h p h1
  rw [ndiv]
  generalize h / Nat.gcd h p = q at hd hl ⊢
  rw [w64 (x := ((q : Nat) : Int)) (by omega) (by omega), ← Int.natCast_mul, hl, w64 (by omega) (by omega)]
theorem lcm_ev {h p : Nat} (h1 : 1 ≤ h) (h2 : h ≤ 27720) (h3 : Nat.lcm h p ≤ 27720) : Ev (fun k => impl_lcm.f k (h : Int) (p : Int)) ((Nat.lcm h p : Nat) : Int) := by
  have hv := lcm_val h1 h2 h3
  unfold impl_lcm.f
  refine Ev.bind (gcd_ev p h) ?_
  rw [if_neg hv.1, hv.2]
  exact Ev.now _
theorem pnat {l : List Task} (hl : AllV l) (i : Nat) (h : i < l.length) : l[i].f2 = ((l[i].f2.toNat : Nat) : Int) := by
  have := hl _ (List.getElem_mem h)
  unfold TVt TV at this
  omega
theorem hyper_ev {l : List Task} (hs : SetOk l) : Ev (fun k => impl_hyper.f k l) ((hy l : Nat) : Int) := by
  have hl := hs.all
  have hlen := hs.1
  have loop : ∀ d i, i + d = l.length → Ev (fun k => impl_hyper.l0 k ((hy (l.take i) : Nat) : Int) l (l.length : Int) (i : Int)) ((hy l : Nat) : Int) := by
    intro d
    induction d with
    | zero =>
      intro i hi
      refine Ev.step (f := fun _ => some ((hy l : Nat) : Int)) (fun k => ?_) (Ev.now _)
      simp only [impl_hyper.l0]
      rw [if_neg (by omega), List.take_of_length_le (by omega)]
    | succ d ih =>
      intro i hi
      have hil : i < l.length := by omega
      have hb := hy_bd (hl.take i)
      have hb2 := hy_bd (hl.take (i + 1))
      rw [hy_take _ _ hil] at hb2
      refine Ev.step (f := fun k => (impl_lcm.f k ((hy (l.take i) : Nat) : Int) ((l[i].f2.toNat : Nat) : Int)).bind fun t => impl_hyper.l0 k t l (l.length : Int) ((i : Int) + 1)) (fun k => ?_) ?_
      · simp only [impl_hyper.l0]
        rw [if_pos (by omega), if_pos (by omega), if_pos (by omega), rdT_at l i hil, ← pnat hl i hil, w64 (by omega) (by omega)]
      · refine Ev.bind (lcm_ev hb.1 hb.2 hb2.2) ?_
        rw [← hy_take _ _ hil]
        exact ih (i + 1) (by omega)
  exact loop l.length 0 (by omega)
theorem shyper_ev {l : List Task} (hs : SetOk l) : Ev (fun k => spec_l1Hyper.f k l) ((hy l : Nat) : Int) := by
  have hl := hs.all
  have hlen := hs.1
  have loop : ∀ d i, i + d = l.length → Ev (fun k => spec_l1Hyper.l0 k l ((hy (l.take i) : Nat) : Int) (i : Int)) ((hy l : Nat) : Int) := by
    intro d
    induction d with
    | zero =>
      intro i hi
      refine Ev.step (f := fun _ => some ((hy l : Nat) : Int)) (fun k => ?_) (Ev.now _)
      simp only [spec_l1Hyper.l0]
      rw [if_neg (by omega), List.take_of_length_le (by omega)]
    | succ d ih =>
      intro i hi
      have hil : i < l.length := by omega
      have hb := hy_bd (hl.take i)
      have hb2 := hy_bd (hl.take (i + 1))
      rw [hy_take _ _ hil] at hb2
      have hv := lcm_val hb.1 hb.2 hb2.2
      refine Ev.step (f := fun k => (spec_l1Gcd.f k ((hy (l.take i) : Nat) : Int) ((l[i].f2.toNat : Nat) : Int)).bind fun t => if t = 0 then none else spec_l1Hyper.l0 k l (wrap64 (wrap64 (Int.tdiv ((hy (l.take i) : Nat) : Int) t) * ((l[i].f2.toNat : Nat) : Int))) ((i : Int) + 1)) (fun k => ?_) ?_
      · simp only [spec_l1Hyper.l0]
        rw [if_pos (by omega), if_pos (by omega), rdT_at l i hil, ← pnat hl i hil, w64 (x := (i : Int) + 1) (by omega) (by omega)]
      · refine Ev.bind (sgcd_ev _ _) ?_
        simp only [if_neg hv.1, hv.2, ← hy_take _ _ hil]
        exact ih (i + 1) (by omega)
  exact loop l.length 0 (by omega)
theorem wk1_bd {l : List Task} (hs : SetOk l) : ∀ t ∈ l, 0 ≤ (hy l : Int) / t.f2 ∧ (hy l : Int) / t.f2 ≤ 27720 ∧ 0 ≤ (hy l : Int) / t.f2 * t.f0 ∧ (hy l : Int) / t.f2 * t.f0 ≤ 221760 := by
  intro t ht
  have hb := hy_bd hs.all
  have := hs.2 t ht
  unfold TVt TV at this
  have h1 := Int.ediv_nonneg (show 0 ≤ (hy l : Int) by omega) (show 0 ≤ t.f2 by omega)
  have h2 := Int.ediv_le_self t.f2 (show 0 ≤ (hy l : Int) by omega)
  have h3 := mul_bd (a := (hy l : Int) / t.f2) (b := t.f0) (A := 27720) (B := 8) h1 (by omega) (by omega) (by omega)
  omega
theorem load_ev {l : List Task} (hs : SetOk l) : Ev (fun k => impl_load.f k l) (ld l) := by
  have hl := hs.all
  have hlen := hs.1
  have hb := hy_bd hl
  have h1 := wk1_bd hs
  have loop : ∀ d i, i + d = l.length → Ev (fun k => impl_load.l0 k (hy l : Int) (sm (fun t => (hy l : Int) / t.f2 * t.f0) (l.take i)) l (l.length : Int) (i : Int)) (ld l) := by
    intro d
    induction d with
    | zero =>
      intro i hi
      refine Ev.step (f := fun _ => some (ld l)) (fun k => ?_) (Ev.now _)
      simp only [impl_load.l0]
      rw [if_neg (by omega), List.take_of_length_le (by omega)]
      rfl
    | succ d ih =>
      intro i hi
      have hil : i < l.length := by omega
      have hi1 := h1 _ (List.getElem_mem hil)
      have hv := hl _ (List.getElem_mem hil)
      unfold TVt TV at hv
      have ht := take_bd (fun t => (hy l : Int) / t.f2 * t.f0) l 221760 (fun a ha => by have := h1 a ha; exact ⟨this.2.2.1, this.2.2.2⟩) i (by omega)
      have IH := ih (i + 1) (by omega)
      rw [sm_take _ _ _ hil] at IH
      refine Ev.step (fun k => ?_) IH
      simp only [impl_load.l0]
      rw [if_pos (by omega), if_pos (by omega), if_pos (by omega), rdT_at l i hil, if_neg (by omega), tdiv_pos (by omega), w64 (x := (hy l : Int) / l[i].f2) (by omega) (by omega), w64 (x := (hy l : Int) / l[i].f2 * l[i].f0) (by omega) (by omega), w64 (x := (i : Int) + 1) (by omega) (by omega), w64 (by omega) (by omega)]
      rfl
  unfold impl_load.f
  exact Ev.bind (hyper_ev hs) (loop l.length 0 (by omega))
/-- The utilization in lowest terms. -/
def ut (l : List Task) : Int × Int := (ld l / (Nat.gcd (hy l) (ld l).toNat : Nat), (hy l : Int) / (Nat.gcd (hy l) (ld l).toNat : Nat))
theorem ut_mul {l : List Task} (hs : SetOk l) : ∃ g : Int, 1 ≤ g ∧ ld l = (ut l).1 * g ∧ (hy l : Int) = (ut l).2 * g ∧ 0 ≤ (ut l).1 ∧ (ut l).1 ≤ 1108800 ∧ 1 ≤ (ut l).2 ∧ (ut l).2 ≤ 27720 := by
  have hb := hy_bd hs.all
  have hd := ld_bd hs
  have hg : 0 < Nat.gcd (hy l) (ld l).toNat := Nat.gcd_pos_of_pos_left _ hb.1
  obtain ⟨a, ha⟩ := Nat.gcd_dvd_left (hy l) (ld l).toNat
  obtain ⟨b, hb2⟩ := Nat.gcd_dvd_right (hy l) (ld l).toNat
  unfold ut
  generalize Nat.gcd (hy l) (ld l).toNat = g at *
  have e1 : (hy l : Int) = (g : Int) * (a : Int) := by rw [← Int.natCast_mul, ← ha]
  have e2 : ld l = (g : Int) * (b : Int) := by rw [← Int.natCast_mul, ← hb2]; omega
  have a1 : 1 ≤ a := by
    rcases Nat.eq_zero_or_pos a with rfl | h
    · simp at ha; omega
    · exact h
  have a2 : a ≤ hy l := by rw [ha]; exact Nat.le_mul_of_pos_left _ hg
  have b2 : b ≤ (ld l).toNat := by rw [hb2]; exact Nat.le_mul_of_pos_left _ hg
  refine ⟨g, by omega, ?_⟩
  simp only
  rw [e1, e2, Int.mul_ediv_cancel_left _ (by omega), Int.mul_ediv_cancel_left _ (by omega)]
  refine ⟨Int.mul_comm _ _, Int.mul_comm _ _, by omega, by omega, by omega, by omega⟩
theorem ut_scale {l : List Task} (hs : SetOk l) (b p : Int) : (ut l).1 * p ≤ b * (ut l).2 ↔ ld l * p ≤ b * hy l := by
  obtain ⟨g, hg, e1, e2, _⟩ := ut_mul hs
  rw [e1, e2, ← Int.mul_assoc, Int.mul_assoc _ g p, Int.mul_comm g p, ← Int.mul_assoc]
  exact ⟨fun h => Int.mul_le_mul_of_nonneg_right h (by omega), fun h => Int.le_of_mul_le_mul_right h (by omega)⟩
theorem sutil_ev {l : List Task} (hs : SetOk l) : Ev (fun k => spec_Utilization.f k l) (ut l) := by
  have hl := hs.all
  have hlen := hs.1
  have hb := hy_bd hl
  have hd := ld_bd hs
  have h1 := wk1_bd hs
  obtain ⟨g, hg1, hg2, hg3, hg4, hg5, hg6, hg7⟩ := ut_mul hs
  have hg : 0 < Nat.gcd (hy l) (ld l).toNat := Nat.gcd_pos_of_pos_left _ hb.1
  have loop : ∀ d i, i + d = l.length → Ev (fun k => spec_Utilization.l0 k l (hy l : Int) (sm (fun t => (hy l : Int) / t.f2 * t.f0) (l.take i)) (i : Int)) (ut l) := by
    intro d
    induction d with
    | zero =>
      intro i hi
      refine Ev.step (f := fun k => (spec_l1Gcd.f k (hy l : Int) (((ld l).toNat : Nat) : Int)).bind fun t => if t = 0 then none else some (wrap64 (Int.tdiv (ld l) t), wrap64 (Int.tdiv (hy l : Int) t))) (fun k => ?_) ?_
      · simp only [spec_Utilization.l0]
        rw [if_neg (by omega), List.take_of_length_le (by omega), Int.toNat_of_nonneg hd.1]
        rfl
      · refine Ev.bind (sgcd_ev _ _) ?_
        rw [if_neg (by omega), tdiv_pos hd.1, tdiv_pos (by omega)]
        have e : (wrap64 (ld l / (Nat.gcd (hy l) (ld l).toNat : Nat)), wrap64 ((hy l : Int) / (Nat.gcd (hy l) (ld l).toNat : Nat))) = ut l := by
          show (wrap64 (ut l).1, wrap64 (ut l).2) = ut l
          rw [w64 (by omega) (by omega), w64 (by omega) (by omega)]
        rw [e]
        exact Ev.now _
    | succ d ih =>
      intro i hi
      have hil : i < l.length := by omega
      have hi1 := h1 _ (List.getElem_mem hil)
      have hv := hl _ (List.getElem_mem hil)
      unfold TVt TV at hv
      have ht := take_bd (fun t => (hy l : Int) / t.f2 * t.f0) l 221760 (fun a ha => by have := h1 a ha; exact ⟨this.2.2.1, this.2.2.2⟩) i (by omega)
      have IH := ih (i + 1) (by omega)
      rw [sm_take _ _ _ hil] at IH
      refine Ev.step (fun k => ?_) IH
      simp only [spec_Utilization.l0]
      rw [if_pos (by omega), if_pos (by omega), rdT_at l i hil, if_neg (by omega), tdiv_pos (by omega), w64 (x := (hy l : Int) / l[i].f2) (by omega) (by omega), Int.mul_comm l[i].f0, w64 (x := (hy l : Int) / l[i].f2 * l[i].f0) (by omega) (by omega), w64 (x := (i : Int) + 1) (by omega) (by omega), w64 (by omega) (by omega)]
      rfl
  unfold spec_Utilization.f
  refine Ev.bind (sset_ev l (by omega)) ?_
  simp only [decide_eq_true hs, if_true]
  exact Ev.bind (shyper_ev hs) (loop l.length 0 (by omega))
theorem dm_take_bd {l : List Task} (hs : SetOk l) {t : Int} (h0 : 0 ≤ t) (i : Nat) (hi : i ≤ l.length) : 0 ≤ sm (d1 t) (l.take i) ∧ sm (d1 t) (l.take i) ≤ i * (8 * (t + 1)) :=
  take_bd _ l _ (fun a ha => d1_bd (hs.2 a ha) h0) i hi
theorem d1_val {x : Task} (hx : TVt x) {t : Int} (h0 : 0 ≤ t) (h1 : t ≤ 100000) (h : t ≥ x.f1) : x.f2 ≠ 0 ∧ wrap64 (wrap64 (wrap64 (Int.tdiv (wrap64 (t - x.f1)) x.f2) + 1) * x.f0) = d1 t x := by
  have hb := d1_bd hx h0
  unfold TVt TV at hx
  unfold d1 at hb ⊢
  rw [if_pos h] at hb ⊢
  have h2 := Int.ediv_nonneg (show 0 ≤ t - x.f1 by omega) (show 0 ≤ x.f2 by omega)
  have h3 := Int.ediv_le_self x.f2 (show 0 ≤ t - x.f1 by omega)
  refine ⟨by omega, ?_⟩
  rw [w64 (x := t - x.f1) (by omega) (by omega), tdiv_pos (by omega), w64 (x := (t - x.f1) / x.f2) (by omega) (by omega), w64 (x := (t - x.f1) / x.f2 + 1) (by omega) (by omega), w64 (by omega) (by omega)]
theorem demand_ev {l : List Task} (hs : SetOk l) {t : Int} (h0 : 0 ≤ t) (h1 : t ≤ 100000) : Ev (fun k => impl_demand.f k l t) (dm l t) := by
  have hlen := hs.1
  have loop : ∀ d i, i + d = l.length → Ev (fun k => impl_demand.l0 k t (sm (d1 t) (l.take i)) l (l.length : Int) (i : Int)) (dm l t) := by
    intro d
    induction d with
    | zero =>
      intro i hi
      refine Ev.step (f := fun _ => some (dm l t)) (fun k => ?_) (Ev.now _)
      simp only [impl_demand.l0]
      rw [if_neg (by omega), List.take_of_length_le (by omega)]
      rfl
    | succ d ih =>
      intro i hi
      have hil : i < l.length := by omega
      have hv := hs.2 _ (List.getElem_mem hil)
      have hb := d1_bd hv h0
      have ht := dm_take_bd hs h0 i (by omega)
      have hm : (i : Int) * (8 * (t + 1)) ≤ 5 * (8 * (t + 1)) := Int.mul_le_mul_of_nonneg_right (by omega) (by omega)
      have IH := ih (i + 1) (by omega)
      rw [sm_take _ _ _ hil] at IH
      refine Ev.step (fun k => ?_) IH
      simp only [impl_demand.l0]
      rw [if_pos (by omega), if_pos (by omega), if_pos (by omega), rdT_at l i hil, w64 (x := (i : Int) + 1) (by omega) (by omega)]
      by_cases h : t ≥ l[i].f1
      · have := d1_val hv h0 h1 h
        rw [if_pos h, if_neg this.1, this.2, w64 (by omega) (by omega)]
        rfl
      · have e : d1 t l[i] = 0 := if_neg h
        rw [if_neg h, e, Int.add_zero]
        rfl
  exact loop l.length 0 (by omega)
theorem sdemand_ev {l : List Task} (hs : SetOk l) {t : Int} (h0 : 0 ≤ t) (h1 : t ≤ 100000) : Ev (fun k => spec_l2Demand.f k l t) (dm l t) := by
  have hlen := hs.1
  have loop : ∀ d i, i + d = l.length → Ev (fun k => spec_l2Demand.l0 k l t (sm (d1 t) (l.take i)) (i : Int)) (dm l t) := by
    intro d
    induction d with
    | zero =>
      intro i hi
      refine Ev.step (f := fun _ => some (dm l t)) (fun k => ?_) (Ev.now _)
      simp only [spec_l2Demand.l0]
      rw [if_neg (by omega), List.take_of_length_le (by omega)]
      rfl
    | succ d ih =>
      intro i hi
      have hil : i < l.length := by omega
      have hv := hs.2 _ (List.getElem_mem hil)
      have hb := d1_bd hv h0
      have ht := dm_take_bd hs h0 i (by omega)
      have hm : (i : Int) * (8 * (t + 1)) ≤ 5 * (8 * (t + 1)) := Int.mul_le_mul_of_nonneg_right (by omega) (by omega)
      have IH := ih (i + 1) (by omega)
      rw [sm_take _ _ _ hil] at IH
      refine Ev.step (fun k => ?_) IH
      simp only [spec_l2Demand.l0]
      rw [if_pos (by omega), if_pos (by omega), rdT_at l i hil, w64 (x := (i : Int) + 1) (by omega) (by omega)]
      by_cases h : t ≥ l[i].f1
      · have := d1_val hv h0 h1 h
        rw [if_pos h, if_neg this.1, this.2, w64 (by omega) (by omega)]
        rfl
      · have e : d1 t l[i] = 0 := if_neg h
        rw [if_neg h, e, Int.add_zero]
        rfl
  exact loop l.length 0 (by omega)
end Go.Proofs.Ytgcjadhmkhpbnaa.Tm
/- Schedulability on a periodic resource, the smallest budget and the demand test of the program and of the reference are the plain ones. No condition. -/
namespace Go.Proofs.Ytgcjadhmkhpbnaa.Sf
open Go.RowKit Go.Proofs.Ytgcjadhmkhpbnaa.P Go.Proofs.Ytgcjadhmkhpbnaa.Base Go.Proofs.Ytgcjadhmkhpbnaa.Gen Go.Proofs.Ytgcjadhmkhpbnaa.Alive Go.Proofs.Ytgcjadhmkhpbnaa.Set Go.Proofs.Ytgcjadhmkhpbnaa.Tm Go.Proofs.Ytgcjadhmkhpbnaa.Sup Go.Proofs.Ytgcjadhmkhpbnaa.SupLaw Go.Proofs.YtgcjadhmkhpbnaaW.PrintWords Go.Proofs.YtgcjadhmkhpbnaaW.PrintLast
theorem prod_bd {l : List Task} (hs : SetOk l) {b p : Int} (hv : SV b p) : (0 ≤ ld l * p ∧ ld l * p ≤ 13305600) ∧ 0 ≤ b * hy l ∧ b * hy l ≤ 332640 := by
  unfold SV at hv
  have h1 := ld_bd hs
  have h2 := hy_bd hs.all
  have m1 := mul_bd (a := ld l) (b := p) (A := 1108800) (B := 12) h1.1 h1.2 (by omega) (by omega)
  have m2 := mul_bd (a := b) (b := (hy l : Int)) (A := 12) (B := 27720) (by omega) (by omega) (by omega) (by omega)
  omega
theorem lcm_small {l : List Task} (hl : AllV l) {pn : Nat} {b : Int} (hv : SV b (pn : Int)) : Nat.lcm (hy l) pn ≤ 27720 ∧ lim l (pn : Int) = (Nat.lcm (hy l) pn : Int) + 2 * (pn : Int) := by
  unfold SV at hv
  have h1 : Nat.lcm (hy l) pn ∣ 27720 := Nat.lcm_dvd (hy_small hl) (small_dvd (by omega) (by omega))
  refine ⟨Nat.le_of_dvd (by omega) h1, ?_⟩
  unfold lim
  rw [Int.toNat_natCast]
theorem impl_sf (l : List Task) (b p : Int) : Tot (fun k => impl_SupplyFeasible.f k l b p) (fun r => r = decide (SF l b p)) := by
  have bad : ¬ SF l b p → Tot (fun k => impl_SupplyFeasible.j0 k l true b p) (fun r => r = decide (SF l b p)) := fun h =>
    Tot.step (fun k => by rw [impl_SupplyFeasible.j0]) (Tot.yes rfl (Tot.ret _ (decide_eq_false h).symm))
  unfold impl_SupplyFeasible.f
  refine Tot.bind0 (set_f l) (Tot.ite (fun hs => ?_) (fun hs => bad (fun h => hs (decide_eq_true h.1))))
  have hs := of_decide_eq_true hs
  refine Tot.bind0 (sv_f b p) (Tot.ite (fun hv => ?_) (fun hv => bad (fun h => hv (decide_eq_true h.2.1))))
  have hv := of_decide_eq_true hv
  have hv' := hv
  unfold SV at hv'
  have hl := hs.all
  have hb := hy_bd hl
  have hp := prod_bd hs hv
  have hlm := lim_bd hl hv
  refine Tot.bind (Tot.val (load_ev hs)) ?_
  rintro _ rfl
  refine Tot.bind (Tot.val (hyper_ev hs)) ?_
  rintro _ rfl
  rw [w64 (x := ld l * p) (by omega) (by omega), w64 (x := b * hy l) (by omega) (by omega)]
  by_cases hu : ld l * p > b * hy l
  · rw [decide_eq_true hu]
    exact bad (fun h => by have := h.2.2.1; omega)
  · rw [decide_eq_false hu]
    refine Tot.step (fun k => by rw [impl_SupplyFeasible.j0]) (Tot.no (by simp) ?_)
    obtain ⟨pn, rfl⟩ : ∃ pn : Nat, p = (pn : Int) := ⟨p.toNat, by omega⟩
    have hlc := lcm_small hl hv
    have loop : ∀ (d : Nat) (t : Int), t + d = lim l (pn : Int) + 1 → 1 ≤ t → (∀ q : Int, 1 ≤ q → q < t → dm l q ≤ sb b pn q) → Tot (fun k => impl_SupplyFeasible.l0 k l t b (pn : Int)) (fun r => r = decide (SF l b pn)) := by
      intro d
      induction d with
      | zero =>
        intro t ht h1 hm
        refine Tot.step (fun k => by rw [impl_SupplyFeasible.l0]) ?_
        refine Tot.bind (Tot.val (hyper_ev hs)) ?_
        rintro _ rfl
        refine Tot.bind (Tot.val (lcm_ev hb.1 hb.2 hlc.1)) ?_
        rintro _ rfl
        rw [w64 (x := 2 * (pn : Int)) (by omega) (by omega), w64 (x := (Nat.lcm (hy l) pn : Int) + 2 * (pn : Int)) (by omega) (by omega)]
        refine Tot.no (by omega) (Tot.ret _ ?_)
        symm
        rw [decide_eq_true_iff]
        exact ⟨hs, hv, by omega, fun q q1 q2 => hm q q1 (by omega)⟩
      | succ d ih =>
        intro t ht h1 hm
        refine Tot.step (fun k => by rw [impl_SupplyFeasible.l0]) ?_
        refine Tot.bind (Tot.val (hyper_ev hs)) ?_
        rintro _ rfl
        refine Tot.bind (Tot.val (lcm_ev hb.1 hb.2 hlc.1)) ?_
        rintro _ rfl
        rw [w64 (x := 2 * (pn : Int)) (by omega) (by omega), w64 (x := (Nat.lcm (hy l) pn : Int) + 2 * (pn : Int)) (by omega) (by omega)]
        refine Tot.yes (by omega) ?_
        refine Tot.bind (Tot.val (demand_ev hs (t := t) (by omega) (by omega))) ?_
        rintro _ rfl
        refine Tot.bind0 (bound_f hv (by omega) (by omega)) ?_
        refine Tot.ite (fun hg => Tot.ret _ ?_) (fun hg => ?_)
        · symm
          rw [decide_eq_false_iff_not]
          intro h
          have := h.2.2.2 t h1 (by omega)
          omega
        · rw [w64 (x := t + 1) (by omega) (by omega)]
          refine ih (t + 1) (by omega) (by omega) (fun q q1 q2 => ?_)
          by_cases e : q = t
          · subst e; omega
          · exact hm q q1 (by omega)
    exact loop (lim l (pn : Int)).toNat 1 (by omega) (by omega) (fun q _ _ => by omega)
theorem spec_sf (l : List Task) (b p : Int) (hlen : l.length ≤ 2097152) : Tot (fun k => spec_SupplyFeasible.f k l b p) (fun r => r = decide (SF l b p)) := by
  have bad : ¬ SF l b p → Tot (fun k => spec_SupplyFeasible.j0 k l true b p) (fun r => r = decide (SF l b p)) := fun h =>
    Tot.step (fun k => by rw [spec_SupplyFeasible.j0]) (Tot.yes rfl (Tot.ret _ (decide_eq_false h).symm))
  unfold spec_SupplyFeasible.f
  refine Tot.bind (Tot.val (sset_ev l hlen)) ?_
  rintro _ rfl
  refine Tot.ite (fun hs => ?_) (fun hs => bad (fun h => hs (decide_eq_true h.1)))
  have hs := of_decide_eq_true hs
  refine Tot.bind0 (ssv_f b p) ?_
  by_cases hv : SV b p
  · rw [decide_eq_true hv]
    have hv' := hv
    unfold SV at hv'
    have hl := hs.all
    have hb := hy_bd hl
    have hp := prod_bd hs hv
    have hlm := lim_bd hl hv
    obtain ⟨g, hg1, hg2, hg3, hg4, hg5, hg6, hg7⟩ := ut_mul hs
    have m1 := mul_bd (a := (ut l).1) (b := p) (A := 1108800) (B := 12) hg4 hg5 (by omega) (by omega)
    have m2 := mul_bd (a := b) (b := (ut l).2) (A := 12) (B := 27720) (by omega) (by omega) (by omega) (by omega)
    refine Tot.step (fun k => by rw [spec_SupplyFeasible.j0]) (Tot.no (by simp) ?_)
    refine Tot.bind (Tot.val (shyper_ev hs)) ?_
    rintro _ rfl
    refine Tot.bind (Tot.val (sutil_ev hs)) ?_
    rintro _ rfl
    rw [w64 (x := (ut l).1 * p) (by omega) (by omega), w64 (x := b * (ut l).2) (by omega) (by omega)]
    have hsc := ut_scale hs b p
    refine Tot.ite (fun hu => Tot.ret _ ?_) (fun hu => ?_)
    · symm
      rw [decide_eq_false_iff_not]
      intro h
      have := hsc.2 h.2.2.1
      omega
    · have hu2 := hsc.1 (by omega)
      obtain ⟨pn, rfl⟩ : ∃ pn : Nat, p = (pn : Int) := ⟨p.toNat, by omega⟩
      have hlc := lcm_small hl hv
      have e1 : wrap64 (2 * (pn : Int)) = 2 * (pn : Int) := w64 (by omega) (by omega)
      have e2 : wrap64 ((Nat.lcm (hy l) pn : Int) + 2 * (pn : Int)) = lim l (pn : Int) := by
        rw [← hlc.2]
        exact w64 (by omega) (by omega)
      have hlv := lcm_val hb.1 hb.2 hlc.1
      refine Tot.bind (Tot.val (sgcd_ev _ _)) ?_
      rintro _ rfl
      refine Tot.no hlv.1 ?_
      rw [hlv.2, e1, e2]
      clear hlv e1 e2 hsc m1 m2 hu hg2 hg3
      have loop : ∀ (d : Nat) (t : Int), t + d = lim l (pn : Int) + 1 → 1 ≤ t → (∀ q : Int, 1 ≤ q → q < t → dm l q ≤ sb b pn q) → Tot (fun k => spec_SupplyFeasible.l0 k l (lim l (pn : Int)) t b (pn : Int)) (fun r => r = decide (SF l b pn)) := by
        intro d
        induction d with
        | zero =>
          intro t ht h1 hm
          refine Tot.step (fun k => by rw [spec_SupplyFeasible.l0]) ?_
          refine Tot.no (by omega) (Tot.ret _ ?_)
          symm
          rw [decide_eq_true_iff]
          exact ⟨hs, hv, by omega, fun q q1 q2 => hm q q1 (by omega)⟩
        | succ d ih =>
          intro t ht h1 hm
          refine Tot.step (fun k => by rw [spec_SupplyFeasible.l0]) ?_
          refine Tot.yes (by omega) ?_
          refine Tot.bind (Tot.val (sdemand_ev hs (t := t) (by omega) (by omega))) ?_
          rintro _ rfl
          refine Tot.bind0 (sbound_f hv (by omega) (by omega)) ?_
          refine Tot.ite (fun hg => Tot.ret _ ?_) (fun hg => ?_)
          · symm
            rw [decide_eq_false_iff_not]
            intro h
            have := h.2.2.2 t h1 (by omega)
            omega
          · rw [w64 (x := t + 1) (by omega) (by omega)]
            refine ih (t + 1) (by omega) (by omega) (fun q q1 q2 => ?_)
            by_cases e : q = t
            · subst e; omega
            · exact hm q q1 (by omega)
      exact loop (lim l (pn : Int)).toNat 1 (by omega) (by omega) (fun q _ _ => by omega)
  · rw [decide_eq_false hv]
    exact bad (fun h => hv h.2.1)
theorem edf_tot (l : List Task) : Tot (fun k => impl_EdfFeasible.f k l) (fun r => r = decide (Edf l)) := by
  unfold impl_EdfFeasible.f
  refine Tot.bind0 (set_f l) (Tot.ite (fun hs => ?_) (fun hs => Tot.ret _ (decide_eq_false (fun h : Edf l => hs (decide_eq_true h.1))).symm))
  have hs' := hs
  have hs := of_decide_eq_true hs
  have hb := hy_bd hs.all
  refine Tot.bind (P := fun r => r = decide (Edf l)) ?_ (fun _ h => Tot.ret _ h)
  unfold impl_feasible.f
  refine Tot.bind (P := fun r => decide (r < 0) = decide (Edf l)) ?_ (fun _ h => Tot.ret _ h)
  unfold impl_FirstOverload.f
  refine Tot.bind0 (set_f l) (Tot.yes hs' ?_)
  have loop : ∀ (d : Nat) (t : Int), t + d = hy l + 1 → 1 ≤ t → (∀ q : Int, 1 ≤ q → q < t → dm l q ≤ q) → Tot (fun k => impl_FirstOverload.l0 k l t) (fun r => decide (r < 0) = decide (Edf l)) := by
    intro d
    induction d with
    | zero =>
      intro t ht h1 hm
      refine Tot.step (fun k => by rw [impl_FirstOverload.l0]) ?_
      refine Tot.bind (Tot.val (hyper_ev hs)) ?_
      rintro _ rfl
      refine Tot.no (by omega) (Tot.ret _ ?_)
      rw [decide_eq_true (show (-1 : Int) < 0 by omega), eq_comm, decide_eq_true_iff]
      exact ⟨hs, fun q q1 q2 => hm q q1 (by omega)⟩
    | succ d ih =>
      intro t ht h1 hm
      refine Tot.step (fun k => by rw [impl_FirstOverload.l0]) ?_
      refine Tot.bind (Tot.val (hyper_ev hs)) ?_
      rintro _ rfl
      refine Tot.yes (by omega) ?_
      refine Tot.bind (Tot.val (demand_ev hs (t := t) (by omega) (by omega))) ?_
      rintro _ rfl
      refine Tot.ite (fun hg => Tot.ret _ ?_) (fun hg => ?_)
      · rw [decide_eq_false (show ¬ t < 0 by omega), eq_comm, decide_eq_false_iff_not]
        intro h
        have := h.2 t h1 (by omega)
        omega
      · rw [w64 (x := t + 1) (by omega) (by omega)]
        refine ih (t + 1) (by omega) (by omega) (fun q q1 q2 => ?_)
        by_cases e : q = t
        · subst e; omega
        · exact hm q q1 (by omega)
  exact loop (hy l) 1 (by omega) (by omega) (fun q _ _ => by omega)
end Go.Proofs.Ytgcjadhmkhpbnaa.Sf
/- A partial resource schedules no more than a full one. No condition. -/
namespace Go.Proofs.Ytgcjadhmkhpbnaa.Pure
open Go.RowKit Go.Proofs.Ytgcjadhmkhpbnaa.P Go.Proofs.Ytgcjadhmkhpbnaa.Base Go.Proofs.Ytgcjadhmkhpbnaa.Gen Go.Proofs.YtgcjadhmkhpbnaaW.PrintWords Go.Proofs.YtgcjadhmkhpbnaaW.PrintLast
open Go.Proofs.Ytgcjadhmkhpbnaa.Pb Go.Proofs.Ytgcjadhmkhpbnaa.Alive Go.Proofs.Ytgcjadhmkhpbnaa.DrSet Go.Proofs.Ytgcjadhmkhpbnaa.DrSup Go.Proofs.Ytgcjadhmkhpbnaa.Sf Go.Proofs.Ytgcjadhmkhpbnaa.Set Go.Proofs.Ytgcjadhmkhpbnaa.Tm Go.Proofs.Ytgcjadhmkhpbnaa.Sup

theorem FnSupplyFeasible : laws_FnSupplyFeasible.Pure := by
  intro l0 _ hl
  apply Tot.rounds
  unfold laws_FnSupplyFeasible.f
  refine Tot.ite (fun _ => Tot.ret _ rfl) (fun _ => ?_)
  refine Tot.bind (P := fun r => r.1.length ≤ 20 ∧ -100 ≤ r.2.1 ∧ r.2.1 ≤ 100) ?_ ?_
  · unfold spec_DrawSupplyFeasible.f
    refine open_tot l0 hl.2 (fun s hs => ?_)
    refine Tot.bind (set_tot s 0 12 hs (by omega) (by omega)) ?_
    rintro ⟨x, q⟩ ⟨h1, h2, h3⟩
    simp only at h1 h2 h3 ⊢
    refine Tot.bind (supply_tot s q 12 hs (by omega) (by omega)) ?_
    rintro ⟨b, p, q2⟩ ⟨_, _, h4, h5, _⟩
    exact Tot.ret _ ⟨h1, h4, h5⟩
  rintro ⟨l, b, p⟩ ⟨hlen, hb0, hb1⟩
  simp only at hlen hb0 hb1 ⊢
  refine Tot.bind (impl_sf l b p) ?_
  rintro _ rfl
  refine Tot.bind (spec_sf l b p (by omega)) ?_
  rintro _ rfl
  refine Tot.no (by simp) ?_
  refine Tot.bind (impl_sf l 1 1) ?_
  rintro _ rfl
  refine Tot.bind (edf_tot l) ?_
  rintro _ rfl
  refine Tot.no (by rw [show decide (SF l 1 1) = decide (Edf l) from decide_eq_decide.2 (sf_one l)]; simp) ?_
  refine Tot.ite (fun h => ?_) (fun _ => Tot.bind0 alive_f (Tot.ret _ rfl))
  have h := of_decide_eq_true h
  refine Tot.bind (edf_tot l) ?_
  rintro _ rfl
  refine Tot.yes (decide_eq_true (sf_edf h)) (Tot.ite (fun _ => Tot.ret _ rfl) (fun hne => ?_))
  have hv := h.2.1
  unfold SV at hv
  rw [w64 (x := b + 1) (by omega) (by omega)]
  refine Tot.bind (impl_sf l (b + 1) p) ?_
  rintro _ rfl
  exact Tot.ret _ (decide_eq_true (sf_succ h (by omega)))
end Go.Proofs.Ytgcjadhmkhpbnaa.Pure
/- Arguments of a law laid open: whatever reads as data of a type reads as a value of its kind.
   No condition. -/
namespace Go.Proofs.Ytgcjadhmkhpbnaa.Opn
open Go.ChangeShapes Go.WideShapes Go.Deep Go.RowKit Go.Proofs.YtgcjadhmkhpbnaaW.PrintWords
section
variable {H : Type} {enc : TypeId × Value → H} {P : Program} {W : World} {base : Nat} {spare : Nat → Bool} {held : Bool}

/-- Whatever reads as data of type t reads as a value of the kind d that is good. -/
def Opens {α : Type} (enc : TypeId × Value → H) (P : Program) (W : World) (base : Nat) (spare : Nat → Bool) (held : Bool) (t : TypeId) (d : Kd α) (G : α → Prop) : Prop :=
  ∀ (fuel : Nat) (cs : List Value) (x : DataW H × List MemPlace), DataW.trod enc P W base spare held fuel t cs = some x → ∃ a, d.K W a cs ∧ G a

theorem opens_int {t : TypeId} {k : IntKind} (hu : P.underlying t = some (.int k)) : Opens enc P W base spare held t (Kd.int k) (fun x => (Lit.int k x).wf = true) := by
  intro fuel cs x h
  obtain ⟨n, hc, _, hw⟩ := DataW.trod_int hu h
  exact ⟨n, hc, hw⟩
theorem list_of {α : Type} (m : Nat) (R : Nat → α → Prop) (h : ∀ i, i < m → ∃ a, R i a) : ∃ xs : List α, xs.length = m ∧ ∀ i a, xs[i]? = some a → R i a := by
  induction m with
  | zero => exact ⟨[], rfl, fun i a ha => by simp at ha⟩
  | succ m ih =>
    obtain ⟨xs, hl, hx⟩ := ih (fun i hi => h i (by omega))
    obtain ⟨a, ha⟩ := h m (by omega)
    refine ⟨xs ++ [a], by simp [hl], fun i b hb => ?_⟩
    rcases Nat.lt_or_ge i m with hi | hi
    · rw [List.getElem?_append_left (by omega)] at hb
      exact hx i b hb
    · have hi' : i = m := by
        have := (List.getElem?_eq_some_iff.1 hb).1
        simp at this
        omega
      subst hi'
      have : a = b := by simpa [hl] using hb
      subst this
      exact ha

/-- A slice of what opens. -/
theorem slice_row {α : Type} {t e : TypeId} {d : Kd α} {G : α → Prop} (hu : P.underlying t = some (.slice e)) (hC : P.cellsOf e = d.sz) (he : Opens enc P W base spare held e d G)
    {fuel : Nat} {A : Option Addr} {n cap : Nat} {x : DataW H × List MemPlace} (h : DataW.trod enc P W base spare held fuel t [.slice A n cap] = some x) :
    ∃ xs : List α, xs.length = n ∧ n ≤ cap ∧ n ≤ maxLen ∧ d.C W A xs.length xs ∧ ∀ y ∈ xs, G y := by
  rcases open_slice hu h with ⟨h0, _⟩ | ⟨a, len, c, m, k, D, Pl, hcs, _, hl, hm, hmm, _, hel⟩
  · simp only [List.cons.injEq, Value.slice.injEq, and_true] at h0
    obtain ⟨rfl, rfl, rfl⟩ := h0
    exact ⟨[], rfl, Nat.le_refl _, by simp [maxLen], Kd.C_nil d W, fun y hy => by simp at hy⟩
  · simp only [List.cons.injEq, Value.slice.injEq, and_true] at hcs
    obtain ⟨rfl, rfl, rfl⟩ := hcs
    have hle : n ≤ m := by rw [hmm]; split <;> omega
    obtain ⟨xs, hxl, hx⟩ := list_of (α := α) n (fun i y => G y ∧ ∃ cs', d.K W y cs' ∧ cs'.length = d.sz ∧ ∀ j, j < d.sz → W.cell? ((a.add (i * d.sz)).add j) = cs'[j]?) (by
      intro i hi
      obtain ⟨cs', hc, ht⟩ := hel i (by omega)
      obtain ⟨y, hK, hG⟩ := he _ _ _ ht
      rw [hC] at hc
      obtain ⟨_, hcl, hcc⟩ := World.cells?_some hc
      exact ⟨y, hG, cs', hK, hcl, hcc⟩)
    refine ⟨xs, hxl, hl, by omega, ⟨rfl, by simp only [maxLen] at hm; omega, fun hp => ⟨a, rfl, fun j p hj => ?_⟩⟩, fun y hy => ?_⟩
    · obtain ⟨_, cs', hK, hcl, hcc⟩ := hx j p hj
      refine ⟨cs', hcl, hK, fun i u hi => ?_⟩
      have hlt : i < d.sz := by
        have := (List.getElem?_eq_some_iff.1 hi).1
        omega
      rw [← Go.Deep.add_add, hcc i hlt, hi]
    · obtain ⟨i, hi, rfl⟩ := List.getElem_of_mem hy
      exact (hx i _ (List.getElem?_eq_getElem hi)).1
/-- The weight of a slice bounds its length. -/
theorem sized_row {t e : TypeId} {A : Option Addr} {n cap : Nat} {d : DataW H} {ps : List MemPlace} {ts : List TypeId} {ds : List (DataW H)} {j : Nat}
    (hsz : (DataW.weightsEach P ts ds).all (· ≤ reachBytes) = true) (ht : ts[j]? = some t) (hd : ds[j]? = some d) (hu : P.underlying t = some (.slice e)) {B : Nat} (hB : P.bytesOf e = B)
    (h : DataW.Trod enc P W base spare held t (.slice A n cap) d ps) : n * B ≤ 140737488351232 := by
  obtain ⟨fuel, hf⟩ := h
  have hf' : DataW.trod enc P W base spare held fuel t [.slice A n cap] = some (d, ps) := hf
  rcases open_slice hu hf' with ⟨h0, _⟩ | ⟨a, len, c, m, k, D, Pl, hcs, _, hl, hm, hmm, hx, hel⟩
  · simp only [List.cons.injEq, Value.slice.injEq, and_true] at h0
    obtain ⟨rfl, rfl, rfl⟩ := h0
    simp
  · simp only [List.cons.injEq, Value.slice.injEq, and_true] at hcs
    obtain ⟨rfl, rfl, rfl⟩ := hcs
    obtain ⟨hx, _⟩ := Prod.mk.inj hx
    subst hx
    have z := sized_slice hsz ht hd hu
    rw [hB] at z
    simp only [List.length_map, List.length_range] at z
    exact Nat.le_trans (Nat.mul_le_mul_right _ (by omega)) z
end
end Go.Proofs.Ytgcjadhmkhpbnaa.Opn
/- The head of the translation: a cut, with nothing lifted. No condition. -/
namespace Go.Proofs.Ytgcjadhmkhpbnaa.Head
open Go
def chars (l : List Nat) : List Char := l.map Char.ofNat
def w1 : List Nat := [104, 97, 114, 110, 101, 115, 115]
def w2 : List Nat := [54, 102, 101, 50, 53, 100, 57, 100, 52, 50, 55, 97, 97, 101, 99, 51, 100, 53, 100, 51, 97, 48, 97, 53, 53, 52, 57, 48, 98, 99, 48, 53, 50, 56, 49, 100, 53, 54, 98, 98, 54, 50, 100, 99, 53, 98, 50, 50, 56, 49, 50, 49, 49, 102, 98, 52, 52, 53, 101, 55, 98, 54, 51, 54]
def w3 : List Nat := [99, 117, 116]
def w4 : List Nat := [97, 116, 32, 108, 111, 111, 112, 46, 101, 120, 97, 109, 112, 108, 101, 47, 100, 101, 97, 100, 108, 105, 110, 101, 115, 99, 104, 101, 100, 117, 108, 101, 114, 47, 108, 97, 119, 115, 46, 70, 110, 69, 120, 97, 99, 116, 72, 97, 114, 109, 111, 110, 105, 99, 32, 108, 111, 111, 112, 46, 101, 120, 97, 109, 112, 108, 101, 47, 100, 101, 97, 100, 108, 105, 110, 101, 115, 99, 104, 101, 100, 117, 108, 101, 114, 47, 108, 97, 119, 115, 46, 70, 110, 69, 120, 97, 99, 116, 72, 121, 112, 101, 114, 98, 111, 108, 105, 99, 66, 111, 117, 110, 100, 32, 108, 111, 111, 112, 46, 101, 120, 97, 109, 112, 108, 101, 47, 100, 101, 97, 100, 108, 105, 110, 101, 115, 99, 104, 101, 100, 117, 108, 101, 114, 47, 108, 97, 119, 115, 46, 70, 110, 69, 120, 97, 99, 116, 66, 108, 111, 99, 107, 105, 110, 103, 84, 105, 109, 101, 32, 108, 111, 111, 112, 46, 101, 120, 97, 109, 112, 108, 101, 47, 100, 101, 97, 100, 108, 105, 110, 101, 115, 99, 104, 101, 100, 117, 108, 101, 114, 47, 108, 97, 119, 115, 46, 70, 110, 66, 108, 111, 99, 107, 105, 110, 103, 84, 105, 109, 101, 32, 108, 111, 111, 112, 46, 101, 120, 97, 109, 112, 108, 101, 47, 100, 101, 97, 100, 108, 105, 110, 101, 115, 99, 104, 101, 100, 117, 108, 101, 114, 47, 108, 97, 119, 115, 46, 70, 110, 69, 120, 97, 99, 116, 78, 111, 110, 80, 114, 101, 101, 109, 112, 116, 105, 118, 101, 70, 101, 97, 115, 105, 98, 108, 101, 32, 108, 111, 111, 112, 46, 101, 120, 97, 109, 112, 108, 101, 47, 100, 101, 97, 100, 108, 105, 110, 101, 115, 99, 104, 101, 100, 117, 108, 101, 114, 47, 108, 97, 119, 115, 46, 70, 110, 69, 120, 97, 99, 116, 83, 117, 112, 112, 108, 121, 70, 101, 97, 115, 105, 98, 108, 101, 32, 108, 111, 111, 112, 46, 101, 120, 97, 109, 112, 108, 101, 47, 100, 101, 97, 100, 108, 105, 110, 101, 115, 99, 104, 101, 100, 117, 108, 101, 114, 47, 108, 97, 119, 115, 46, 70, 110, 69, 120, 97, 99, 116, 77, 105, 110, 66, 117, 100, 103, 101, 116, 32, 108, 111, 111, 112, 46, 101, 120, 97, 109, 112, 108, 101, 47, 100, 101, 97, 100, 108, 105, 110, 101, 115, 99, 104, 101, 100, 117, 108, 101, 114, 47, 108, 97, 119, 115, 46, 70, 110, 83, 117, 112, 112, 108, 121, 70, 101, 97, 115, 105, 98, 108, 101, 32, 108, 111, 111, 112, 46, 101, 120, 97, 109, 112, 108, 101, 47, 100, 101, 97, 100, 108, 105, 110, 101, 115, 99, 104, 101, 100, 117, 108, 101, 114, 47, 108, 97, 119, 115, 46, 70, 110, 77, 105, 110, 66, 117, 100, 103, 101, 116, 32, 108, 111, 111, 112, 46, 101, 120, 97, 109, 112, 108, 101, 47, 100, 101, 97, 100, 108, 105, 110, 101, 115, 99, 104, 101, 100, 117, 108, 101, 114, 47, 108, 97, 119, 115, 46, 70, 110, 72, 121, 112, 101, 114, 98, 111, 108, 105, 99, 32, 108, 111, 111, 112, 46, 101, 120, 97, 109, 112, 108, 101, 47, 100, 101, 97, 100, 108, 105, 110, 101, 115, 99, 104, 101, 100, 117, 108, 101, 114, 47, 108, 97, 119, 115, 46, 70, 110, 72, 97, 114, 109, 111, 110, 105, 99, 32, 108, 111, 111, 112, 46, 101, 120, 97, 109, 112, 108, 101, 47, 100, 101, 97, 100, 108, 105, 110, 101, 115, 99, 104, 101, 100, 117, 108, 101, 114, 47, 108, 97, 119, 115, 46, 70, 110, 82, 97, 116, 101, 76, 111, 115, 101, 115]
theorem io_eq : Try.prog.initOrder = String.ofList (chars (w1 ++ 32 :: (w2 ++ 32 :: (w3 ++ 32 :: w4)))) := by kernel_rfl
theorem io_list : Try.prog.initOrder.toList = chars (w1 ++ 32 :: (w2 ++ 32 :: (w3 ++ 32 :: w4))) := by rw [io_eq, String.toList_ofList]
theorem ws_one (c : Char) (r w : List Char) (ws : List (List Char)) (hc : c ≠ Char.ofNat 32) (h : wordsSigns r = w :: ws) : wordsSigns (c :: r) = (c :: w) :: ws := by
  have e : wordsSigns (c :: r) = match wordsSigns r with
    | w :: ws => (c :: w) :: ws
    | [] => [[c]] := by
    rw [wordsSigns]
    · rfl
    · exact hc
  rw [e, h]
theorem ws_word (w : List Char) (h : ∀ c ∈ w, c ≠ Char.ofNat 32) (r : List Char) : wordsSigns (w ++ Char.ofNat 32 :: r) = w :: wordsSigns r := by
  induction w with
  | nil => rfl
  | cons c w ih => exact ws_one _ _ _ _ (h c (by simp)) (ih (fun x hx => h x (by simp [hx])))
theorem ws_nat (w r : List Nat) (h : w.all (fun n => !(Char.ofNat n == Char.ofNat 32)) = true) : wordsSigns (chars (w ++ 32 :: r)) = chars w :: wordsSigns (chars r) := by
  have e : chars (w ++ 32 :: r) = chars w ++ Char.ofNat 32 :: chars r := by simp [chars]
  rw [e]
  refine ws_word _ (fun c hc => ?_) _
  obtain ⟨n, hn, rfl⟩ := List.mem_map.1 hc
  have := List.all_eq_true.1 h n hn
  simpa using this
theorem io_words : behindMainWord (wordsSigns Try.prog.initOrder.toList) = chars w3 :: wordsSigns (chars w4) := by
  rw [io_list, ws_nat _ _ (by kernel_rfl), ws_nat _ _ (by kernel_rfl), ws_nat _ _ (by kernel_rfl)]
  generalize wordsSigns (chars w4) = R
  kernel_rfl
theorem make_gen (P : Program) (c : List Char) (R : List (List Char)) (h : behindMainWord (wordsSigns P.initOrder.toList) = c :: R) (h1 : (c == "gc".toList || c == "spec".toList) = false) (h2 : (c == "cut".toList) = true) : P.make = some .cut := by
  unfold Program.make
  rw [h]
  simp only [h1, h2, Bool.true_or, if_true, Bool.false_eq_true, if_false]
theorem make : Try.prog.make = some .cut := make_gen _ _ _ io_words (by kernel_rfl) (by kernel_rfl)
theorem enter_gen (P : Program) (c : List Char) (R : List (List Char)) (h : behindMainWord (wordsSigns P.initOrder.toList) = c :: R) (h1 : ∀ R, stripLifts liftWords (c :: R) = ([], c :: R)) (h2 : (some c == some "cut".toList) = true)
    (h3 : P.laysLater = false) (h4 : P.bearsReflect = false) (h5 : P.doorFits [] = true) : P.mayEnter = true := by
  unfold Program.mayEnter
  rw [h]
  simp only [h1, h2, h3, h4, h5, List.head?_cons, Bool.not_false, Bool.or_true, Bool.and_true, List.contains_nil]
theorem enter : Try.prog.mayEnter = true := enter_gen _ _ _ io_words (fun R => by kernel_rfl) (by kernel_rfl) (by kernel_rfl) (by kernel_rfl) (by kernel_rfl)
theorem lifts : Try.prog.liftsFinal = false := by
  unfold Program.liftsFinal Program.headLifts
  simp only [io_words]
  generalize wordsSigns (chars w4) = R
  kernel_rfl
end Go.Proofs.Ytgcjadhmkhpbnaa.Head
/- The law FnSupplyFeasible, proved: for every input the call returns true and each argument reads as it did. No condition. -/
namespace Go.Proofs.Ytgcjadhmkhpbnaa.fnSupplyFeasible
open Go.ChangeShapes Go.WideShapes Go.ChangeAt Go.RowKit Go.Proofs.YtgcjadhmkhpbnaaW.PrintWords Go.Proofs.Ytgcjadhmkhpbnaa.P
open Go.ChangeMaps (open_string shut_string)
theorem own : ownKnob Try.prog.godebug = none := by kernel_rfl
theorem laidOut : laidOutB Try.prog = true := by kernel_rfl
set_option maxRecDepth 100000 in
theorem lifted (os : Os) (started : os.Started) (H : Type) (enc : TypeId × Value → H) :
    ReturnsInHanded {} Try.checked os 10 .any (Rows.fnSupplyFeasibleSpec.pre6 enc Try.prog Try.f10 Rows.fnSupplyFeasibleRow.domain false) (Rows.fnSupplyFeasibleSpec.post enc Try.prog Try.f10 false true false false) := by
  refine returnsInHanded_of_change_sized (C := Try.checked) own started (by kernel_rfl) Try.func10
    (ChangeSpec.witness6 (enc := enc) (C := Try.checked) false ⟨#[], #[.slice none 0 0], []⟩ 8 (by kernel_rfl) (by kernel_rfl) (by kernel_rfl) (by kernel_rfl)) ?_
  intro W base args ds gs before hval0 hW hcnd hsz0 _
  have hsz : (DataW.weightsEach Try.prog (Try.f10.params.toList ++ Rows.fnSupplyFeasibleSpec.plain.varTypes Try.prog) (ds ++ gs)).all (· ≤ reachBytes) = true := hsz0
  have hval : ∀ (j : Nat) t v, Try.f10.params[j]? = some t → args[j]? = some v → Value.okWide Try.prog W .any base t v := hval0
  have hW' := hW
  obtain ⟨p, q, hA0, hV, rfl, hfz, hnd⟩ := hW
  have hA : DataW.TrodAll enc Try.prog W 0 (fun _ => true) true Try.f10.params.toList args.toList ds p := hA0
  rw [Try.params10] at hA hval hsz
  obtain ⟨v0, vs0, d0, ds0, p0, q0, hargs, rfl, rfl, h0, r0⟩ := trodAll_cons hA
  obtain ⟨rfl, rfl, rfl⟩ := trodAll_nil r0
  obtain rfl : args = #[v0] := by cases args; simp_all
  obtain ⟨rfl, rfl⟩ := trodVars_none hV
  have k0 := h0
  have lt0 : ∀ x ∈ p0, x.block < W.heap.size := by obtain ⟨m, hm⟩ := k0; exact DataW.trod_lt m _ _ _ hm
  obtain ⟨A0, n0, c0, rfl⟩ := okWide_slice Try.underlying34 (hval 0 34 v0 rfl rfl)
  have y0 : n0 * 1 ≤ 140737488351232 := Opn.sized_row hsz (j := 0) (t := 34) rfl rfl Try.underlying34 (by kernel_rfl) h0
  obtain ⟨l0, rfl, hc0, hm0, hr0, hg0⟩ : ∃ xs : List (Int), xs.length = n0 ∧ n0 ≤ c0 ∧ n0 ≤ maxLen ∧ Kd.C (Kd.int .u8) W A0 xs.length xs ∧ ∀ y0 ∈ xs, (Lit.int .u8 y0).wf = true := by
    obtain ⟨fuel, hf⟩ := h0
    exact Opn.slice_row Try.underlying34 (by kernel_rfl) (Opn.opens_int Try.underlying5) hf
  obtain ⟨k, hk⟩ := Pure.FnSupplyFeasible l0 y0 ⟨hm0, hg0⟩
  clear hA0 hval0 hsz0 hsz
  refine (laws_FnSupplyFeasible.calls k A0 c0 l0 true W hr0 hc0 hk).mono fun e W' ⟨he, hd⟩ => ?_
  have bel := hd
  subst he
  exact ⟨_, rfl, _, _, _, [], _, [], hW', trodAll_mk1 (shut_bool Try.underlying4 _), (trodAll_cons_mk (Below.trod laidOut (by kernel_rfl) (of_decide_eq_true (by kernel_rfl)) k0 bel lt0) trodAll_mk0), rfl, bel.frame _, fun h => by cases h⟩
theorem closed : joinedFacts Try.prog 10 Try.f10 Rows.fnSupplyFeasibleSpec Rows.fnSupplyFeasibleRow = true := by
  simp only [joinedFacts, Head.enter, Head.lifts, Head.make]
  kernel_rfl
theorem named : Try.prog.funcNamed Rows.fnSupplyFeasibleRow.func = some 10 := by kernel_rfl
theorem wrapped : Try.f10.isWrapper Try.prog Rows.fnSupplyFeasibleRow.wrapper Rows.fnSupplyFeasibleRow.mainSum := by unfold Func.isWrapper; first | (rw [if_pos (by decide +kernel)]; kernel_rfl) | (rw [if_neg (by decide +kernel)]; exact ⟨rfl, rfl⟩)
theorem over : Rows.fnSupplyFeasibleRow.holds Try.pinned (OpenSpec.ofChange Rows.fnSupplyFeasibleSpec) :=
  OpenClaim.holds_of_wide 10 Try.f10 rfl rfl rfl rfl rfl rfl rfl ⟨rfl, rfl, rfl, rfl, rfl⟩ rfl rfl rfl rfl rfl named Try.func10 closed
    (of_decide_eq_true (by kernel_rfl)) wrapped
    (fun os started H enc _ => lifted os started H enc)
theorem proved : Rows.FnSupplyFeasibleSaid := over
#print axioms proved
end Go.Proofs.Ytgcjadhmkhpbnaa.fnSupplyFeasible
namespace Go.Proofs.Ytgcjadhmkhpbnaa
/-- The row, under a short name, for the claim. -/
theorem fnSupplyFeasible_holds : Rows.FnSupplyFeasibleSaid := fnSupplyFeasible.proved
end Go.Proofs.Ytgcjadhmkhpbnaa
