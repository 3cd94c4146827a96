/- The law FnSupplyWorst for every input, part 3 of its proof: what the program's functions answer, and the plain law. No condition. -/
import Derived.Test.YtooabmmnbifclaaMFnSupplyWorst1
import Derived.Test.YtooabmmnbifclaaMFnSupplyWorst2
import Derived.Test.YtooabmmnbifclaaWWords
import Derived.SizedLaws
import Derived.ChangeSlices
import Derived.ChangeArms
import Derived.WideShapes
import Derived.Deep.Slices
import Derived.OpenShut
import Derived.Test.YtooabmmnbifclaaRows
import Derived.JoinedOf
import Derived.KernelRfl
import Derived.WalkKit
import Derived.ProofKit
import Derived.ShutString
import Derived.ChangeOld
import Derived.Below
/- How the supply bound grows. Conditions: a valid resource. -/
namespace Go.Proofs.Ytooabmmnbifclaa.SupLaw
open Go.RowKit Go.Proofs.Ytooabmmnbifclaa.Base Go.Proofs.Ytooabmmnbifclaa.Sup
theorem div_eq {x p q : Int} (hp : 1 ≤ p) (h1 : q * p ≤ x) (h2 : x < q * p + p) : x / p = q := by
  have e : x = q * p + (x - q * p) := by omega
  rw [e, Int.add_comm, Int.add_mul_ediv_right _ _ (by omega), Int.ediv_eq_zero_of_lt (by omega) (by omega)]
  omega
theorem sb_neg {b p t : Int} (h : t - (p - b) < 0) : sb b p t = 0 := by unfold sb; rw [if_pos h]
theorem sb_at {b p t k : Int} (hv : SV b p) (h1 : k * p ≤ t - (p - b)) (h2 : t - (p - b) < k * p + p) (hk : 0 ≤ k) : sb b p t = k * b + max 0 (min b (t - (p - b) - k * p - (p - b))) := by
  unfold SV at hv
  have hkp : 0 ≤ k * p := Int.mul_nonneg hk (by omega)
  unfold sb
  rw [if_neg (by omega), div_eq (by omega) h1 h2]
theorem sb_k {b p t : Int} (hv : SV b p) (h : 0 ≤ t - (p - b)) : ∃ k, 0 ≤ k ∧ k * p ≤ t - (p - b) ∧ t - (p - b) < k * p + p := by
  unfold SV at hv
  have hd := div_bd (x := t - (p - b)) (p := p) h (by omega)
  exact ⟨_, hd.1, hd.2.2.1, hd.2.2.2⟩
theorem sb_step {b p t : Int} (hv : SV b p) (ht : 0 ≤ t) : sb b p t ≤ sb b p (t + 1) ∧ sb b p (t + 1) ≤ sb b p t + 1 := by
  have hv' := hv
  unfold SV at hv'
  by_cases hx : t - (p - b) < 0
  · rw [sb_neg hx]
    by_cases hy : t + 1 - (p - b) < 0
    · rw [sb_neg hy]; omega
    · rw [sb_at (k := 0) hv (by omega) (by omega) (by omega)]
      omega
  · obtain ⟨k, hk, h1, h2⟩ := sb_k hv (t := t) (by omega)
    rw [sb_at hv h1 h2 hk]
    have e : (k + 1) * p = k * p + p := by rw [Int.add_mul, Int.one_mul]
    have e2 : (k + 1) * b = k * b + b := by rw [Int.add_mul, Int.one_mul]
    by_cases hr : t + 1 - (p - b) < k * p + p
    · rw [sb_at (k := k) hv (by omega) (by omega) hk]; omega
    · rw [sb_at (k := k + 1) hv (by omega) (by omega) (by omega), e, e2]; omega
theorem sb_period {b p t : Int} (hv : SV b p) (ht : p - b ≤ t) : sb b p (t + p) = sb b p t + b := by
  have hv' := hv
  unfold SV at hv'
  obtain ⟨k, hk, h1, h2⟩ := sb_k hv (t := t) (by omega)
  have e : (k + 1) * p = k * p + p := by rw [Int.add_mul, Int.one_mul]
  have e2 : (k + 1) * b = k * b + b := by rw [Int.add_mul, Int.one_mul]
  rw [sb_at hv h1 h2 hk, sb_at (k := k + 1) hv (by omega) (by omega) (by omega), e, e2]
  have e3 : t + p - (p - b) - (k * p + p) - (p - b) = t - (p - b) - k * p - (p - b) := by omega
  rw [e3]; omega
theorem sb_full {p t : Int} (hv : SV p p) (ht : 0 ≤ t) : sb p p t = t := by
  have hv' := hv
  unfold SV at hv'
  obtain ⟨k, hk, h1, h2⟩ := sb_k hv (t := t) (by omega)
  rw [sb_at hv h1 h2 hk]
  omega
theorem sb_zero {b p t : Int} (hv : SV b p) (ht : t ≤ 2 * (p - b)) : sb b p t = 0 := by
  have hv' := hv
  unfold SV at hv'
  by_cases hx : t - (p - b) < 0
  · exact sb_neg hx
  · rw [sb_at (k := 0) hv (by omega) (by omega) (by omega)]; omega
theorem sb_nonneg {b p t : Int} (hv : SV b p) : 0 ≤ sb b p t := by
  have hv' := hv
  unfold SV at hv'
  by_cases hx : t - (p - b) < 0
  · rw [sb_neg hx]; omega
  · obtain ⟨k, hk, h1, h2⟩ := sb_k hv (t := t) (by omega)
    have := Int.mul_nonneg hk (show 0 ≤ b by omega)
    rw [sb_at hv h1 h2 hk]; omega
theorem sb_mono {b p t : Int} (hv : SV b p) (ht : 0 ≤ t) (d : Nat) : sb b p t ≤ sb b p (t + d) := by
  induction d with
  | zero => simp
  | succ d ih =>
    have := (sb_step hv (t := t + d) (by omega)).1
    rw [show t + ((d + 1 : Nat) : Int) = t + d + 1 by push_cast; omega]
    omega
theorem sb_le {b p t : Int} (hv : SV b p) (ht : 0 ≤ t) : sb b p t ≤ t := by
  have hz : sb b p 0 = 0 := sb_zero hv (by unfold SV at hv; omega)
  obtain ⟨n, rfl⟩ := Int.eq_ofNat_of_zero_le ht
  clear ht
  induction n with
  | zero => simp [hz]
  | succ n ih =>
    have := (sb_step hv (t := (n : Int)) (by omega)).2
    rw [show (((n + 1 : Nat)) : Int) = n + 1 by push_cast; rfl]
    omega
end Go.Proofs.Ytooabmmnbifclaa.SupLaw
/- Supply patterns: PatternValid, of the program and of the reference, is one test. No condition. -/
namespace Go.Proofs.Ytooabmmnbifclaa.Pat
open Go.RowKit Go.Proofs.Ytooabmmnbifclaa.P Go.Proofs.Ytooabmmnbifclaa.Base Go.Proofs.Ytooabmmnbifclaa.Sup Go.Proofs.Ytooabmmnbifclaa.Gen Go.Proofs.YtooabmmnbifclaaW.PrintWords Go.Proofs.YtooabmmnbifclaaW.PrintLast
/-- How many of the n ticks from a on are supplied. -/
def cnt (l : List Bool) (a n : Nat) : Nat := ((l.drop a).take n).countP (fun b => b)
theorem cnt_zero (l : List Bool) (a : Nat) : cnt l a 0 = 0 := by simp [cnt]
theorem cnt_succ (l : List Bool) (a n : Nat) (h : a + n < l.length) : cnt l a (n + 1) = cnt l a n + if l[a + n] = true then 1 else 0 := by
  unfold cnt
  rw [List.take_succ_eq_append_getElem (by simp; omega), List.countP_append, List.getElem_drop]
  by_cases hb : l[a + n] = true <;> simp [hb]
theorem cnt_le (l : List Bool) (a n : Nat) : cnt l a n ≤ n := by
  unfold cnt
  exact Nat.le_trans (List.countP_le_length) (List.length_take_le _ _)
/-- From block q on each block that ends in time has b supplied ticks. -/
def rest (b p : Nat) (l : List Bool) (q : Nat) : Prop := ∀ j : Nat, q ≤ j → j < 121 → (j + 1) * p ≤ 120 → cnt l (j * p) p = b
instance (b p : Nat) (l : List Bool) (q : Nat) : Decidable (rest b p l q) := by
  unfold rest
  exact decidable_of_iff (∀ j : Nat, j < 121 → q ≤ j → (j + 1) * p ≤ 120 → cnt l (j * p) p = b) ⟨fun h j h1 h2 h3 => h j h2 h1 h3, fun h j h1 h2 h3 => h j h2 h1 h3⟩
theorem rest_no {b p : Nat} {l : List Bool} {q : Nat} (h : 120 < (q + 1) * p) : rest b p l q := by
  intro j h1 _ h3
  have : (q + 1) * p ≤ (j + 1) * p := Nat.mul_le_mul_right _ (by omega)
  omega
theorem rest_succ {b p : Nat} {l : List Bool} {q : Nat} (hp : 1 ≤ p) (h : (q + 1) * p ≤ 120) : rest b p l q ↔ cnt l (q * p) p = b ∧ rest b p l (q + 1) := by
  have hq : q < 121 := by
    have : (q + 1) * 1 ≤ (q + 1) * p := Nat.mul_le_mul_left _ hp
    omega
  constructor
  · intro hr
    exact ⟨hr q (Nat.le_refl q) hq h, fun j h1 h2 h3 => hr j (by omega) h2 h3⟩
  · rintro ⟨h1, h2⟩ j h3 h4 h5
    rcases Nat.lt_or_ge q j with hj | hj
    · exact h2 j (by omega) h4 h5
    · obtain rfl : j = q := by omega
      exact h1
section
variable (b p : Nat) (l : List Bool) (hl : l.length = 120) (hp : 1 ≤ p) (hp2 : p ≤ 12)
include hl hp hp2
theorem spec_l1 (q : Nat) (hq : (q + 1) * p ≤ 120) (R : Bool) (hR : cnt l (q * p) p = b → Ev (fun k => spec_PatternValid.l0 k l ((q : Int) * p + p) b p) R) (hN : cnt l (q * p) p ≠ b → R = false) :
    ∀ d (j : Nat), j + d = p → Ev (fun k => spec_PatternValid.l1 k l ((q : Int) * p) (cnt l (q * p) j : Int) (j : Int) b p) R := by
  have hqq : q * p + p ≤ 120 := by rw [← Nat.succ_mul]; exact hq
  have ec : ((q * p : Nat) : Int) = (q : Int) * p := by push_cast; rfl
  have hb0 : (0 : Int) ≤ (q : Int) * p := by omega
  intro d
  induction d with
  | zero =>
    intro j hj
    obtain rfl : j = p := by omega
    by_cases hc : cnt l (q * j) j = b
    · refine Ev.step (f := fun k => spec_PatternValid.l0 k l ((q : Int) * j + j) b j) (fun k => ?_) (hR hc)
      simp only [spec_PatternValid.l1]
      rw [if_neg (by omega), if_pos (by omega), w64 (by omega) (by omega)]
    · refine Ev.step (f := fun _ => some false) (fun k => ?_) (by rw [hN hc]; exact Ev.now _)
      simp only [spec_PatternValid.l1]
      rw [if_neg (by omega), if_neg (by omega)]
  | succ d ih =>
    intro j hj
    have hcl := cnt_le l (q * p) j
    have hs := cnt_succ l (q * p) j (by omega)
    refine Ev.step (f := fun k => spec_PatternValid.l1 k l ((q : Int) * p) (cnt l (q * p) (j + 1) : Int) ((j + 1 : Nat) : Int) b p) (fun k => ?_) (ih (j + 1) (by omega))
    simp only [spec_PatternValid.l1]
    rw [if_pos (by omega), w64 (x := (q : Int) * p + j) (by omega) (by omega), if_pos (by omega), if_pos (by omega)]
    rw [show (q : Int) * p + j = ((q * p + j : Nat) : Int) by push_cast; rfl, rdOf_at _ _ _ (by omega), w64 (x := (j : Int) + 1) (by omega) (by omega), w64 (x := (cnt l (q * p) j : Int) + 1) (by omega) (by omega)]
    by_cases hb : l[q * p + j] = true
    · rw [if_pos hb] at hs ⊢
      rw [hs]; push_cast; rfl
    · rw [if_neg hb] at hs ⊢
      rw [hs]; push_cast; rfl
theorem impl_l1 (q : Nat) (hq : (q + 1) * p ≤ 120) (R : Bool) (hR : cnt l (q * p) p = b → Ev (fun k => impl_PatternValid.l0 k l ((q : Int) * p + p) b p) R) (hN : cnt l (q * p) p ≠ b → R = false) :
    ∀ d (j : Nat), j + d = p → Ev (fun k => impl_PatternValid.l1 k l ((q : Int) * p) (cnt l (q * p) j : Int) ((l.take (q * p + p)).drop (q * p)) (p : Int) (j : Int) b p) R := by
  have hqq : q * p + p ≤ 120 := by rw [← Nat.succ_mul]; exact hq
  have hb0 : (0 : Int) ≤ (q : Int) * p := by omega
  have ec : ((q * p : Nat) : Int) = (q : Int) * p := by push_cast; rfl
  intro d
  induction d with
  | zero =>
    intro j hj
    obtain rfl : j = p := by omega
    by_cases hc : cnt l (q * j) j = b
    · refine Ev.step (f := fun k => impl_PatternValid.l0 k l ((q : Int) * j + j) b j) (fun k => ?_) (hR hc)
      simp only [impl_PatternValid.l1]
      rw [if_neg (by omega), if_pos (by omega), w64 (by omega) (by omega)]
    · refine Ev.step (f := fun _ => some false) (fun k => ?_) (by rw [hN hc]; exact Ev.now _)
      simp only [impl_PatternValid.l1]
      rw [if_neg (by omega), if_neg (by omega)]
  | succ d ih =>
    intro j hj
    have hcl := cnt_le l (q * p) j
    have hs := cnt_succ l (q * p) j (by omega)
    have hll : ((l.take (q * p + p)).drop (q * p)).length = p := by simp; omega
    refine Ev.step (f := fun k => impl_PatternValid.l1 k l ((q : Int) * p) (cnt l (q * p) (j + 1) : Int) ((l.take (q * p + p)).drop (q * p)) (p : Int) ((j + 1 : Nat) : Int) b p) (fun k => ?_) (ih (j + 1) (by omega))
    simp only [impl_PatternValid.l1]
    rw [if_pos (by omega), if_pos (by omega), if_pos (by omega)]
    rw [rdOf_at _ _ _ (by omega), w64 (x := (j : Int) + 1) (by omega) (by omega), w64 (x := (cnt l (q * p) j : Int) + 1) (by omega) (by omega)]
    rw [List.getElem_drop, List.getElem_take]
    by_cases hb : l[q * p + j] = true
    · rw [if_pos hb] at hs ⊢
      rw [hs]; push_cast; rfl
    · rw [if_neg hb] at hs ⊢
      rw [hs]; push_cast; rfl
theorem spec_l0 : ∀ d (q : Nat), q + d = 121 → Ev (fun k => spec_PatternValid.l0 k l ((q : Int) * p) b p) (decide (rest b p l q)) := by
  intro d
  induction d with
  | zero =>
    intro q hq
    obtain rfl : q = 121 := by omega
    have hr : rest b p l 121 := fun j h1 h2 h3 => absurd h2 (by omega)
    refine Ev.step (f := fun _ => some true) (fun k => ?_) (by simp only [hr, decide_true]; exact Ev.now _)
    simp only [spec_PatternValid.l0]
    rw [w64 (by omega) (by omega), if_neg (by omega)]
  | succ d ih =>
    intro q hq
    have hb1 : (q : Int) * p ≤ 121 * 12 := (mul_bd (by omega) (by omega) (by omega) (by omega)).2
    have hb0 : (0 : Int) ≤ (q : Int) * p := (mul_bd (A := 121) (B := 12) (by omega) (by omega) (by omega) (by omega)).1
    have e1 : (((q + 1) * p : Nat) : Int) = (q : Int) * p + p := by push_cast; rw [Int.add_mul, Int.one_mul]
    by_cases h : (q + 1) * p ≤ 120
    · have hi := ih (q + 1) (by omega)
      rw [show (((q + 1 : Nat) : Int) * p) = (q : Int) * p + p by rw [← e1]; push_cast; rfl] at hi
      have h0 := spec_l1 b p l hl hp hp2 q h (decide (rest b p l q)) (fun hc => by
        have : decide (rest b p l q) = decide (rest b p l (q + 1)) := by rw [decide_eq_decide, rest_succ hp h]; exact ⟨fun h => h.2, fun h => ⟨hc, h⟩⟩
        rw [this]; exact hi) (fun hc => by simp only [decide_eq_false_iff_not, rest_succ hp h]; exact fun h => hc h.1) p 0 (by omega)
      rw [cnt_zero] at h0
      refine Ev.step (fun k => ?_) h0
      simp only [spec_PatternValid.l0]
      rw [w64 (by omega) (by omega), if_pos (by omega)]
      rfl
    · have hr : rest b p l q := rest_no (by omega)
      refine Ev.step (f := fun _ => some true) (fun k => ?_) (by simp only [hr, decide_true]; exact Ev.now _)
      simp only [spec_PatternValid.l0]
      rw [w64 (by omega) (by omega), if_neg (by omega)]
theorem impl_l0 : ∀ d (q : Nat), q + d = 121 → Ev (fun k => impl_PatternValid.l0 k l ((q : Int) * p) b p) (decide (rest b p l q)) := by
  intro d
  induction d with
  | zero =>
    intro q hq
    obtain rfl : q = 121 := by omega
    have hr : rest b p l 121 := fun j h1 h2 h3 => absurd h2 (by omega)
    refine Ev.step (f := fun _ => some true) (fun k => ?_) (by simp only [hr, decide_true]; exact Ev.now _)
    simp only [impl_PatternValid.l0]
    rw [w64 (by omega) (by omega), if_neg (by omega)]
  | succ d ih =>
    intro q hq
    have hb1 : (q : Int) * p ≤ 121 * 12 := (mul_bd (by omega) (by omega) (by omega) (by omega)).2
    have hb0 : (0 : Int) ≤ (q : Int) * p := (mul_bd (A := 121) (B := 12) (by omega) (by omega) (by omega) (by omega)).1
    have e1 : (((q + 1) * p : Nat) : Int) = (q : Int) * p + p := by push_cast; rw [Int.add_mul, Int.one_mul]
    by_cases h : (q + 1) * p ≤ 120
    · have hi := ih (q + 1) (by omega)
      rw [show (((q + 1 : Nat) : Int) * p) = (q : Int) * p + p by rw [← e1]; push_cast; rfl] at hi
      have h0 := impl_l1 b p l hl hp hp2 q h (decide (rest b p l q)) (fun hc => by
        have : decide (rest b p l q) = decide (rest b p l (q + 1)) := by rw [decide_eq_decide, rest_succ hp h]; exact ⟨fun h => h.2, fun h => ⟨hc, h⟩⟩
        rw [this]; exact hi) (fun hc => by simp only [decide_eq_false_iff_not, rest_succ hp h]; exact fun h => hc h.1) p 0 (by omega)
      rw [cnt_zero] at h0
      refine Ev.step (fun k => ?_) h0
      have hqq : q * p + p ≤ 120 := by rw [← Nat.succ_mul]; exact h
      have ec : ((q * p : Nat) : Int) = (q : Int) * p := by push_cast; rfl
      have et : ((q : Int) * p + p).toNat = q * p + p := by omega
      have et2 : ((q : Int) * p).toNat = q * p := by omega
      simp only [impl_PatternValid.l0]
      rw [w64 (by omega) (by omega), if_pos (by omega), if_pos (by omega), if_pos (by omega), if_pos (by omega), et, et2]
      have hll : ((l.take (q * p + p)).drop (q * p)).length = p := by simp; omega
      rw [hll]
      rfl
    · have hr : rest b p l q := rest_no (by omega)
      refine Ev.step (f := fun _ => some true) (fun k => ?_) (by simp only [hr, decide_true]; exact Ev.now _)
      simp only [impl_PatternValid.l0]
      rw [w64 (by omega) (by omega), if_neg (by omega)]
end
/-- PatternValid, as one test. -/
def PV (b p : Int) (l : List Bool) : Prop := SV b p ∧ l.length = 120 ∧ rest b.toNat p.toNat l 0
instance (b p : Int) (l : List Bool) : Decidable (PV b p l) := by unfold PV; infer_instance
theorem spec_pat (b p : Int) (l : List Bool) : Ev (fun k => spec_PatternValid.f k b p l) (decide (PV b p l)) := by
  by_cases h1 : SV b p
  · have h1' := h1
    unfold SV at h1'
    by_cases h2 : l.length = 120
    · have h := spec_l0 b.toNat p.toNat l h2 (by omega) (by omega) 121 0 (by omega)
      have e : decide (PV b p l) = decide (rest b.toNat p.toNat l 0) := by rw [decide_eq_decide]; exact ⟨fun h => h.2.2, fun h => ⟨h1, h2, h⟩⟩
      rw [e]
      have eb : ((b.toNat : Nat) : Int) = b := by omega
      have ep : ((p.toNat : Nat) : Int) = p := by omega
      rw [eb, ep] at h
      have hs : Ev (fun k => spec_PatternValid.j0 k l ((l.length : Int) != 120) b p) (decide (rest b.toNat p.toNat l 0)) := by
        refine Ev.step (f := fun k => spec_PatternValid.l0 k l (((0 : Nat) : Int) * p) b p) (fun k => ?_) h
        simp only [spec_PatternValid.j0]
        rw [if_neg (by simp [h2])]
        simp
      refine Ev.congr (fun k => ?_) hs
      unfold spec_PatternValid.f
      rw [ssv_f]
      simp only [Option.bind_some, h1, decide_true, if_true]
    · have e : decide (PV b p l) = false := by rw [decide_eq_false_iff_not]; exact fun h => h2 h.2.1
      rw [e]
      have hs : Ev (fun k => spec_PatternValid.j0 k l ((l.length : Int) != 120) b p) false := by
        refine Ev.step (f := fun _ => some false) (fun k => ?_) (Ev.now _)
        simp only [spec_PatternValid.j0]
        rw [if_pos (by simp; omega)]
      refine Ev.congr (fun k => ?_) hs
      unfold spec_PatternValid.f
      rw [ssv_f]
      simp only [Option.bind_some, h1, decide_true, if_true]
  · have e : decide (PV b p l) = false := by rw [decide_eq_false_iff_not]; exact fun h => h1 h.1
    rw [e]
    have hs : Ev (fun k => spec_PatternValid.j0 k l true b p) false := Ev.step (f := fun _ => some false) (fun k => by simp [spec_PatternValid.j0]) (Ev.now _)
    refine Ev.congr (fun k => ?_) hs
    unfold spec_PatternValid.f
    rw [ssv_f]
    simp [h1]
theorem impl_pat (b p : Int) (l : List Bool) : Ev (fun k => impl_PatternValid.f k b p l) (decide (PV b p l)) := by
  by_cases h1 : SV b p
  · have h1' := h1
    unfold SV at h1'
    by_cases h2 : l.length = 120
    · have h := impl_l0 b.toNat p.toNat l h2 (by omega) (by omega) 121 0 (by omega)
      have e : decide (PV b p l) = decide (rest b.toNat p.toNat l 0) := by rw [decide_eq_decide]; exact ⟨fun h => h.2.2, fun h => ⟨h1, h2, h⟩⟩
      rw [e]
      have eb : ((b.toNat : Nat) : Int) = b := by omega
      have ep : ((p.toNat : Nat) : Int) = p := by omega
      rw [eb, ep] at h
      have hs : Ev (fun k => impl_PatternValid.j0 k l ((l.length : Int) != 120) b p) (decide (rest b.toNat p.toNat l 0)) := by
        refine Ev.step (f := fun k => impl_PatternValid.l0 k l (((0 : Nat) : Int) * p) b p) (fun k => ?_) h
        simp only [impl_PatternValid.j0]
        rw [if_neg (by simp [h2])]
        simp
      refine Ev.congr (fun k => ?_) hs
      unfold impl_PatternValid.f
      rw [sv_f]
      simp only [Option.bind_some, h1, decide_true, if_true]
    · have e : decide (PV b p l) = false := by rw [decide_eq_false_iff_not]; exact fun h => h2 h.2.1
      rw [e]
      have hs : Ev (fun k => impl_PatternValid.j0 k l ((l.length : Int) != 120) b p) false := by
        refine Ev.step (f := fun _ => some false) (fun k => ?_) (Ev.now _)
        simp only [impl_PatternValid.j0]
        rw [if_pos (by simp; omega)]
      refine Ev.congr (fun k => ?_) hs
      unfold impl_PatternValid.f
      rw [sv_f]
      simp only [Option.bind_some, h1, decide_true, if_true]
  · have e : decide (PV b p l) = false := by rw [decide_eq_false_iff_not]; exact fun h => h1 h.1
    rw [e]
    have hs : Ev (fun k => impl_PatternValid.j0 k l true b p) false := Ev.step (f := fun _ => some false) (fun k => by simp [impl_PatternValid.j0]) (Ev.now _)
    refine Ev.congr (fun k => ?_) hs
    unfold impl_PatternValid.f
    rw [sv_f]
    simp [h1]
end Go.Proofs.Ytooabmmnbifclaa.Pat
/- In a legal supply pattern each window within the complete periods has at least the supply bound of its length. Conditions: the pattern is legal. -/
namespace Go.Proofs.Ytooabmmnbifclaa.PatLaw
open Go.RowKit Go.Proofs.Ytooabmmnbifclaa.Base Go.Proofs.Ytooabmmnbifclaa.Sup Go.Proofs.Ytooabmmnbifclaa.SupLaw Go.Proofs.Ytooabmmnbifclaa.Pat
theorem cnt_add (l : List Bool) (a n m : Nat) : cnt l a (n + m) = cnt l a n + cnt l (a + n) m := by
  unfold cnt
  rw [List.take_add, List.countP_append, List.drop_drop]
theorem cnt_full {l : List Bool} {b p : Nat} (hr : rest b p l 0) (hp : 1 ≤ p) : ∀ q : Nat, q * p ≤ 120 → cnt l 0 (q * p) = q * b := by
  intro q
  induction q with
  | zero => intro _; simp [cnt_zero]
  | succ q ih =>
    intro h
    have h' : q * p + p ≤ 120 := by rw [← Nat.succ_mul]; exact h
    rw [Nat.succ_mul, cnt_add, ih (by omega), Nat.zero_add]
    have hq : q < 121 := by
      have : (q + 1) * 1 ≤ (q + 1) * p := Nat.mul_le_mul_left _ hp
      omega
    rw [hr q (by omega) hq h, Nat.succ_mul]
theorem window {i j x y b p : Int} (hv : SV b p) (hx : 0 ≤ x) (hx2 : x < p) (hy : 0 ≤ y) (hy2 : y < p) (hL : i * p + x ≤ j * p + y) (hij : i ≤ j) :
    sb b p (j * p + y - (i * p + x)) ≤ max 0 (j * b + max 0 (y - (p - b)) - (i * b + min x b)) := by
  have hv' := hv
  unfold SV at hv'
  obtain ⟨d, rfl⟩ : ∃ d, j = i + d := ⟨j - i, by omega⟩
  have e1 : (i + d) * p = i * p + d * p := Int.add_mul ..
  have e2 : (i + d) * b = i * b + d * b := Int.add_mul ..
  have hd : 0 ≤ d := by omega
  rw [e1, e2]
  have e3 : i * p + d * p + y - (i * p + x) = d * p + (y - x) := by omega
  rw [e3]
  have hdb : 0 ≤ d * b := Int.mul_nonneg hd (by omega)
  by_cases ht : 0 ≤ y - x - (p - b)
  · rw [sb_at (k := d) hv (by omega) (by omega) hd]; omega
  · have m1 : (d - 1) * p = d * p - p := by rw [Int.sub_mul, Int.one_mul]
    have m1b : (d - 1) * b = d * b - b := by rw [Int.sub_mul, Int.one_mul]
    by_cases ht2 : -p ≤ y - x - (p - b)
    · by_cases h1 : 1 ≤ d
      · rw [sb_at (k := d - 1) hv (by omega) (by omega) (by omega), m1, m1b]; omega
      · obtain rfl : d = 0 := by omega
        rw [sb_neg (by omega)]; omega
    · have m2 : (d - 2) * p = d * p - 2 * p := by rw [Int.sub_mul]
      have m2b : (d - 2) * b = d * b - 2 * b := by rw [Int.sub_mul]
      by_cases h2 : 2 ≤ d
      · have h3 : 0 ≤ (d - 2) * b := Int.mul_nonneg (by omega) (by omega)
        rw [sb_at (k := d - 2) hv (by omega) (by omega) (by omega), m2, m2b]; omega
      · have h3 : d = 0 ∨ d = 1 := by omega
        rcases h3 with rfl | rfl
        · rw [sb_neg (by omega)]; omega
        · rw [sb_neg (by omega)]; omega
theorem worst {b p : Int} {l : List Bool} (h : PV b p l) (a n : Nat) (hn : ((a + n : Nat) : Int) ≤ 120 / p * p) : sb b p n ≤ (cnt l a n : Int) := by
  have hv := h.1
  have hv' := hv
  unfold SV at hv'
  obtain ⟨B, rfl⟩ := Int.eq_ofNat_of_zero_le (show 0 ≤ b by omega)
  obtain ⟨P, rfl⟩ := Int.eq_ofNat_of_zero_le (show 0 ≤ p by omega)
  have hr : rest B P l 0 := by simpa using h.2.2
  have hP : 1 ≤ P := by omega
  have elast : ((120 / P * P : Nat) : Int) = 120 / (P : Int) * P := by push_cast; rfl
  have hle : 120 / P * P ≤ 120 := Nat.div_mul_le_self 120 P
  rcases Nat.eq_zero_or_pos n with rfl | hnp
  · rw [cnt_zero, sb_zero hv (by omega)]; simp
  have ha : a < 120 / P * P := by omega
  -- the place of a, of the end
  have da := Nat.div_add_mod a P
  have ma := Nat.mod_lt a hP
  have de := Nat.div_add_mod (a + n) P
  have me := Nat.mod_lt (a + n) hP
  rw [Nat.mul_comm] at da de
  have hia : a / P + 1 ≤ 120 / P := by
    have : a / P < 120 / P := Nat.div_lt_of_lt_mul (by rw [Nat.mul_comm]; exact ha)
    omega
  have hia2 : (a / P + 1) * P ≤ 120 := Nat.le_trans (Nat.mul_le_mul_right _ hia) hle
  have hje : (a + n) / P ≤ 120 / P := by
    have := Nat.div_le_div_right (c := P) (show a + n ≤ 120 / P * P by omega)
    rwa [Nat.mul_div_cancel _ hP] at this
  have hje2 : (a + n) / P * P ≤ 120 := Nat.le_trans (Nat.mul_le_mul_right _ hje) hle
  have hij : a / P ≤ (a + n) / P := Nat.div_le_div_right (by omega)
  have c1 := cnt_full hr hP (a / P) (by rw [Nat.succ_mul] at hia2; omega)
  have c2 := cnt_full hr hP (a / P + 1) hia2
  have c3 := cnt_full hr hP ((a + n) / P) hje2
  have s1 := cnt_add l 0 (a / P * P) (a % P)
  have s2 := cnt_add l 0 a (P - a % P)
  have s3 := cnt_add l 0 a n
  have s4 := cnt_add l 0 ((a + n) / P * P) ((a + n) % P)
  rw [da] at s1
  rw [show a + (P - a % P) = (a / P + 1) * P by rw [Nat.succ_mul]; omega] at s2
  rw [de] at s4
  simp only [Nat.zero_add] at s1 s2 s3 s4
  have b1 := cnt_le l (a / P * P) (a % P)
  have bs : (a / P + 1) * B = a / P * B + B := Nat.succ_mul ..
  -- the end's last part
  have last : (a + n) % P ≤ (P - B) + cnt l ((a + n) / P * P) ((a + n) % P) := by
    rcases Nat.eq_zero_or_pos ((a + n) % P) with h0 | h0
    · omega
    have hj : (a + n) / P + 1 ≤ 120 / P := by
      rcases Nat.lt_or_ge ((a + n) / P) (120 / P) with h1 | h1
      · omega
      · have : 120 / P * P ≤ (a + n) / P * P := Nat.mul_le_mul_right _ h1
        omega
    have hj2 : ((a + n) / P + 1) * P ≤ 120 := Nat.le_trans (Nat.mul_le_mul_right _ hj) hle
    have c4 := cnt_full hr hP ((a + n) / P + 1) hj2
    have s5 := cnt_add l 0 (a + n) (P - (a + n) % P)
    rw [show a + n + (P - (a + n) % P) = ((a + n) / P + 1) * P by rw [Nat.succ_mul]; omega] at s5
    simp only [Nat.zero_add] at s5
    have b2 := cnt_le l (a + n) (P - (a + n) % P)
    have bs2 : ((a + n) / P + 1) * B = (a + n) / P * B + B := Nat.succ_mul ..
    omega
  have w := window (i := ((a / P : Nat) : Int)) (j := (((a + n) / P : Nat) : Int)) (x := ((a % P : Nat) : Int)) (y := (((a + n) % P : Nat) : Int)) hv (by omega) (by omega) (by omega) (by omega) (by
    have t1 : ((a / P * P : Nat) : Int) = ((a / P : Nat) : Int) * P := by push_cast; rfl
    have t2 : (((a + n) / P * P : Nat) : Int) = (((a + n) / P : Nat) : Int) * P := by push_cast; rfl
    omega) (by omega)
  have t1 : ((a / P * P : Nat) : Int) = ((a / P : Nat) : Int) * P := by push_cast; rfl
  have t2 : (((a + n) / P * P : Nat) : Int) = (((a + n) / P : Nat) : Int) * P := by push_cast; rfl
  have t3 : ((a / P * B : Nat) : Int) = ((a / P : Nat) : Int) * B := by push_cast; rfl
  have t4 : (((a + n) / P * B : Nat) : Int) = (((a + n) / P : Nat) : Int) * B := by push_cast; rfl
  rw [show (((a + n) / P : Nat) : Int) * (P : Int) + (((a + n) % P : Nat) : Int) - (((a / P : Nat) : Int) * P + ((a % P : Nat) : Int)) = (n : Int) by omega] at w
  have g0 : cnt l 0 a + 0 ≤ cnt l 0 (a / P * P) + a % P := by omega
  omega
end Go.Proofs.Ytooabmmnbifclaa.PatLaw
-- Laid by a program of this work.
namespace Go.Proofs.Ytooabmmnbifclaa.P
open Go.RowKit Go.Proofs.YtooabmmnbifclaaW.PrintWords Go.Proofs.YtooabmmnbifclaaW.PrintLast Go.Proofs.YtooabmmnbifclaaW.PrintMore
attribute [local go_sem] max2_int min2_int max_two min_two max_three min_three max_four min_four   -- for this text's walks alone
set_option linter.unusedVariables false
set_option linter.unusedSimpArgs false

/-! ### spec_l20Flow: function 56 -/
def spec_l20Flow.f (k : Nat) (s0_0 : List Int) (s0_1 : Int) (a1 : Int) : Option (Int × Int × Int) := (spec_l20Rd_pick.f k s0_0 s0_1 21).bind fun bt286 => ((spec_l20Rd_pick.f k s0_0 bt286.2 7).bind fun bt288 => ((spec_l20Rd_odd.f k s0_0 bt288.2 a1).bind fun bt291 => (if bt291.1 = true then ((some (([(⟨(-1), 0⟩ : S25), (⟨0, 21⟩ : S25), (⟨21, 0⟩ : S25), (⟨0, (-1)⟩ : S25)] : List (S25)) : List (S25))).bind fun y293 => ((spec_l20Rd_pick.f k s0_0 bt291.2 4).bind fun bt296 => (if 0 ≤ bt296.1 then (if bt296.1 < (y293.length : Int) then (some ((rd_T25 y293 bt296.1).f0, (rd_T25 y293 bt296.1).f1, bt296.2)) else (none)) else (none)))) else (some (bt286.1, bt288.1, bt291.2)))))
theorem spec_l20Flow.mono : ∀ a0 a1 a2 k, LeO (spec_l20Flow.f k a0 a1 a2) (spec_l20Flow.f (k + 1) a0 a1 a2) := by
  intro a0 a1 a2 k
  unfold spec_l20Flow.f
  repeat' first
      | (with_reducible exact spec_l20Rd_odd.mono _ _ _ _)
      | (with_reducible exact spec_l20Rd_pick.mono _ _ _ _)
      | (with_reducible exact LeO.refl _)
      | (with_reducible exact LeO.none _)
      | (with_reducible refine LeO.ite ?_ ?_)
      | (with_reducible refine LeO.bind ?_ (fun _ => ?_))
      | exact spec_l20Rd_odd.mono _ _ _ _
      | exact spec_l20Rd_pick.mono _ _ _ _
      | exact LeO.none _
      | refine LeO.ite ?_ ?_
      | refine LeO.bind ?_ (fun _ => ?_)
set_option maxHeartbeats 8000000 in
set_option maxRecDepth 100000 in
theorem spec_l20Flow.calls (k : Nat) (g : Nat) (s0_0 : List Int) (s0_1 : Int) (a1 : Int) (r1 : Int) (r2 : Int) (r3 : Int) (w0 w : World) (hI : IsS84 w0 w g s0_0 s0_1) (hB : Below w0.heap.size w0 w) (h : spec_l20Flow.f k s0_0 s0_1 a1 = some (r1, r2, r3)) :
    Calls Try.prog 56 #[.pointer (some ⟨g, 0, none⟩), .int .i64 a1] w fun e w' => e = .returned (.agg #[.int .i64 r1, .int .i64 r2]) ∧ IsS84 w0 w' g s0_0 r3 ∧ Below w0.heap.size w0 w' ∧ KeepBut w w' g none := by
  have hu25 := Try.underlying25
  have HI0 := Aside0.mk hI
  have HK := Aside0.mk (KeepBut.refl w g none)
  have HL := Aside0.mk hB.size
  clear hI
  have HW0 := Aside0.mk hB.size
  have HB := Aside0.mk hB
  clear hB
  have H : ((spec_l20Rd_pick.f k s0_0 s0_1 21).bind fun bt286 => ((spec_l20Rd_pick.f k s0_0 bt286.2 7).bind fun bt288 => ((spec_l20Rd_odd.f k s0_0 bt288.2 a1).bind fun bt291 => (if bt291.1 = true then ((some (([(⟨(-1), 0⟩ : S25), (⟨0, 21⟩ : S25), (⟨21, 0⟩ : S25), (⟨0, (-1)⟩ : S25)] : List (S25)) : List (S25))).bind fun y293 => ((spec_l20Rd_pick.f k s0_0 bt291.2 4).bind fun bt296 => (if 0 ≤ bt296.1 then (if bt296.1 < (y293.length : Int) then (some ((rd_T25 y293 bt296.1).f0, (rd_T25 y293 bt296.1).f1, bt296.2)) else (none)) else (none)))) else (some (bt286.1, bt288.1, bt291.2)))))) = some (r1, r2, r3) := h
  clear h
  replace H := Option.bind_eq_some_iff.mp H
  obtain ⟨⟨t286, t287⟩, A30, H⟩ := H
  replace H : ((spec_l20Rd_pick.f k s0_0 t287 7).bind fun bt288 => ((spec_l20Rd_odd.f k s0_0 bt288.2 a1).bind fun bt291 => (if bt291.1 = true then ((some (([(⟨(-1), 0⟩ : S25), (⟨0, 21⟩ : S25), (⟨21, 0⟩ : S25), (⟨0, (-1)⟩ : S25)] : List (S25)) : List (S25))).bind fun y293 => ((spec_l20Rd_pick.f k s0_0 bt291.2 4).bind fun bt296 => (if 0 ≤ bt296.1 then (if bt296.1 < (y293.length : Int) then (some ((rd_T25 y293 bt296.1).f0, (rd_T25 y293 bt296.1).f1, bt296.2)) else (none)) else (none)))) else (some (t286, bt288.1, bt291.2))))) = some (r1, r2, r3) := H
  have A3 := Aside0.mk A30
  clear A30
  replace H := Option.bind_eq_some_iff.mp H
  obtain ⟨⟨t288, t289⟩, A40, H⟩ := H
  replace H : ((spec_l20Rd_odd.f k s0_0 t289 a1).bind fun bt291 => (if bt291.1 = true then ((some (([(⟨(-1), 0⟩ : S25), (⟨0, 21⟩ : S25), (⟨21, 0⟩ : S25), (⟨0, (-1)⟩ : S25)] : List (S25)) : List (S25))).bind fun y293 => ((spec_l20Rd_pick.f k s0_0 bt291.2 4).bind fun bt296 => (if 0 ≤ bt296.1 then (if bt296.1 < (y293.length : Int) then (some ((rd_T25 y293 bt296.1).f0, (rd_T25 y293 bt296.1).f1, bt296.2)) else (none)) else (none)))) else (some (t286, t288, bt291.2)))) = some (r1, r2, r3) := H
  have A4 := Aside0.mk A40
  clear A40
  replace H := Option.bind_eq_some_iff.mp H
  obtain ⟨⟨t291, t292⟩, A50, H⟩ := H
  replace H : (if t291 = true then ((some (([(⟨(-1), 0⟩ : S25), (⟨0, 21⟩ : S25), (⟨21, 0⟩ : S25), (⟨0, (-1)⟩ : S25)] : List (S25)) : List (S25))).bind fun y293 => ((spec_l20Rd_pick.f k s0_0 t292 4).bind fun bt296 => (if 0 ≤ bt296.1 then (if bt296.1 < (y293.length : Int) then (some ((rd_T25 y293 bt296.1).f0, (rd_T25 y293 bt296.1).f1, bt296.2)) else (none)) else (none)))) else (some (t286, t288, t292))) = some (r1, r2, r3) := H
  have A5 := Aside0.mk A50
  clear A50
  by_cases c6 : t291 = true
  · subst c6
    have H1 : ((some (([(⟨(-1), 0⟩ : S25), (⟨0, 21⟩ : S25), (⟨21, 0⟩ : S25), (⟨0, (-1)⟩ : S25)] : List (S25)) : List (S25))).bind fun y293 => ((spec_l20Rd_pick.f k s0_0 t292 4).bind fun bt296 => (if 0 ≤ bt296.1 then (if bt296.1 < (y293.length : Int) then (some ((rd_T25 y293 bt296.1).f0, (rd_T25 y293 bt296.1).f1, bt296.2)) else (none)) else (none)))) = some (r1, r2, r3) := by rw [if_pos rfl] at H; exact H
    clear H
    have H := H1
    clear H1
    obtain ⟨y293, hy293⟩ : ∃ y_ : List (S25), y_ = (([(⟨(-1), 0⟩ : S25), (⟨0, 21⟩ : S25), (⟨21, 0⟩ : S25), (⟨0, (-1)⟩ : S25)] : List (S25))) := ⟨_, rfl⟩
    replace H : ((spec_l20Rd_pick.f k s0_0 t292 4).bind fun bt296 => (if 0 ≤ bt296.1 then (if bt296.1 < (y293.length : Int) then (some ((rd_T25 y293 bt296.1).f0, (rd_T25 y293 bt296.1).f1, bt296.2)) else (none)) else (none))) = some (r1, r2, r3) := by first | (rw [hy293]; with_reducible exact H) | (have H2_ := (Option.bind_some _ _).symm.trans H; rw [hy293]; with_reducible exact H2_) | (have H2_ := (Option.bind_some _ _).symm.trans H; with_reducible exact H2_) | with_reducible exact H | (rw [hy293]; exact H) | exact H
    have Ny293 := Aside0.mk hy293
    clear hy293
    replace H := Option.bind_eq_some_iff.mp H
    obtain ⟨⟨t296, t297⟩, A70, H⟩ := H
    replace H : (if 0 ≤ t296 then (if t296 < (y293.length : Int) then (some ((rd_T25 y293 t296).f0, (rd_T25 y293 t296).f1, t297)) else (none)) else (none)) = some (r1, r2, r3) := H
    have A7 := Aside0.mk A70
    clear A70
    by_cases c8 : 0 ≤ t296
    · rw [if_pos c8] at H
      have c8b0 : decide (0 ≤ t296) = true := decide_eq_true c8
      clear c8
      by_cases c9 : t296 < (y293.length : Int)
      · rw [if_pos c9] at H
        have c9b0 : decide (t296 < (y293.length : Int)) = true := decide_eq_true c9
        clear c9
        simp only [Option.some.injEq, Prod.mk.injEq] at H
        obtain ⟨rfl, rfl, rfl⟩ := H
        go_enter Try.func56, Try.ntmps56
        go_wp2_with (first | ((with_reducible refine gate_dst (N := 4) rfl ?_); refine box_event ?hg (N := 4) ?hd (cs := #[.int .i64 0, .int .i64 0]) (t := 25) ?hr ?_; (case hd => rfl); (case hg => rfl); (case hr => first | (go_simp; done) | (go_simp; rfl)); intro gb285 hg w10 hbox hb; have n0_ := Aside0.mk (IsS84.below (by repeat (first | (with_reducible first | exact HI0.out | apply IsS84.alloc | apply IsS84.drewN | apply IsS84.drew | apply IsS84.set_1) | exact HI0.out)) hb); have n1_ := Aside0.mk (KeepBut.trans (by repeat (first | (with_reducible first | exact HK.out | apply KeepBut.set_ | apply keep_drewN | apply keep_drew | apply keep_alloc) | exact HK.out)) (KeepBut.of_below hb g none) (.inl rfl)); have n2_ := Aside0.mk (below_step (by repeat (first | (with_reducible first | exact HB.out | apply below_alloc | apply pw_below_drewN | apply below_drew1 | refine below_set ?_ (IsS84.ge HI0.out)) | exact HB.out)) hb); have n3_ := Aside0.mk (hbox); have n4_ := Aside0.mk ((by rw [hg]; exact (keep_size (w := w) (g := g) (row := none) (by repeat (first | (with_reducible first | exact HK.out | apply KeepBut.set_ | apply keep_drewN | apply keep_drew | apply keep_alloc) | exact HK.out))) : w.heap.size ≤ gb285)); have n5_ := Aside0.mk ((Nat.le_trans HW0.out (by rw [hg]; exact (keep_size (w := w) (g := g) (row := none) (by repeat (first | (with_reducible first | exact HK.out | apply KeepBut.set_ | apply keep_drewN | apply keep_drew | apply keep_alloc) | exact HK.out))) : w.heap.size ≤ gb285) : w0.heap.size ≤ gb285)); have n6_ := Aside0.mk ((by rw [hg]; exact Nat.ne_of_lt (IsS84.lt (show IsS84 w0 _ g s0_0 s0_1 from by repeat (first | (with_reducible first | exact HI0.out | apply IsS84.alloc | apply IsS84.drewN | apply IsS84.drew | apply IsS84.set_1) | exact HI0.out))) : g ≠ gb285)); have n7_ := Aside0.mk ((by rw [hg]; exact Nat.ne_of_gt (IsS84.lt (show IsS84 w0 _ g s0_0 s0_1 from by repeat (first | (with_reducible first | exact HI0.out | apply IsS84.alloc | apply IsS84.drewN | apply IsS84.drew | apply IsS84.set_1) | exact HI0.out))) : gb285 ≠ g)); clear HI0; clear HK; clear HB; have HI0 := n0_; have HK := n1_; have HB := n2_; have BK285 := n3_; have GW285 := n4_; have GE285 := n5_; have NB0_285 := n6_; have NB285_0 := n7_; clear n0_ n1_ n2_ n3_ n4_ n5_ n6_ n7_; clear hb hbox hg) | ((with_reducible refine gate_callee (f := 58) rfl ?_); refine goesL_ (some 7) rfl rfl Try.func58 (by kernel_rfl) rfl #[.pointer (some ⟨g, 0, none⟩), .int .i64 21] rfl (by (try simp only [List.map_toArray, List.map_cons, List.map_nil]); first | done | rfl | (simp only [List.length_drop, List.length_take]; rfl)) ?_; (with_reducible refine (spec_l20Rd_pick.calls k g s0_0 s0_1 21 t286 t287 w0 _ ?side1 ?side2 A3.out).mono ?_); (case side1 => repeat (first | (with_reducible first | exact HI0.out | apply IsS84.alloc | apply IsS84.drewN | apply IsS84.drew | apply IsS84.set_1 | refine IsS84.far ?_ NB0_285.out _) | exact HI0.out)); (case side2 => repeat (first | (with_reducible first | exact HB.out | apply below_alloc | apply pw_below_drewN | apply below_drew1 | refine below_set ?_ (IsS84.ge HI0.out) | refine below_set ?_ GE285.out) | exact HB.out)); rintro e w11 ⟨rfl, hi, hb, hk⟩; refine ⟨_, rfl, ?_⟩; have n0_ := Aside0.mk (KeepBut.blk hk (g' := gb285) (o := .cells #[.int .i64 0, .int .i64 0] 25 (0, 0)) (by (with_reducible repeat (first | refine blk_drewN ?_ _ | refine blk_drew ?_ | refine blk_alloc ?_ _)); exact BK285.out) NB285_0.out (by simp)); have n1_ := Aside0.mk (KeepBut.trans (by repeat (first | (with_reducible first | exact HK.out | apply KeepBut.set_ | apply keep_drewN | apply keep_drew | apply keep_alloc | refine keep_far ?_ GW285.out _) | exact HK.out)) hk (.inl rfl)); have n2_ := Aside0.mk (hb); have n3_ := Aside0.mk (hi); clear BK285; clear HK; clear HB; clear HI0; have BK285 := n0_; have HK := n1_; have HB := n2_; have HI0 := n3_; clear n0_ n1_ n2_ n3_; (try clear hb); (try clear hb2); (try clear hk); (try clear hi)) | ((with_reducible refine gate_callee (f := 58) rfl ?_); refine goesL_ (some 9) rfl rfl Try.func58 (by kernel_rfl) rfl #[.pointer (some ⟨g, 0, none⟩), .int .i64 7] rfl (by (try simp only [List.map_toArray, List.map_cons, List.map_nil]); first | done | rfl | (simp only [List.length_drop, List.length_take]; rfl)) ?_; (with_reducible refine (spec_l20Rd_pick.calls k g s0_0 t287 7 t288 t289 w0 _ ?side1 ?side2 A4.out).mono ?_); (case side1 => repeat (first | (with_reducible first | exact HI0.out | apply IsS84.alloc | apply IsS84.drewN | apply IsS84.drew | apply IsS84.set_1 | refine IsS84.far ?_ NB0_285.out _) | exact HI0.out)); (case side2 => repeat (first | (with_reducible first | exact HB.out | apply below_alloc | apply pw_below_drewN | apply below_drew1 | refine below_set ?_ (IsS84.ge HI0.out) | refine below_set ?_ GE285.out) | exact HB.out)); rintro e w12 ⟨rfl, hi, hb, hk⟩; refine ⟨_, rfl, ?_⟩; have n0_ := Aside0.mk (KeepBut.blk hk (g' := gb285) (o := .cells #[.int .i64 0, .int .i64 0] 25 (0, 0)) (by (with_reducible repeat (first | refine blk_drewN ?_ _ | refine blk_drew ?_ | refine blk_alloc ?_ _)); exact BK285.out) NB285_0.out (by simp)); have n1_ := Aside0.mk (KeepBut.trans (by repeat (first | (with_reducible first | exact HK.out | apply KeepBut.set_ | apply keep_drewN | apply keep_drew | apply keep_alloc | refine keep_far ?_ GW285.out _) | exact HK.out)) hk (.inl rfl)); have n2_ := Aside0.mk (hb); have n3_ := Aside0.mk (hi); clear BK285; clear HK; clear HB; clear HI0; have BK285 := n0_; have HK := n1_; have HB := n2_; have HI0 := n3_; clear n0_ n1_ n2_ n3_; (try clear hb); (try clear hb2); (try clear hk); (try clear hi)) | ((with_reducible refine gate_dst (N := 5) rfl ?_); refine box_event ?hg (N := 5) ?hd (cs := #[.int .i64 0, .int .i64 0]) (t := 25) ?hr ?_; (case hd => rfl); (case hg => rfl); (case hr => first | (go_simp; done) | (go_simp; rfl)); intro gb290 hg w13 hbox hb; have n0_ := Aside0.mk (IsS84.below (by repeat (first | (with_reducible first | exact HI0.out | apply IsS84.alloc | apply IsS84.drewN | apply IsS84.drew | apply IsS84.set_1 | refine IsS84.far ?_ NB0_285.out _) | exact HI0.out)) hb); have n1_ := Aside0.mk (blk_below (g := gb285) (o := .cells #[.int .i64 0, .int .i64 0] 25 (0, 0)) (by (with_reducible repeat (first | refine blk_drewN ?_ _ | refine blk_drew ?_ | refine blk_alloc ?_ _)); exact BK285.out) hb); have n2_ := Aside0.mk (KeepBut.trans (by repeat (first | (with_reducible first | exact HK.out | apply KeepBut.set_ | apply keep_drewN | apply keep_drew | apply keep_alloc | refine keep_far ?_ GW285.out _) | exact HK.out)) (KeepBut.of_below hb g none) (.inl rfl)); have n3_ := Aside0.mk (below_step (by repeat (first | (with_reducible first | exact HB.out | apply below_alloc | apply pw_below_drewN | apply below_drew1 | refine below_set ?_ (IsS84.ge HI0.out) | refine below_set ?_ GE285.out) | exact HB.out)) hb); have n4_ := Aside0.mk (hbox); have n5_ := Aside0.mk ((by rw [hg]; exact (keep_size (w := w) (g := g) (row := none) (by repeat (first | (with_reducible first | exact HK.out | apply KeepBut.set_ | apply keep_drewN | apply keep_drew | apply keep_alloc | refine keep_far ?_ GW285.out _) | exact HK.out))) : w.heap.size ≤ gb290)); have n6_ := Aside0.mk ((Nat.le_trans HW0.out (by rw [hg]; exact (keep_size (w := w) (g := g) (row := none) (by repeat (first | (with_reducible first | exact HK.out | apply KeepBut.set_ | apply keep_drewN | apply keep_drew | apply keep_alloc | refine keep_far ?_ GW285.out _) | exact HK.out))) : w.heap.size ≤ gb290) : w0.heap.size ≤ gb290)); have n7_ := Aside0.mk ((by rw [hg]; exact Nat.ne_of_lt (blk_lt (g := gb285) (o := .cells #[.int .i64 0, .int .i64 0] 25 (0, 0)) (by (with_reducible repeat (first | refine blk_drewN ?_ _ | refine blk_drew ?_ | refine blk_alloc ?_ _)); exact BK285.out)) : gb285 ≠ gb290)); have n8_ := Aside0.mk ((by rw [hg]; exact Nat.ne_of_gt (blk_lt (g := gb285) (o := .cells #[.int .i64 0, .int .i64 0] 25 (0, 0)) (by (with_reducible repeat (first | refine blk_drewN ?_ _ | refine blk_drew ?_ | refine blk_alloc ?_ _)); exact BK285.out)) : gb290 ≠ gb285)); have n9_ := Aside0.mk ((by rw [hg]; exact Nat.ne_of_lt (IsS84.lt (show IsS84 w0 _ g s0_0 t289 from by repeat (first | (with_reducible first | exact HI0.out | apply IsS84.alloc | apply IsS84.drewN | apply IsS84.drew | apply IsS84.set_1 | refine IsS84.far ?_ NB0_285.out _) | exact HI0.out))) : g ≠ gb290)); have n10_ := Aside0.mk ((by rw [hg]; exact Nat.ne_of_gt (IsS84.lt (show IsS84 w0 _ g s0_0 t289 from by repeat (first | (with_reducible first | exact HI0.out | apply IsS84.alloc | apply IsS84.drewN | apply IsS84.drew | apply IsS84.set_1 | refine IsS84.far ?_ NB0_285.out _) | exact HI0.out))) : gb290 ≠ g)); clear HI0; clear BK285; clear HK; clear HB; have HI0 := n0_; have BK285 := n1_; have HK := n2_; have HB := n3_; have BK290 := n4_; have GW290 := n5_; have GE290 := n6_; have NB285_290 := n7_; have NB290_285 := n8_; have NB0_290 := n9_; have NB290_0 := n10_; clear n0_ n1_ n2_ n3_ n4_ n5_ n6_ n7_ n8_ n9_ n10_; clear hb hbox hg; have hnb14 := NB290_285.out; have hnc14 := NB285_290.out; have hnb15 := NB290_0.out; have hnc15 := NB0_290.out; have hcz16_0 : w13.cell? ⟨gb290, 0, none⟩ = some (.int .i64 0) := (blk_cell BK290.out 0).trans rfl; have hcz16_1 : w13.cell? ⟨gb290, 1, none⟩ = some (.int .i64 0) := (blk_cell BK290.out 1).trans rfl; have hfz16_0 := blk_frozen BK290.out 0; have hfz16_1 := blk_frozen BK290.out 1) | ((with_reducible refine gate_callee (f := 60) rfl ?_); refine goesL_ (some 13) rfl rfl Try.func60 (by kernel_rfl) rfl #[.pointer (some ⟨g, 0, none⟩), .int .i64 a1] rfl (by (try simp only [List.map_toArray, List.map_cons, List.map_nil]); first | done | rfl | (simp only [List.length_drop, List.length_take]; rfl)) ?_; (with_reducible refine (spec_l20Rd_odd.calls k g s0_0 t289 a1 true t292 w0 _ ?side1 ?side2 A5.out).mono ?_); (case side1 => repeat (first | (with_reducible first | exact HI0.out | apply IsS84.alloc | apply IsS84.drewN | apply IsS84.drew | apply IsS84.set_1 | refine IsS84.far ?_ NB0_285.out _ | refine IsS84.far ?_ NB0_290.out _) | exact HI0.out)); (case side2 => repeat (first | (with_reducible first | exact HB.out | apply below_alloc | apply pw_below_drewN | apply below_drew1 | refine below_set ?_ (IsS84.ge HI0.out) | refine below_set ?_ GE285.out | refine below_set ?_ GE290.out) | exact HB.out)); rintro e w17 ⟨rfl, hi, hb, hk⟩; refine ⟨_, rfl, ?_⟩; have n0_ := Aside0.mk (KeepBut.blk hk (g' := gb285) (o := .cells #[.int .i64 0, .int .i64 0] 25 (0, 0)) (by (with_reducible repeat (first | refine blk_drewN ?_ _ | refine blk_drew ?_ | refine blk_alloc ?_ _)); refine blk_far ?_ NB285_290.out _; (with_reducible repeat (first | refine blk_drewN ?_ _ | refine blk_drew ?_ | refine blk_alloc ?_ _)); refine blk_far ?_ NB285_290.out _; (with_reducible repeat (first | refine blk_drewN ?_ _ | refine blk_drew ?_ | refine blk_alloc ?_ _)); exact BK285.out) NB285_0.out (by simp)); have n1_ := Aside0.mk (KeepBut.blk hk (g' := gb290) (o := .cells #[.int .i64 t286, .int .i64 t288] 25 (0, 0)) (by (with_reducible repeat (first | refine blk_drewN ?_ _ | refine blk_drew ?_ | refine blk_alloc ?_ _)); refine blk_put (cs := #[.int .i64 t286, .int .i64 0]) ?_ 1 _ rfl; (with_reducible repeat (first | refine blk_drewN ?_ _ | refine blk_drew ?_ | refine blk_alloc ?_ _)); refine blk_put (cs := #[.int .i64 0, .int .i64 0]) ?_ 0 _ rfl; (with_reducible repeat (first | refine blk_drewN ?_ _ | refine blk_drew ?_ | refine blk_alloc ?_ _)); exact BK290.out) NB290_0.out (by simp)); have n2_ := Aside0.mk (KeepBut.trans (by repeat (first | (with_reducible first | exact HK.out | apply KeepBut.set_ | apply keep_drewN | apply keep_drew | apply keep_alloc | refine keep_far ?_ GW285.out _ | refine keep_far ?_ GW290.out _) | exact HK.out)) hk (.inl rfl)); have n3_ := Aside0.mk (hb); have n4_ := Aside0.mk (hi); clear BK285; clear BK290; clear HK; clear HB; clear HI0; have BK285 := n0_; have BK290 := n1_; have HK := n2_; have HB := n3_; have HI0 := n4_; clear n0_ n1_ n2_ n3_ n4_; (try clear hb); (try clear hb2); (try clear hk); (try clear hi)) | ((with_reducible refine gate_dst (N := 18) rfl ?_); refine Kd.R_lit k25 _ 25 ?hg (N := 18) ?hd (xs := ([(⟨(-1), 0⟩ : S25), (⟨0, 21⟩ : S25), (⟨21, 0⟩ : S25), (⟨0, (-1)⟩ : S25)] : List (S25))) (inner := [.int .i64 (-1), .int .i64 0, .int .i64 0, .int .i64 21, .int .i64 21, .int .i64 0, .int .i64 0, .int .i64 (-1)]) (ok := fun _ => True) (okp := fun _ => True) ?hr ?hp (fun _ hk => hk) trivial (Below.refl _ _) (Nat.le_refl _) (by simp) ?_; (case hd => rfl); (case hg => rfl); (case hr => first | (go_simp; done) | (go_simp; rfl)); (case hp => exact (Reps.c2 (show Kd.M k25 _ _ _ (⟨(-1), 0⟩ : S25) [.int .i64 (-1), .int .i64 0] from (k25_mkM _ _ _ (⟨(-1), 0⟩ : S25) )) (Reps.c2 (show Kd.M k25 _ _ _ (⟨0, 21⟩ : S25) [.int .i64 0, .int .i64 21] from (k25_mkM _ _ _ (⟨0, 21⟩ : S25) )) (Reps.c2 (show Kd.M k25 _ _ _ (⟨21, 0⟩ : S25) [.int .i64 21, .int .i64 0] from (k25_mkM _ _ _ (⟨21, 0⟩ : S25) )) (Reps.c2 (show Kd.M k25 _ _ _ (⟨0, (-1)⟩ : S25) [.int .i64 0, .int .i64 (-1)] from (k25_mkM _ _ _ (⟨0, (-1)⟩ : S25) )) (Reps.none _ _)))))); intro v294 w18 ho19 hb hg_ hnew_; clear hg_ hnew_; (first | rw [← Ny293.out] at ho19 | (simp only [Int.reduceToNat] at ho19; rw [← Ny293.out] at ho19)); have n0_ := Aside0.mk (Kd.R_lower (Kd.R_newB (Kd.R_newB ho19 (g := gb285) (o := .cells #[.int .i64 0, .int .i64 0] 25 (0, 0)) (by (with_reducible repeat (first | refine blk_drewN ?_ _ | refine blk_drew ?_ | refine blk_alloc ?_ _)); exact BK285.out)) (g := gb290) (o := .cells #[.int .i64 t286, .int .i64 t288] 25 (0, 0)) (by (with_reducible repeat (first | refine blk_drewN ?_ _ | refine blk_drew ?_ | refine blk_alloc ?_ _)); exact BK290.out)) (keep_size (w := w) (g := g) (row := none) (by repeat (first | (with_reducible first | exact HK.out | apply KeepBut.set_ | apply keep_drewN | apply keep_drew | apply keep_alloc | refine keep_far ?_ GW285.out _ | refine keep_far ?_ GW290.out _) | exact HK.out)))); have n1_ := Aside0.mk (IsS84.below (by repeat (first | (with_reducible first | exact HI0.out | apply IsS84.alloc | apply IsS84.drewN | apply IsS84.drew | apply IsS84.set_1 | refine IsS84.far ?_ NB0_285.out _ | refine IsS84.far ?_ NB0_290.out _) | exact HI0.out)) hb); have n2_ := Aside0.mk (blk_below (g := gb285) (o := .cells #[.int .i64 0, .int .i64 0] 25 (0, 0)) (by (with_reducible repeat (first | refine blk_drewN ?_ _ | refine blk_drew ?_ | refine blk_alloc ?_ _)); exact BK285.out) hb); have n3_ := Aside0.mk (blk_below (g := gb290) (o := .cells #[.int .i64 t286, .int .i64 t288] 25 (0, 0)) (by (with_reducible repeat (first | refine blk_drewN ?_ _ | refine blk_drew ?_ | refine blk_alloc ?_ _)); exact BK290.out) hb); have n4_ := Aside0.mk (KeepBut.trans (by repeat (first | (with_reducible first | exact HK.out | apply KeepBut.set_ | apply keep_drewN | apply keep_drew | apply keep_alloc | refine keep_far ?_ GW285.out _ | refine keep_far ?_ GW290.out _) | exact HK.out)) (KeepBut.of_below hb g none) (.inl rfl)); have n5_ := Aside0.mk (below_step (by repeat (first | (with_reducible first | exact HB.out | apply below_alloc | apply pw_below_drewN | apply below_drew1 | refine below_set ?_ (IsS84.ge HI0.out) | refine below_set ?_ GE285.out | refine below_set ?_ GE290.out) | exact HB.out)) hb); clear HI0; clear BK285; clear BK290; clear HK; clear HB; have HO295 := n0_; have HI0 := n1_; have BK285 := n2_; have BK290 := n3_; have HK := n4_; have HB := n5_; clear n0_ n1_ n2_ n3_ n4_ n5_; clear hb ho19) | ((with_reducible refine gate_callee (f := 58) rfl ?_); refine goesL_ (some 20) rfl rfl Try.func58 (by kernel_rfl) rfl #[.pointer (some ⟨g, 0, none⟩), .int .i64 4] rfl (by (try simp only [List.map_toArray, List.map_cons, List.map_nil]); first | done | rfl | (simp only [List.length_drop, List.length_take]; rfl)) ?_; (with_reducible refine (spec_l20Rd_pick.calls k g s0_0 t292 4 t296 t297 w0 _ ?side1 ?side2 A7.out).mono ?_); (case side1 => repeat (first | (with_reducible first | exact HI0.out | apply IsS84.alloc | apply IsS84.drewN | apply IsS84.drew | apply IsS84.set_1 | refine IsS84.far ?_ NB0_285.out _ | refine IsS84.far ?_ NB0_290.out _) | exact HI0.out)); (case side2 => repeat (first | (with_reducible first | exact HB.out | apply below_alloc | apply pw_below_drewN | apply below_drew1 | refine below_set ?_ (IsS84.ge HI0.out) | refine below_set ?_ GE285.out | refine below_set ?_ GE290.out) | exact HB.out)); rintro e w20 ⟨rfl, hi, hb, hk⟩; refine ⟨_, rfl, ?_⟩; have n0_ := Aside0.mk (KeepBut.blk hk (g' := gb285) (o := .cells #[.int .i64 0, .int .i64 0] 25 (0, 0)) (by (with_reducible repeat (first | refine blk_drewN ?_ _ | refine blk_drew ?_ | refine blk_alloc ?_ _)); exact BK285.out) NB285_0.out (by simp)); have n1_ := Aside0.mk (KeepBut.blk hk (g' := gb290) (o := .cells #[.int .i64 t286, .int .i64 t288] 25 (0, 0)) (by (with_reducible repeat (first | refine blk_drewN ?_ _ | refine blk_drew ?_ | refine blk_alloc ?_ _)); exact BK290.out) NB290_0.out (by simp)); have n2_ := Aside0.mk (Kd.R_mono (Kd.R_keep (IsS84.apart (show IsS84 w0 _ g s0_0 t292 from by repeat (first | (with_reducible first | exact HI0.out | apply IsS84.alloc | apply IsS84.drewN | apply IsS84.drew | apply IsS84.set_1 | refine IsS84.far ?_ NB0_285.out _ | refine IsS84.far ?_ NB0_290.out _) | exact HI0.out)) (by (with_reducible repeat (first | apply Kd.R_alloc | apply Kd.R_drewN | apply Kd.R_drew)); exact HO295.out) (by decide)) hk (fun _ h => h.2)) (fun _ h => h.1)); have n3_ := Aside0.mk (KeepBut.trans (by repeat (first | (with_reducible first | exact HK.out | apply KeepBut.set_ | apply keep_drewN | apply keep_drew | apply keep_alloc | refine keep_far ?_ GW285.out _ | refine keep_far ?_ GW290.out _) | exact HK.out)) hk (.inl rfl)); have n4_ := Aside0.mk (hb); have n5_ := Aside0.mk (hi); clear BK285; clear BK290; clear HO295; clear HK; clear HB; clear HI0; have BK285 := n0_; have BK290 := n1_; have HO295 := n2_; have HK := n3_; have HB := n4_; have HI0 := n5_; clear n0_ n1_ n2_ n3_ n4_ n5_; (try clear hb); (try clear hb2); (try clear hk); (try clear hi); obtain ⟨Ao21, co21, eo21⟩ := Kd.R_slice HO295.out; subst eo21; have p298 : 0 ≤ (t296 : Int) := of_decide_eq_true (by first | (with_reducible assumption) | assumption); have q298 : t296 < (y293.length : Int) := of_decide_eq_true (by first | (with_reducible assumption) | assumption); obtain ⟨ad298, e298, hx298_0, hx298_1⟩ := at_T25 (Kd.R_reads' HO295.out).2.2 t296 p298 q298; cases e298; replace p298 := eq_true p298; replace q298 := eq_true q298; have hnb22 := NB285_0.out; have hnc22 := NB0_285.out; have hcz23_0 : w20.cell? ⟨gb285, 0, none⟩ = some (.int .i64 0) := (blk_cell BK285.out 0).trans rfl; have hcz23_1 : w20.cell? ⟨gb285, 1, none⟩ = some (.int .i64 0) := (blk_cell BK285.out 1).trans rfl; have hfz23_0 := blk_frozen BK285.out 0; have hfz23_1 := blk_frozen BK285.out 1))
        refine bodyPost_ret (results_cell_row rfl _ _ gb285 25 #[.int .i64 ((rd_T25 y293 t296).f0), .int .i64 ((rd_T25 y293 t296).f1)] (0, 0) _ rfl (by (with_reducible repeat (first | refine blk_drewN ?_ _ | refine blk_drew ?_ | refine blk_alloc ?_ _)); refine blk_put (cs := #[.int .i64 ((rd_T25 y293 t296).f0), .int .i64 0]) ?_ 1 _ rfl; (with_reducible repeat (first | refine blk_drewN ?_ _ | refine blk_drew ?_ | refine blk_alloc ?_ _)); refine blk_put (cs := #[.int .i64 0, .int .i64 0]) ?_ 0 _ rfl; (with_reducible repeat (first | refine blk_drewN ?_ _ | refine blk_drew ?_ | refine blk_alloc ?_ _)); exact BK285.out) Try.underlying25 rfl (by kernel_rfl)) rfl ?_
        exact ⟨by first | rfl | (simp [errW_none, errW_some] <;> rfl) | (simp [*, errW_none, errW_some] <;> rfl), by repeat (first | (with_reducible first | exact HI0.out | apply IsS84.alloc | apply IsS84.drewN | apply IsS84.drew | apply IsS84.set_1 | refine IsS84.far ?_ NB0_285.out _ | refine IsS84.far ?_ NB0_290.out _) | exact HI0.out), by repeat (first | (with_reducible first | exact HB.out | apply below_alloc | apply pw_below_drewN | apply below_drew1 | refine below_set ?_ (IsS84.ge HI0.out) | refine below_set ?_ GE285.out | refine below_set ?_ GE290.out) | exact HB.out), by repeat (first | (with_reducible first | exact HK.out | apply KeepBut.set_ | apply keep_drewN | apply keep_drew | apply keep_alloc | refine keep_far ?_ GW285.out _ | refine keep_far ?_ GW290.out _) | exact HK.out)⟩
      · rw [if_neg c9] at H
        exact absurd H (by simp)
    · rw [if_neg c8] at H
      exact absurd H (by simp)
  · replace c6 := Bool.eq_false_iff.mpr c6
    subst c6
    have H1 : (some (t286, t288, t292)) = some (r1, r2, r3) := by rw [if_neg (show ¬ (false = true) by decide)] at H; exact H
    clear H
    have H := H1
    clear H1
    simp only [Option.some.injEq, Prod.mk.injEq] at H
    obtain ⟨rfl, rfl, rfl⟩ := H
    go_enter Try.func56, Try.ntmps56
    go_wp2_with (first | ((with_reducible refine gate_dst (N := 4) rfl ?_); refine box_event ?hg (N := 4) ?hd (cs := #[.int .i64 0, .int .i64 0]) (t := 25) ?hr ?_; (case hd => rfl); (case hg => rfl); (case hr => first | (go_simp; done) | (go_simp; rfl)); intro gb285 hg w24 hbox hb; have n0_ := Aside0.mk (IsS84.below (by repeat (first | (with_reducible first | exact HI0.out | apply IsS84.alloc | apply IsS84.drewN | apply IsS84.drew | apply IsS84.set_1) | exact HI0.out)) hb); have n1_ := Aside0.mk (KeepBut.trans (by repeat (first | (with_reducible first | exact HK.out | apply KeepBut.set_ | apply keep_drewN | apply keep_drew | apply keep_alloc) | exact HK.out)) (KeepBut.of_below hb g none) (.inl rfl)); have n2_ := Aside0.mk (below_step (by repeat (first | (with_reducible first | exact HB.out | apply below_alloc | apply pw_below_drewN | apply below_drew1 | refine below_set ?_ (IsS84.ge HI0.out)) | exact HB.out)) hb); have n3_ := Aside0.mk (hbox); have n4_ := Aside0.mk ((by rw [hg]; exact (keep_size (w := w) (g := g) (row := none) (by repeat (first | (with_reducible first | exact HK.out | apply KeepBut.set_ | apply keep_drewN | apply keep_drew | apply keep_alloc) | exact HK.out))) : w.heap.size ≤ gb285)); have n5_ := Aside0.mk ((Nat.le_trans HW0.out (by rw [hg]; exact (keep_size (w := w) (g := g) (row := none) (by repeat (first | (with_reducible first | exact HK.out | apply KeepBut.set_ | apply keep_drewN | apply keep_drew | apply keep_alloc) | exact HK.out))) : w.heap.size ≤ gb285) : w0.heap.size ≤ gb285)); have n6_ := Aside0.mk ((by rw [hg]; exact Nat.ne_of_lt (IsS84.lt (show IsS84 w0 _ g s0_0 s0_1 from by repeat (first | (with_reducible first | exact HI0.out | apply IsS84.alloc | apply IsS84.drewN | apply IsS84.drew | apply IsS84.set_1) | exact HI0.out))) : g ≠ gb285)); have n7_ := Aside0.mk ((by rw [hg]; exact Nat.ne_of_gt (IsS84.lt (show IsS84 w0 _ g s0_0 s0_1 from by repeat (first | (with_reducible first | exact HI0.out | apply IsS84.alloc | apply IsS84.drewN | apply IsS84.drew | apply IsS84.set_1) | exact HI0.out))) : gb285 ≠ g)); clear HI0; clear HK; clear HB; have HI0 := n0_; have HK := n1_; have HB := n2_; have BK285 := n3_; have GW285 := n4_; have GE285 := n5_; have NB0_285 := n6_; have NB285_0 := n7_; clear n0_ n1_ n2_ n3_ n4_ n5_ n6_ n7_; clear hb hbox hg) | ((with_reducible refine gate_callee (f := 58) rfl ?_); refine goesL_ (some 7) rfl rfl Try.func58 (by kernel_rfl) rfl #[.pointer (some ⟨g, 0, none⟩), .int .i64 21] rfl (by (try simp only [List.map_toArray, List.map_cons, List.map_nil]); first | done | rfl | (simp only [List.length_drop, List.length_take]; rfl)) ?_; (with_reducible refine (spec_l20Rd_pick.calls k g s0_0 s0_1 21 t286 t287 w0 _ ?side1 ?side2 A3.out).mono ?_); (case side1 => repeat (first | (with_reducible first | exact HI0.out | apply IsS84.alloc | apply IsS84.drewN | apply IsS84.drew | apply IsS84.set_1 | refine IsS84.far ?_ NB0_285.out _) | exact HI0.out)); (case side2 => repeat (first | (with_reducible first | exact HB.out | apply below_alloc | apply pw_below_drewN | apply below_drew1 | refine below_set ?_ (IsS84.ge HI0.out) | refine below_set ?_ GE285.out) | exact HB.out)); rintro e w25 ⟨rfl, hi, hb, hk⟩; refine ⟨_, rfl, ?_⟩; have n0_ := Aside0.mk (KeepBut.blk hk (g' := gb285) (o := .cells #[.int .i64 0, .int .i64 0] 25 (0, 0)) (by (with_reducible repeat (first | refine blk_drewN ?_ _ | refine blk_drew ?_ | refine blk_alloc ?_ _)); exact BK285.out) NB285_0.out (by simp)); have n1_ := Aside0.mk (KeepBut.trans (by repeat (first | (with_reducible first | exact HK.out | apply KeepBut.set_ | apply keep_drewN | apply keep_drew | apply keep_alloc | refine keep_far ?_ GW285.out _) | exact HK.out)) hk (.inl rfl)); have n2_ := Aside0.mk (hb); have n3_ := Aside0.mk (hi); clear BK285; clear HK; clear HB; clear HI0; have BK285 := n0_; have HK := n1_; have HB := n2_; have HI0 := n3_; clear n0_ n1_ n2_ n3_; (try clear hb); (try clear hb2); (try clear hk); (try clear hi)) | ((with_reducible refine gate_callee (f := 58) rfl ?_); refine goesL_ (some 9) rfl rfl Try.func58 (by kernel_rfl) rfl #[.pointer (some ⟨g, 0, none⟩), .int .i64 7] rfl (by (try simp only [List.map_toArray, List.map_cons, List.map_nil]); first | done | rfl | (simp only [List.length_drop, List.length_take]; rfl)) ?_; (with_reducible refine (spec_l20Rd_pick.calls k g s0_0 t287 7 t288 t289 w0 _ ?side1 ?side2 A4.out).mono ?_); (case side1 => repeat (first | (with_reducible first | exact HI0.out | apply IsS84.alloc | apply IsS84.drewN | apply IsS84.drew | apply IsS84.set_1 | refine IsS84.far ?_ NB0_285.out _) | exact HI0.out)); (case side2 => repeat (first | (with_reducible first | exact HB.out | apply below_alloc | apply pw_below_drewN | apply below_drew1 | refine below_set ?_ (IsS84.ge HI0.out) | refine below_set ?_ GE285.out) | exact HB.out)); rintro e w26 ⟨rfl, hi, hb, hk⟩; refine ⟨_, rfl, ?_⟩; have n0_ := Aside0.mk (KeepBut.blk hk (g' := gb285) (o := .cells #[.int .i64 0, .int .i64 0] 25 (0, 0)) (by (with_reducible repeat (first | refine blk_drewN ?_ _ | refine blk_drew ?_ | refine blk_alloc ?_ _)); exact BK285.out) NB285_0.out (by simp)); have n1_ := Aside0.mk (KeepBut.trans (by repeat (first | (with_reducible first | exact HK.out | apply KeepBut.set_ | apply keep_drewN | apply keep_drew | apply keep_alloc | refine keep_far ?_ GW285.out _) | exact HK.out)) hk (.inl rfl)); have n2_ := Aside0.mk (hb); have n3_ := Aside0.mk (hi); clear BK285; clear HK; clear HB; clear HI0; have BK285 := n0_; have HK := n1_; have HB := n2_; have HI0 := n3_; clear n0_ n1_ n2_ n3_; (try clear hb); (try clear hb2); (try clear hk); (try clear hi)) | ((with_reducible refine gate_dst (N := 5) rfl ?_); refine box_event ?hg (N := 5) ?hd (cs := #[.int .i64 0, .int .i64 0]) (t := 25) ?hr ?_; (case hd => rfl); (case hg => rfl); (case hr => first | (go_simp; done) | (go_simp; rfl)); intro gb290 hg w27 hbox hb; have n0_ := Aside0.mk (IsS84.below (by repeat (first | (with_reducible first | exact HI0.out | apply IsS84.alloc | apply IsS84.drewN | apply IsS84.drew | apply IsS84.set_1 | refine IsS84.far ?_ NB0_285.out _) | exact HI0.out)) hb); have n1_ := Aside0.mk (blk_below (g := gb285) (o := .cells #[.int .i64 0, .int .i64 0] 25 (0, 0)) (by (with_reducible repeat (first | refine blk_drewN ?_ _ | refine blk_drew ?_ | refine blk_alloc ?_ _)); exact BK285.out) hb); have n2_ := Aside0.mk (KeepBut.trans (by repeat (first | (with_reducible first | exact HK.out | apply KeepBut.set_ | apply keep_drewN | apply keep_drew | apply keep_alloc | refine keep_far ?_ GW285.out _) | exact HK.out)) (KeepBut.of_below hb g none) (.inl rfl)); have n3_ := Aside0.mk (below_step (by repeat (first | (with_reducible first | exact HB.out | apply below_alloc | apply pw_below_drewN | apply below_drew1 | refine below_set ?_ (IsS84.ge HI0.out) | refine below_set ?_ GE285.out) | exact HB.out)) hb); have n4_ := Aside0.mk (hbox); have n5_ := Aside0.mk ((by rw [hg]; exact (keep_size (w := w) (g := g) (row := none) (by repeat (first | (with_reducible first | exact HK.out | apply KeepBut.set_ | apply keep_drewN | apply keep_drew | apply keep_alloc | refine keep_far ?_ GW285.out _) | exact HK.out))) : w.heap.size ≤ gb290)); have n6_ := Aside0.mk ((Nat.le_trans HW0.out (by rw [hg]; exact (keep_size (w := w) (g := g) (row := none) (by repeat (first | (with_reducible first | exact HK.out | apply KeepBut.set_ | apply keep_drewN | apply keep_drew | apply keep_alloc | refine keep_far ?_ GW285.out _) | exact HK.out))) : w.heap.size ≤ gb290) : w0.heap.size ≤ gb290)); have n7_ := Aside0.mk ((by rw [hg]; exact Nat.ne_of_lt (blk_lt (g := gb285) (o := .cells #[.int .i64 0, .int .i64 0] 25 (0, 0)) (by (with_reducible repeat (first | refine blk_drewN ?_ _ | refine blk_drew ?_ | refine blk_alloc ?_ _)); exact BK285.out)) : gb285 ≠ gb290)); have n8_ := Aside0.mk ((by rw [hg]; exact Nat.ne_of_gt (blk_lt (g := gb285) (o := .cells #[.int .i64 0, .int .i64 0] 25 (0, 0)) (by (with_reducible repeat (first | refine blk_drewN ?_ _ | refine blk_drew ?_ | refine blk_alloc ?_ _)); exact BK285.out)) : gb290 ≠ gb285)); have n9_ := Aside0.mk ((by rw [hg]; exact Nat.ne_of_lt (IsS84.lt (show IsS84 w0 _ g s0_0 t289 from by repeat (first | (with_reducible first | exact HI0.out | apply IsS84.alloc | apply IsS84.drewN | apply IsS84.drew | apply IsS84.set_1 | refine IsS84.far ?_ NB0_285.out _) | exact HI0.out))) : g ≠ gb290)); have n10_ := Aside0.mk ((by rw [hg]; exact Nat.ne_of_gt (IsS84.lt (show IsS84 w0 _ g s0_0 t289 from by repeat (first | (with_reducible first | exact HI0.out | apply IsS84.alloc | apply IsS84.drewN | apply IsS84.drew | apply IsS84.set_1 | refine IsS84.far ?_ NB0_285.out _) | exact HI0.out))) : gb290 ≠ g)); clear HI0; clear BK285; clear HK; clear HB; have HI0 := n0_; have BK285 := n1_; have HK := n2_; have HB := n3_; have BK290 := n4_; have GW290 := n5_; have GE290 := n6_; have NB285_290 := n7_; have NB290_285 := n8_; have NB0_290 := n9_; have NB290_0 := n10_; clear n0_ n1_ n2_ n3_ n4_ n5_ n6_ n7_ n8_ n9_ n10_; clear hb hbox hg; have hnb28 := NB290_285.out; have hnc28 := NB285_290.out; have hnb29 := NB290_0.out; have hnc29 := NB0_290.out; have hcz30_0 : w27.cell? ⟨gb290, 0, none⟩ = some (.int .i64 0) := (blk_cell BK290.out 0).trans rfl; have hcz30_1 : w27.cell? ⟨gb290, 1, none⟩ = some (.int .i64 0) := (blk_cell BK290.out 1).trans rfl; have hfz30_0 := blk_frozen BK290.out 0; have hfz30_1 := blk_frozen BK290.out 1) | ((with_reducible refine gate_callee (f := 60) rfl ?_); refine goesL_ (some 13) rfl rfl Try.func60 (by kernel_rfl) rfl #[.pointer (some ⟨g, 0, none⟩), .int .i64 a1] rfl (by (try simp only [List.map_toArray, List.map_cons, List.map_nil]); first | done | rfl | (simp only [List.length_drop, List.length_take]; rfl)) ?_; (with_reducible refine (spec_l20Rd_odd.calls k g s0_0 t289 a1 false t292 w0 _ ?side1 ?side2 A5.out).mono ?_); (case side1 => repeat (first | (with_reducible first | exact HI0.out | apply IsS84.alloc | apply IsS84.drewN | apply IsS84.drew | apply IsS84.set_1 | refine IsS84.far ?_ NB0_285.out _ | refine IsS84.far ?_ NB0_290.out _) | exact HI0.out)); (case side2 => repeat (first | (with_reducible first | exact HB.out | apply below_alloc | apply pw_below_drewN | apply below_drew1 | refine below_set ?_ (IsS84.ge HI0.out) | refine below_set ?_ GE285.out | refine below_set ?_ GE290.out) | exact HB.out)); rintro e w31 ⟨rfl, hi, hb, hk⟩; refine ⟨_, rfl, ?_⟩; have n0_ := Aside0.mk (KeepBut.blk hk (g' := gb285) (o := .cells #[.int .i64 0, .int .i64 0] 25 (0, 0)) (by (with_reducible repeat (first | refine blk_drewN ?_ _ | refine blk_drew ?_ | refine blk_alloc ?_ _)); refine blk_far ?_ NB285_290.out _; (with_reducible repeat (first | refine blk_drewN ?_ _ | refine blk_drew ?_ | refine blk_alloc ?_ _)); refine blk_far ?_ NB285_290.out _; (with_reducible repeat (first | refine blk_drewN ?_ _ | refine blk_drew ?_ | refine blk_alloc ?_ _)); exact BK285.out) NB285_0.out (by simp)); have n1_ := Aside0.mk (KeepBut.blk hk (g' := gb290) (o := .cells #[.int .i64 t286, .int .i64 t288] 25 (0, 0)) (by (with_reducible repeat (first | refine blk_drewN ?_ _ | refine blk_drew ?_ | refine blk_alloc ?_ _)); refine blk_put (cs := #[.int .i64 t286, .int .i64 0]) ?_ 1 _ rfl; (with_reducible repeat (first | refine blk_drewN ?_ _ | refine blk_drew ?_ | refine blk_alloc ?_ _)); refine blk_put (cs := #[.int .i64 0, .int .i64 0]) ?_ 0 _ rfl; (with_reducible repeat (first | refine blk_drewN ?_ _ | refine blk_drew ?_ | refine blk_alloc ?_ _)); exact BK290.out) NB290_0.out (by simp)); have n2_ := Aside0.mk (KeepBut.trans (by repeat (first | (with_reducible first | exact HK.out | apply KeepBut.set_ | apply keep_drewN | apply keep_drew | apply keep_alloc | refine keep_far ?_ GW285.out _ | refine keep_far ?_ GW290.out _) | exact HK.out)) hk (.inl rfl)); have n3_ := Aside0.mk (hb); have n4_ := Aside0.mk (hi); clear BK285; clear BK290; clear HK; clear HB; clear HI0; have BK285 := n0_; have BK290 := n1_; have HK := n2_; have HB := n3_; have HI0 := n4_; clear n0_ n1_ n2_ n3_ n4_; (try clear hb); (try clear hb2); (try clear hk); (try clear hi); have hcz32_0 : w31.cell? ⟨gb290, 0, none⟩ = some (.int .i64 t286) := (blk_cell BK290.out 0).trans rfl; have hcz32_1 : w31.cell? ⟨gb290, 1, none⟩ = some (.int .i64 t288) := (blk_cell BK290.out 1).trans rfl; have hfz32_0 := blk_frozen BK290.out 0; have hfz32_1 := blk_frozen BK290.out 1; have hnb33 := NB285_0.out; have hnc33 := NB0_285.out; have hcz34_0 : w31.cell? ⟨gb285, 0, none⟩ = some (.int .i64 0) := (blk_cell BK285.out 0).trans rfl; have hcz34_1 : w31.cell? ⟨gb285, 1, none⟩ = some (.int .i64 0) := (blk_cell BK285.out 1).trans rfl; have hfz34_0 := blk_frozen BK285.out 0; have hfz34_1 := blk_frozen BK285.out 1))
    refine bodyPost_ret (results_cell_row rfl _ _ gb285 25 #[.int .i64 t286, .int .i64 t288] (0, 0) _ rfl (by (with_reducible repeat (first | refine blk_drewN ?_ _ | refine blk_drew ?_ | refine blk_alloc ?_ _)); refine blk_put (cs := #[.int .i64 t286, .int .i64 0]) ?_ 1 _ rfl; (with_reducible repeat (first | refine blk_drewN ?_ _ | refine blk_drew ?_ | refine blk_alloc ?_ _)); refine blk_put (cs := #[.int .i64 0, .int .i64 0]) ?_ 0 _ rfl; (with_reducible repeat (first | refine blk_drewN ?_ _ | refine blk_drew ?_ | refine blk_alloc ?_ _)); exact BK285.out) Try.underlying25 rfl (by kernel_rfl)) rfl ?_
    exact ⟨by first | rfl | (simp [errW_none, errW_some] <;> rfl) | (simp [*, errW_none, errW_some] <;> rfl), by repeat (first | (with_reducible first | exact HI0.out | apply IsS84.alloc | apply IsS84.drewN | apply IsS84.drew | apply IsS84.set_1 | refine IsS84.far ?_ NB0_285.out _ | refine IsS84.far ?_ NB0_290.out _) | exact HI0.out), by repeat (first | (with_reducible first | exact HB.out | apply below_alloc | apply pw_below_drewN | apply below_drew1 | refine below_set ?_ (IsS84.ge HI0.out) | refine below_set ?_ GE285.out | refine below_set ?_ GE290.out) | exact HB.out), by repeat (first | (with_reducible first | exact HK.out | apply KeepBut.set_ | apply keep_drewN | apply keep_drew | apply keep_alloc | refine keep_far ?_ GW285.out _ | refine keep_far ?_ GW290.out _) | exact HK.out)⟩

end Go.Proofs.Ytooabmmnbifclaa.P
-- Laid by a program of this work.
namespace Go.Proofs.Ytooabmmnbifclaa.P
open Go.RowKit Go.Proofs.YtooabmmnbifclaaW.PrintWords Go.Proofs.YtooabmmnbifclaaW.PrintLast Go.Proofs.YtooabmmnbifclaaW.PrintMore
attribute [local go_sem] max2_int min2_int max_two min_two max_three min_three max_four min_four   -- for this text's walks alone
set_option linter.unusedVariables false
set_option linter.unusedSimpArgs false

/-! ### spec_l20Link: function 57 -/
def spec_l20Link.f (k : Nat) (s0_0 : List Int) (s0_1 : Int) (a1 : Int) : Option (Int × Int × Int) := (spec_l20Rd_pick.f k s0_0 s0_1 9).bind fun bt307 => ((spec_l20Rd_pick.f k s0_0 bt307.2 9).bind fun bt309 => ((spec_l20Rd_odd.f k s0_0 bt309.2 a1).bind fun bt312 => (if bt312.1 = true then ((some (([(⟨0, 0⟩ : S31), (⟨(-1), 1⟩ : S31), (⟨21, 1⟩ : S31), (⟨0, 21⟩ : S31)] : List (S31)) : List (S31))).bind fun y314 => ((spec_l20Rd_pick.f k s0_0 bt312.2 4).bind fun bt317 => (if 0 ≤ bt317.1 then (if bt317.1 < (y314.length : Int) then (some ((rd_T31 y314 bt317.1).f0, (rd_T31 y314 bt317.1).f1, bt317.2)) else (none)) else (none)))) else (some (bt307.1, wrap64 (1 + bt309.1), bt312.2)))))
theorem spec_l20Link.mono : ∀ a0 a1 a2 k, LeO (spec_l20Link.f k a0 a1 a2) (spec_l20Link.f (k + 1) a0 a1 a2) := by
  intro a0 a1 a2 k
  unfold spec_l20Link.f
  repeat' first
      | (with_reducible exact spec_l20Rd_odd.mono _ _ _ _)
      | (with_reducible exact spec_l20Rd_pick.mono _ _ _ _)
      | (with_reducible exact LeO.refl _)
      | (with_reducible exact LeO.none _)
      | (with_reducible refine LeO.ite ?_ ?_)
      | (with_reducible refine LeO.bind ?_ (fun _ => ?_))
      | exact spec_l20Rd_odd.mono _ _ _ _
      | exact spec_l20Rd_pick.mono _ _ _ _
      | exact LeO.none _
      | refine LeO.ite ?_ ?_
      | refine LeO.bind ?_ (fun _ => ?_)
set_option maxHeartbeats 8000000 in
set_option maxRecDepth 100000 in
theorem spec_l20Link.calls (k : Nat) (g : Nat) (s0_0 : List Int) (s0_1 : Int) (a1 : Int) (r1 : Int) (r2 : Int) (r3 : Int) (w0 w : World) (hI : IsS84 w0 w g s0_0 s0_1) (hB : Below w0.heap.size w0 w) (h : spec_l20Link.f k s0_0 s0_1 a1 = some (r1, r2, r3)) :
    Calls Try.prog 57 #[.pointer (some ⟨g, 0, none⟩), .int .i64 a1] w fun e w' => e = .returned (.agg #[.int .i64 r1, .int .i64 r2]) ∧ IsS84 w0 w' g s0_0 r3 ∧ Below w0.heap.size w0 w' ∧ KeepBut w w' g none := by
  have hu31 := Try.underlying31
  have HI0 := Aside0.mk hI
  have HK := Aside0.mk (KeepBut.refl w g none)
  have HL := Aside0.mk hB.size
  clear hI
  have HW0 := Aside0.mk hB.size
  have HB := Aside0.mk hB
  clear hB
  have H : ((spec_l20Rd_pick.f k s0_0 s0_1 9).bind fun bt307 => ((spec_l20Rd_pick.f k s0_0 bt307.2 9).bind fun bt309 => ((spec_l20Rd_odd.f k s0_0 bt309.2 a1).bind fun bt312 => (if bt312.1 = true then ((some (([(⟨0, 0⟩ : S31), (⟨(-1), 1⟩ : S31), (⟨21, 1⟩ : S31), (⟨0, 21⟩ : S31)] : List (S31)) : List (S31))).bind fun y314 => ((spec_l20Rd_pick.f k s0_0 bt312.2 4).bind fun bt317 => (if 0 ≤ bt317.1 then (if bt317.1 < (y314.length : Int) then (some ((rd_T31 y314 bt317.1).f0, (rd_T31 y314 bt317.1).f1, bt317.2)) else (none)) else (none)))) else (some (bt307.1, wrap64 (1 + bt309.1), bt312.2)))))) = some (r1, r2, r3) := h
  clear h
  replace H := Option.bind_eq_some_iff.mp H
  obtain ⟨⟨t307, t308⟩, A30, H⟩ := H
  replace H : ((spec_l20Rd_pick.f k s0_0 t308 9).bind fun bt309 => ((spec_l20Rd_odd.f k s0_0 bt309.2 a1).bind fun bt312 => (if bt312.1 = true then ((some (([(⟨0, 0⟩ : S31), (⟨(-1), 1⟩ : S31), (⟨21, 1⟩ : S31), (⟨0, 21⟩ : S31)] : List (S31)) : List (S31))).bind fun y314 => ((spec_l20Rd_pick.f k s0_0 bt312.2 4).bind fun bt317 => (if 0 ≤ bt317.1 then (if bt317.1 < (y314.length : Int) then (some ((rd_T31 y314 bt317.1).f0, (rd_T31 y314 bt317.1).f1, bt317.2)) else (none)) else (none)))) else (some (t307, wrap64 (1 + bt309.1), bt312.2))))) = some (r1, r2, r3) := H
  have A3 := Aside0.mk A30
  clear A30
  replace H := Option.bind_eq_some_iff.mp H
  obtain ⟨⟨t309, t310⟩, A40, H⟩ := H
  replace H : ((spec_l20Rd_odd.f k s0_0 t310 a1).bind fun bt312 => (if bt312.1 = true then ((some (([(⟨0, 0⟩ : S31), (⟨(-1), 1⟩ : S31), (⟨21, 1⟩ : S31), (⟨0, 21⟩ : S31)] : List (S31)) : List (S31))).bind fun y314 => ((spec_l20Rd_pick.f k s0_0 bt312.2 4).bind fun bt317 => (if 0 ≤ bt317.1 then (if bt317.1 < (y314.length : Int) then (some ((rd_T31 y314 bt317.1).f0, (rd_T31 y314 bt317.1).f1, bt317.2)) else (none)) else (none)))) else (some (t307, wrap64 (1 + t309), bt312.2)))) = some (r1, r2, r3) := H
  have A4 := Aside0.mk A40
  clear A40
  replace H := Option.bind_eq_some_iff.mp H
  obtain ⟨⟨t312, t313⟩, A50, H⟩ := H
  replace H : (if t312 = true then ((some (([(⟨0, 0⟩ : S31), (⟨(-1), 1⟩ : S31), (⟨21, 1⟩ : S31), (⟨0, 21⟩ : S31)] : List (S31)) : List (S31))).bind fun y314 => ((spec_l20Rd_pick.f k s0_0 t313 4).bind fun bt317 => (if 0 ≤ bt317.1 then (if bt317.1 < (y314.length : Int) then (some ((rd_T31 y314 bt317.1).f0, (rd_T31 y314 bt317.1).f1, bt317.2)) else (none)) else (none)))) else (some (t307, wrap64 (1 + t309), t313))) = some (r1, r2, r3) := H
  have A5 := Aside0.mk A50
  clear A50
  by_cases c6 : t312 = true
  · subst c6
    have H1 : ((some (([(⟨0, 0⟩ : S31), (⟨(-1), 1⟩ : S31), (⟨21, 1⟩ : S31), (⟨0, 21⟩ : S31)] : List (S31)) : List (S31))).bind fun y314 => ((spec_l20Rd_pick.f k s0_0 t313 4).bind fun bt317 => (if 0 ≤ bt317.1 then (if bt317.1 < (y314.length : Int) then (some ((rd_T31 y314 bt317.1).f0, (rd_T31 y314 bt317.1).f1, bt317.2)) else (none)) else (none)))) = some (r1, r2, r3) := by rw [if_pos rfl] at H; exact H
    clear H
    have H := H1
    clear H1
    obtain ⟨y314, hy314⟩ : ∃ y_ : List (S31), y_ = (([(⟨0, 0⟩ : S31), (⟨(-1), 1⟩ : S31), (⟨21, 1⟩ : S31), (⟨0, 21⟩ : S31)] : List (S31))) := ⟨_, rfl⟩
    replace H : ((spec_l20Rd_pick.f k s0_0 t313 4).bind fun bt317 => (if 0 ≤ bt317.1 then (if bt317.1 < (y314.length : Int) then (some ((rd_T31 y314 bt317.1).f0, (rd_T31 y314 bt317.1).f1, bt317.2)) else (none)) else (none))) = some (r1, r2, r3) := by first | (rw [hy314]; with_reducible exact H) | (have H2_ := (Option.bind_some _ _).symm.trans H; rw [hy314]; with_reducible exact H2_) | (have H2_ := (Option.bind_some _ _).symm.trans H; with_reducible exact H2_) | with_reducible exact H | (rw [hy314]; exact H) | exact H
    have Ny314 := Aside0.mk hy314
    clear hy314
    replace H := Option.bind_eq_some_iff.mp H
    obtain ⟨⟨t317, t318⟩, A70, H⟩ := H
    replace H : (if 0 ≤ t317 then (if t317 < (y314.length : Int) then (some ((rd_T31 y314 t317).f0, (rd_T31 y314 t317).f1, t318)) else (none)) else (none)) = some (r1, r2, r3) := H
    have A7 := Aside0.mk A70
    clear A70
    by_cases c8 : 0 ≤ t317
    · rw [if_pos c8] at H
      have c8b0 : decide (0 ≤ t317) = true := decide_eq_true c8
      clear c8
      by_cases c9 : t317 < (y314.length : Int)
      · rw [if_pos c9] at H
        have c9b0 : decide (t317 < (y314.length : Int)) = true := decide_eq_true c9
        clear c9
        simp only [Option.some.injEq, Prod.mk.injEq] at H
        obtain ⟨rfl, rfl, rfl⟩ := H
        go_enter Try.func57, Try.ntmps57
        go_wp2_with (first | ((with_reducible refine gate_dst (N := 4) rfl ?_); refine box_event ?hg (N := 4) ?hd (cs := #[.int .i64 0, .int .i64 0]) (t := 31) ?hr ?_; (case hd => rfl); (case hg => rfl); (case hr => first | (go_simp; done) | (go_simp; rfl)); intro gb306 hg w10 hbox hb; have n0_ := Aside0.mk (IsS84.below (by repeat (first | (with_reducible first | exact HI0.out | apply IsS84.alloc | apply IsS84.drewN | apply IsS84.drew | apply IsS84.set_1) | exact HI0.out)) hb); have n1_ := Aside0.mk (KeepBut.trans (by repeat (first | (with_reducible first | exact HK.out | apply KeepBut.set_ | apply keep_drewN | apply keep_drew | apply keep_alloc) | exact HK.out)) (KeepBut.of_below hb g none) (.inl rfl)); have n2_ := Aside0.mk (below_step (by repeat (first | (with_reducible first | exact HB.out | apply below_alloc | apply pw_below_drewN | apply below_drew1 | refine below_set ?_ (IsS84.ge HI0.out)) | exact HB.out)) hb); have n3_ := Aside0.mk (hbox); have n4_ := Aside0.mk ((by rw [hg]; exact (keep_size (w := w) (g := g) (row := none) (by repeat (first | (with_reducible first | exact HK.out | apply KeepBut.set_ | apply keep_drewN | apply keep_drew | apply keep_alloc) | exact HK.out))) : w.heap.size ≤ gb306)); have n5_ := Aside0.mk ((Nat.le_trans HW0.out (by rw [hg]; exact (keep_size (w := w) (g := g) (row := none) (by repeat (first | (with_reducible first | exact HK.out | apply KeepBut.set_ | apply keep_drewN | apply keep_drew | apply keep_alloc) | exact HK.out))) : w.heap.size ≤ gb306) : w0.heap.size ≤ gb306)); have n6_ := Aside0.mk ((by rw [hg]; exact Nat.ne_of_lt (IsS84.lt (show IsS84 w0 _ g s0_0 s0_1 from by repeat (first | (with_reducible first | exact HI0.out | apply IsS84.alloc | apply IsS84.drewN | apply IsS84.drew | apply IsS84.set_1) | exact HI0.out))) : g ≠ gb306)); have n7_ := Aside0.mk ((by rw [hg]; exact Nat.ne_of_gt (IsS84.lt (show IsS84 w0 _ g s0_0 s0_1 from by repeat (first | (with_reducible first | exact HI0.out | apply IsS84.alloc | apply IsS84.drewN | apply IsS84.drew | apply IsS84.set_1) | exact HI0.out))) : gb306 ≠ g)); clear HI0; clear HK; clear HB; have HI0 := n0_; have HK := n1_; have HB := n2_; have BK306 := n3_; have GW306 := n4_; have GE306 := n5_; have NB0_306 := n6_; have NB306_0 := n7_; clear n0_ n1_ n2_ n3_ n4_ n5_ n6_ n7_; clear hb hbox hg) | ((with_reducible refine gate_callee (f := 58) rfl ?_); refine goesL_ (some 7) rfl rfl Try.func58 (by kernel_rfl) rfl #[.pointer (some ⟨g, 0, none⟩), .int .i64 9] rfl (by (try simp only [List.map_toArray, List.map_cons, List.map_nil]); first | done | rfl | (simp only [List.length_drop, List.length_take]; rfl)) ?_; (with_reducible refine (spec_l20Rd_pick.calls k g s0_0 s0_1 9 t307 t308 w0 _ ?side1 ?side2 A3.out).mono ?_); (case side1 => repeat (first | (with_reducible first | exact HI0.out | apply IsS84.alloc | apply IsS84.drewN | apply IsS84.drew | apply IsS84.set_1 | refine IsS84.far ?_ NB0_306.out _) | exact HI0.out)); (case side2 => repeat (first | (with_reducible first | exact HB.out | apply below_alloc | apply pw_below_drewN | apply below_drew1 | refine below_set ?_ (IsS84.ge HI0.out) | refine below_set ?_ GE306.out) | exact HB.out)); rintro e w11 ⟨rfl, hi, hb, hk⟩; refine ⟨_, rfl, ?_⟩; have n0_ := Aside0.mk (KeepBut.blk hk (g' := gb306) (o := .cells #[.int .i64 0, .int .i64 0] 31 (0, 0)) (by (with_reducible repeat (first | refine blk_drewN ?_ _ | refine blk_drew ?_ | refine blk_alloc ?_ _)); exact BK306.out) NB306_0.out (by simp)); have n1_ := Aside0.mk (KeepBut.trans (by repeat (first | (with_reducible first | exact HK.out | apply KeepBut.set_ | apply keep_drewN | apply keep_drew | apply keep_alloc | refine keep_far ?_ GW306.out _) | exact HK.out)) hk (.inl rfl)); have n2_ := Aside0.mk (hb); have n3_ := Aside0.mk (hi); clear BK306; clear HK; clear HB; clear HI0; have BK306 := n0_; have HK := n1_; have HB := n2_; have HI0 := n3_; clear n0_ n1_ n2_ n3_; (try clear hb); (try clear hb2); (try clear hk); (try clear hi)) | ((with_reducible refine gate_callee (f := 58) rfl ?_); refine goesL_ (some 9) rfl rfl Try.func58 (by kernel_rfl) rfl #[.pointer (some ⟨g, 0, none⟩), .int .i64 9] rfl (by (try simp only [List.map_toArray, List.map_cons, List.map_nil]); first | done | rfl | (simp only [List.length_drop, List.length_take]; rfl)) ?_; (with_reducible refine (spec_l20Rd_pick.calls k g s0_0 t308 9 t309 t310 w0 _ ?side1 ?side2 A4.out).mono ?_); (case side1 => repeat (first | (with_reducible first | exact HI0.out | apply IsS84.alloc | apply IsS84.drewN | apply IsS84.drew | apply IsS84.set_1 | refine IsS84.far ?_ NB0_306.out _) | exact HI0.out)); (case side2 => repeat (first | (with_reducible first | exact HB.out | apply below_alloc | apply pw_below_drewN | apply below_drew1 | refine below_set ?_ (IsS84.ge HI0.out) | refine below_set ?_ GE306.out) | exact HB.out)); rintro e w12 ⟨rfl, hi, hb, hk⟩; refine ⟨_, rfl, ?_⟩; have n0_ := Aside0.mk (KeepBut.blk hk (g' := gb306) (o := .cells #[.int .i64 0, .int .i64 0] 31 (0, 0)) (by (with_reducible repeat (first | refine blk_drewN ?_ _ | refine blk_drew ?_ | refine blk_alloc ?_ _)); exact BK306.out) NB306_0.out (by simp)); have n1_ := Aside0.mk (KeepBut.trans (by repeat (first | (with_reducible first | exact HK.out | apply KeepBut.set_ | apply keep_drewN | apply keep_drew | apply keep_alloc | refine keep_far ?_ GW306.out _) | exact HK.out)) hk (.inl rfl)); have n2_ := Aside0.mk (hb); have n3_ := Aside0.mk (hi); clear BK306; clear HK; clear HB; clear HI0; have BK306 := n0_; have HK := n1_; have HB := n2_; have HI0 := n3_; clear n0_ n1_ n2_ n3_; (try clear hb); (try clear hb2); (try clear hk); (try clear hi)) | ((with_reducible refine gate_dst (N := 5) rfl ?_); refine box_event ?hg (N := 5) ?hd (cs := #[.int .i64 0, .int .i64 0]) (t := 31) ?hr ?_; (case hd => rfl); (case hg => rfl); (case hr => first | (go_simp; done) | (go_simp; rfl)); intro gb311 hg w13 hbox hb; have n0_ := Aside0.mk (IsS84.below (by repeat (first | (with_reducible first | exact HI0.out | apply IsS84.alloc | apply IsS84.drewN | apply IsS84.drew | apply IsS84.set_1 | refine IsS84.far ?_ NB0_306.out _) | exact HI0.out)) hb); have n1_ := Aside0.mk (blk_below (g := gb306) (o := .cells #[.int .i64 0, .int .i64 0] 31 (0, 0)) (by (with_reducible repeat (first | refine blk_drewN ?_ _ | refine blk_drew ?_ | refine blk_alloc ?_ _)); exact BK306.out) hb); have n2_ := Aside0.mk (KeepBut.trans (by repeat (first | (with_reducible first | exact HK.out | apply KeepBut.set_ | apply keep_drewN | apply keep_drew | apply keep_alloc | refine keep_far ?_ GW306.out _) | exact HK.out)) (KeepBut.of_below hb g none) (.inl rfl)); have n3_ := Aside0.mk (below_step (by repeat (first | (with_reducible first | exact HB.out | apply below_alloc | apply pw_below_drewN | apply below_drew1 | refine below_set ?_ (IsS84.ge HI0.out) | refine below_set ?_ GE306.out) | exact HB.out)) hb); have n4_ := Aside0.mk (hbox); have n5_ := Aside0.mk ((by rw [hg]; exact (keep_size (w := w) (g := g) (row := none) (by repeat (first | (with_reducible first | exact HK.out | apply KeepBut.set_ | apply keep_drewN | apply keep_drew | apply keep_alloc | refine keep_far ?_ GW306.out _) | exact HK.out))) : w.heap.size ≤ gb311)); have n6_ := Aside0.mk ((Nat.le_trans HW0.out (by rw [hg]; exact (keep_size (w := w) (g := g) (row := none) (by repeat (first | (with_reducible first | exact HK.out | apply KeepBut.set_ | apply keep_drewN | apply keep_drew | apply keep_alloc | refine keep_far ?_ GW306.out _) | exact HK.out))) : w.heap.size ≤ gb311) : w0.heap.size ≤ gb311)); have n7_ := Aside0.mk ((by rw [hg]; exact Nat.ne_of_lt (blk_lt (g := gb306) (o := .cells #[.int .i64 0, .int .i64 0] 31 (0, 0)) (by (with_reducible repeat (first | refine blk_drewN ?_ _ | refine blk_drew ?_ | refine blk_alloc ?_ _)); exact BK306.out)) : gb306 ≠ gb311)); have n8_ := Aside0.mk ((by rw [hg]; exact Nat.ne_of_gt (blk_lt (g := gb306) (o := .cells #[.int .i64 0, .int .i64 0] 31 (0, 0)) (by (with_reducible repeat (first | refine blk_drewN ?_ _ | refine blk_drew ?_ | refine blk_alloc ?_ _)); exact BK306.out)) : gb311 ≠ gb306)); have n9_ := Aside0.mk ((by rw [hg]; exact Nat.ne_of_lt (IsS84.lt (show IsS84 w0 _ g s0_0 t310 from by repeat (first | (with_reducible first | exact HI0.out | apply IsS84.alloc | apply IsS84.drewN | apply IsS84.drew | apply IsS84.set_1 | refine IsS84.far ?_ NB0_306.out _) | exact HI0.out))) : g ≠ gb311)); have n10_ := Aside0.mk ((by rw [hg]; exact Nat.ne_of_gt (IsS84.lt (show IsS84 w0 _ g s0_0 t310 from by repeat (first | (with_reducible first | exact HI0.out | apply IsS84.alloc | apply IsS84.drewN | apply IsS84.drew | apply IsS84.set_1 | refine IsS84.far ?_ NB0_306.out _) | exact HI0.out))) : gb311 ≠ g)); clear HI0; clear BK306; clear HK; clear HB; have HI0 := n0_; have BK306 := n1_; have HK := n2_; have HB := n3_; have BK311 := n4_; have GW311 := n5_; have GE311 := n6_; have NB306_311 := n7_; have NB311_306 := n8_; have NB0_311 := n9_; have NB311_0 := n10_; clear n0_ n1_ n2_ n3_ n4_ n5_ n6_ n7_ n8_ n9_ n10_; clear hb hbox hg; have hnb14 := NB311_306.out; have hnc14 := NB306_311.out; have hnb15 := NB311_0.out; have hnc15 := NB0_311.out; have hcz16_0 : w13.cell? ⟨gb311, 0, none⟩ = some (.int .i64 0) := (blk_cell BK311.out 0).trans rfl; have hcz16_1 : w13.cell? ⟨gb311, 1, none⟩ = some (.int .i64 0) := (blk_cell BK311.out 1).trans rfl; have hfz16_0 := blk_frozen BK311.out 0; have hfz16_1 := blk_frozen BK311.out 1) | ((with_reducible refine gate_callee (f := 60) rfl ?_); refine goesL_ (some 14) rfl rfl Try.func60 (by kernel_rfl) rfl #[.pointer (some ⟨g, 0, none⟩), .int .i64 a1] rfl (by (try simp only [List.map_toArray, List.map_cons, List.map_nil]); first | done | rfl | (simp only [List.length_drop, List.length_take]; rfl)) ?_; (with_reducible refine (spec_l20Rd_odd.calls k g s0_0 t310 a1 true t313 w0 _ ?side1 ?side2 A5.out).mono ?_); (case side1 => repeat (first | (with_reducible first | exact HI0.out | apply IsS84.alloc | apply IsS84.drewN | apply IsS84.drew | apply IsS84.set_1 | refine IsS84.far ?_ NB0_306.out _ | refine IsS84.far ?_ NB0_311.out _) | exact HI0.out)); (case side2 => repeat (first | (with_reducible first | exact HB.out | apply below_alloc | apply pw_below_drewN | apply below_drew1 | refine below_set ?_ (IsS84.ge HI0.out) | refine below_set ?_ GE306.out | refine below_set ?_ GE311.out) | exact HB.out)); rintro e w17 ⟨rfl, hi, hb, hk⟩; refine ⟨_, rfl, ?_⟩; have n0_ := Aside0.mk (KeepBut.blk hk (g' := gb306) (o := .cells #[.int .i64 0, .int .i64 0] 31 (0, 0)) (by (with_reducible repeat (first | refine blk_drewN ?_ _ | refine blk_drew ?_ | refine blk_alloc ?_ _)); refine blk_far ?_ NB306_311.out _; (with_reducible repeat (first | refine blk_drewN ?_ _ | refine blk_drew ?_ | refine blk_alloc ?_ _)); refine blk_far ?_ NB306_311.out _; (with_reducible repeat (first | refine blk_drewN ?_ _ | refine blk_drew ?_ | refine blk_alloc ?_ _)); exact BK306.out) NB306_0.out (by simp)); have n1_ := Aside0.mk (KeepBut.blk hk (g' := gb311) (o := .cells #[.int .i64 t307, .int .i64 (wrap64 (1 + t309))] 31 (0, 0)) (by (with_reducible repeat (first | refine blk_drewN ?_ _ | refine blk_drew ?_ | refine blk_alloc ?_ _)); refine blk_put (cs := #[.int .i64 t307, .int .i64 0]) ?_ 1 _ rfl; (with_reducible repeat (first | refine blk_drewN ?_ _ | refine blk_drew ?_ | refine blk_alloc ?_ _)); refine blk_put (cs := #[.int .i64 0, .int .i64 0]) ?_ 0 _ rfl; (with_reducible repeat (first | refine blk_drewN ?_ _ | refine blk_drew ?_ | refine blk_alloc ?_ _)); exact BK311.out) NB311_0.out (by simp)); have n2_ := Aside0.mk (KeepBut.trans (by repeat (first | (with_reducible first | exact HK.out | apply KeepBut.set_ | apply keep_drewN | apply keep_drew | apply keep_alloc | refine keep_far ?_ GW306.out _ | refine keep_far ?_ GW311.out _) | exact HK.out)) hk (.inl rfl)); have n3_ := Aside0.mk (hb); have n4_ := Aside0.mk (hi); clear BK306; clear BK311; clear HK; clear HB; clear HI0; have BK306 := n0_; have BK311 := n1_; have HK := n2_; have HB := n3_; have HI0 := n4_; clear n0_ n1_ n2_ n3_ n4_; (try clear hb); (try clear hb2); (try clear hk); (try clear hi)) | ((with_reducible refine gate_dst (N := 19) rfl ?_); refine Kd.R_lit k31 _ 31 ?hg (N := 19) ?hd (xs := ([(⟨0, 0⟩ : S31), (⟨(-1), 1⟩ : S31), (⟨21, 1⟩ : S31), (⟨0, 21⟩ : S31)] : List (S31))) (inner := [.int .i64 0, .int .i64 0, .int .i64 (-1), .int .i64 1, .int .i64 21, .int .i64 1, .int .i64 0, .int .i64 21]) (ok := fun _ => True) (okp := fun _ => True) ?hr ?hp (fun _ hk => hk) trivial (Below.refl _ _) (Nat.le_refl _) (by simp) ?_; (case hd => rfl); (case hg => rfl); (case hr => first | (go_simp; done) | (go_simp; rfl)); (case hp => exact (Reps.c2 (show Kd.M k31 _ _ _ (⟨0, 0⟩ : S31) [.int .i64 0, .int .i64 0] from (k31_mkM _ _ _ (⟨0, 0⟩ : S31) )) (Reps.c2 (show Kd.M k31 _ _ _ (⟨(-1), 1⟩ : S31) [.int .i64 (-1), .int .i64 1] from (k31_mkM _ _ _ (⟨(-1), 1⟩ : S31) )) (Reps.c2 (show Kd.M k31 _ _ _ (⟨21, 1⟩ : S31) [.int .i64 21, .int .i64 1] from (k31_mkM _ _ _ (⟨21, 1⟩ : S31) )) (Reps.c2 (show Kd.M k31 _ _ _ (⟨0, 21⟩ : S31) [.int .i64 0, .int .i64 21] from (k31_mkM _ _ _ (⟨0, 21⟩ : S31) )) (Reps.none _ _)))))); intro v315 w18 ho19 hb hg_ hnew_; clear hg_ hnew_; (first | rw [← Ny314.out] at ho19 | (simp only [Int.reduceToNat] at ho19; rw [← Ny314.out] at ho19)); have n0_ := Aside0.mk (Kd.R_lower (Kd.R_newB (Kd.R_newB ho19 (g := gb306) (o := .cells #[.int .i64 0, .int .i64 0] 31 (0, 0)) (by (with_reducible repeat (first | refine blk_drewN ?_ _ | refine blk_drew ?_ | refine blk_alloc ?_ _)); exact BK306.out)) (g := gb311) (o := .cells #[.int .i64 t307, .int .i64 (wrap64 (1 + t309))] 31 (0, 0)) (by (with_reducible repeat (first | refine blk_drewN ?_ _ | refine blk_drew ?_ | refine blk_alloc ?_ _)); exact BK311.out)) (keep_size (w := w) (g := g) (row := none) (by repeat (first | (with_reducible first | exact HK.out | apply KeepBut.set_ | apply keep_drewN | apply keep_drew | apply keep_alloc | refine keep_far ?_ GW306.out _ | refine keep_far ?_ GW311.out _) | exact HK.out)))); have n1_ := Aside0.mk (IsS84.below (by repeat (first | (with_reducible first | exact HI0.out | apply IsS84.alloc | apply IsS84.drewN | apply IsS84.drew | apply IsS84.set_1 | refine IsS84.far ?_ NB0_306.out _ | refine IsS84.far ?_ NB0_311.out _) | exact HI0.out)) hb); have n2_ := Aside0.mk (blk_below (g := gb306) (o := .cells #[.int .i64 0, .int .i64 0] 31 (0, 0)) (by (with_reducible repeat (first | refine blk_drewN ?_ _ | refine blk_drew ?_ | refine blk_alloc ?_ _)); exact BK306.out) hb); have n3_ := Aside0.mk (blk_below (g := gb311) (o := .cells #[.int .i64 t307, .int .i64 (wrap64 (1 + t309))] 31 (0, 0)) (by (with_reducible repeat (first | refine blk_drewN ?_ _ | refine blk_drew ?_ | refine blk_alloc ?_ _)); exact BK311.out) hb); have n4_ := Aside0.mk (KeepBut.trans (by repeat (first | (with_reducible first | exact HK.out | apply KeepBut.set_ | apply keep_drewN | apply keep_drew | apply keep_alloc | refine keep_far ?_ GW306.out _ | refine keep_far ?_ GW311.out _) | exact HK.out)) (KeepBut.of_below hb g none) (.inl rfl)); have n5_ := Aside0.mk (below_step (by repeat (first | (with_reducible first | exact HB.out | apply below_alloc | apply pw_below_drewN | apply below_drew1 | refine below_set ?_ (IsS84.ge HI0.out) | refine below_set ?_ GE306.out | refine below_set ?_ GE311.out) | exact HB.out)) hb); clear HI0; clear BK306; clear BK311; clear HK; clear HB; have HO316 := n0_; have HI0 := n1_; have BK306 := n2_; have BK311 := n3_; have HK := n4_; have HB := n5_; clear n0_ n1_ n2_ n3_ n4_ n5_; clear hb ho19) | ((with_reducible refine gate_callee (f := 58) rfl ?_); refine goesL_ (some 21) rfl rfl Try.func58 (by kernel_rfl) rfl #[.pointer (some ⟨g, 0, none⟩), .int .i64 4] rfl (by (try simp only [List.map_toArray, List.map_cons, List.map_nil]); first | done | rfl | (simp only [List.length_drop, List.length_take]; rfl)) ?_; (with_reducible refine (spec_l20Rd_pick.calls k g s0_0 t313 4 t317 t318 w0 _ ?side1 ?side2 A7.out).mono ?_); (case side1 => repeat (first | (with_reducible first | exact HI0.out | apply IsS84.alloc | apply IsS84.drewN | apply IsS84.drew | apply IsS84.set_1 | refine IsS84.far ?_ NB0_306.out _ | refine IsS84.far ?_ NB0_311.out _) | exact HI0.out)); (case side2 => repeat (first | (with_reducible first | exact HB.out | apply below_alloc | apply pw_below_drewN | apply below_drew1 | refine below_set ?_ (IsS84.ge HI0.out) | refine below_set ?_ GE306.out | refine below_set ?_ GE311.out) | exact HB.out)); rintro e w20 ⟨rfl, hi, hb, hk⟩; refine ⟨_, rfl, ?_⟩; have n0_ := Aside0.mk (KeepBut.blk hk (g' := gb306) (o := .cells #[.int .i64 0, .int .i64 0] 31 (0, 0)) (by (with_reducible repeat (first | refine blk_drewN ?_ _ | refine blk_drew ?_ | refine blk_alloc ?_ _)); exact BK306.out) NB306_0.out (by simp)); have n1_ := Aside0.mk (KeepBut.blk hk (g' := gb311) (o := .cells #[.int .i64 t307, .int .i64 (wrap64 (1 + t309))] 31 (0, 0)) (by (with_reducible repeat (first | refine blk_drewN ?_ _ | refine blk_drew ?_ | refine blk_alloc ?_ _)); exact BK311.out) NB311_0.out (by simp)); have n2_ := Aside0.mk (Kd.R_mono (Kd.R_keep (IsS84.apart (show IsS84 w0 _ g s0_0 t313 from by repeat (first | (with_reducible first | exact HI0.out | apply IsS84.alloc | apply IsS84.drewN | apply IsS84.drew | apply IsS84.set_1 | refine IsS84.far ?_ NB0_306.out _ | refine IsS84.far ?_ NB0_311.out _) | exact HI0.out)) (by (with_reducible repeat (first | apply Kd.R_alloc | apply Kd.R_drewN | apply Kd.R_drew)); exact HO316.out) (by decide)) hk (fun _ h => h.2)) (fun _ h => h.1)); have n3_ := Aside0.mk (KeepBut.trans (by repeat (first | (with_reducible first | exact HK.out | apply KeepBut.set_ | apply keep_drewN | apply keep_drew | apply keep_alloc | refine keep_far ?_ GW306.out _ | refine keep_far ?_ GW311.out _) | exact HK.out)) hk (.inl rfl)); have n4_ := Aside0.mk (hb); have n5_ := Aside0.mk (hi); clear BK306; clear BK311; clear HO316; clear HK; clear HB; clear HI0; have BK306 := n0_; have BK311 := n1_; have HO316 := n2_; have HK := n3_; have HB := n4_; have HI0 := n5_; clear n0_ n1_ n2_ n3_ n4_ n5_; (try clear hb); (try clear hb2); (try clear hk); (try clear hi); obtain ⟨Ao21, co21, eo21⟩ := Kd.R_slice HO316.out; subst eo21; have p319 : 0 ≤ (t317 : Int) := of_decide_eq_true (by first | (with_reducible assumption) | assumption); have q319 : t317 < (y314.length : Int) := of_decide_eq_true (by first | (with_reducible assumption) | assumption); obtain ⟨ad319, e319, hx319_0, hx319_1⟩ := at_T31 (Kd.R_reads' HO316.out).2.2 t317 p319 q319; cases e319; replace p319 := eq_true p319; replace q319 := eq_true q319; have hnb22 := NB306_0.out; have hnc22 := NB0_306.out; have hcz23_0 : w20.cell? ⟨gb306, 0, none⟩ = some (.int .i64 0) := (blk_cell BK306.out 0).trans rfl; have hcz23_1 : w20.cell? ⟨gb306, 1, none⟩ = some (.int .i64 0) := (blk_cell BK306.out 1).trans rfl; have hfz23_0 := blk_frozen BK306.out 0; have hfz23_1 := blk_frozen BK306.out 1))
        refine bodyPost_ret (results_cell_row rfl _ _ gb306 31 #[.int .i64 ((rd_T31 y314 t317).f0), .int .i64 ((rd_T31 y314 t317).f1)] (0, 0) _ rfl (by (with_reducible repeat (first | refine blk_drewN ?_ _ | refine blk_drew ?_ | refine blk_alloc ?_ _)); refine blk_put (cs := #[.int .i64 ((rd_T31 y314 t317).f0), .int .i64 0]) ?_ 1 _ rfl; (with_reducible repeat (first | refine blk_drewN ?_ _ | refine blk_drew ?_ | refine blk_alloc ?_ _)); refine blk_put (cs := #[.int .i64 0, .int .i64 0]) ?_ 0 _ rfl; (with_reducible repeat (first | refine blk_drewN ?_ _ | refine blk_drew ?_ | refine blk_alloc ?_ _)); exact BK306.out) Try.underlying31 rfl (by kernel_rfl)) rfl ?_
        exact ⟨by first | rfl | (simp [errW_none, errW_some] <;> rfl) | (simp [*, errW_none, errW_some] <;> rfl), by repeat (first | (with_reducible first | exact HI0.out | apply IsS84.alloc | apply IsS84.drewN | apply IsS84.drew | apply IsS84.set_1 | refine IsS84.far ?_ NB0_306.out _ | refine IsS84.far ?_ NB0_311.out _) | exact HI0.out), by repeat (first | (with_reducible first | exact HB.out | apply below_alloc | apply pw_below_drewN | apply below_drew1 | refine below_set ?_ (IsS84.ge HI0.out) | refine below_set ?_ GE306.out | refine below_set ?_ GE311.out) | exact HB.out), by repeat (first | (with_reducible first | exact HK.out | apply KeepBut.set_ | apply keep_drewN | apply keep_drew | apply keep_alloc | refine keep_far ?_ GW306.out _ | refine keep_far ?_ GW311.out _) | exact HK.out)⟩
      · rw [if_neg c9] at H
        exact absurd H (by simp)
    · rw [if_neg c8] at H
      exact absurd H (by simp)
  · replace c6 := Bool.eq_false_iff.mpr c6
    subst c6
    have H1 : (some (t307, wrap64 (1 + t309), t313)) = some (r1, r2, r3) := by rw [if_neg (show ¬ (false = true) by decide)] at H; exact H
    clear H
    have H := H1
    clear H1
    simp only [Option.some.injEq, Prod.mk.injEq] at H
    obtain ⟨rfl, rfl, rfl⟩ := H
    go_enter Try.func57, Try.ntmps57
    go_wp2_with (first | ((with_reducible refine gate_dst (N := 4) rfl ?_); refine box_event ?hg (N := 4) ?hd (cs := #[.int .i64 0, .int .i64 0]) (t := 31) ?hr ?_; (case hd => rfl); (case hg => rfl); (case hr => first | (go_simp; done) | (go_simp; rfl)); intro gb306 hg w24 hbox hb; have n0_ := Aside0.mk (IsS84.below (by repeat (first | (with_reducible first | exact HI0.out | apply IsS84.alloc | apply IsS84.drewN | apply IsS84.drew | apply IsS84.set_1) | exact HI0.out)) hb); have n1_ := Aside0.mk (KeepBut.trans (by repeat (first | (with_reducible first | exact HK.out | apply KeepBut.set_ | apply keep_drewN | apply keep_drew | apply keep_alloc) | exact HK.out)) (KeepBut.of_below hb g none) (.inl rfl)); have n2_ := Aside0.mk (below_step (by repeat (first | (with_reducible first | exact HB.out | apply below_alloc | apply pw_below_drewN | apply below_drew1 | refine below_set ?_ (IsS84.ge HI0.out)) | exact HB.out)) hb); have n3_ := Aside0.mk (hbox); have n4_ := Aside0.mk ((by rw [hg]; exact (keep_size (w := w) (g := g) (row := none) (by repeat (first | (with_reducible first | exact HK.out | apply KeepBut.set_ | apply keep_drewN | apply keep_drew | apply keep_alloc) | exact HK.out))) : w.heap.size ≤ gb306)); have n5_ := Aside0.mk ((Nat.le_trans HW0.out (by rw [hg]; exact (keep_size (w := w) (g := g) (row := none) (by repeat (first | (with_reducible first | exact HK.out | apply KeepBut.set_ | apply keep_drewN | apply keep_drew | apply keep_alloc) | exact HK.out))) : w.heap.size ≤ gb306) : w0.heap.size ≤ gb306)); have n6_ := Aside0.mk ((by rw [hg]; exact Nat.ne_of_lt (IsS84.lt (show IsS84 w0 _ g s0_0 s0_1 from by repeat (first | (with_reducible first | exact HI0.out | apply IsS84.alloc | apply IsS84.drewN | apply IsS84.drew | apply IsS84.set_1) | exact HI0.out))) : g ≠ gb306)); have n7_ := Aside0.mk ((by rw [hg]; exact Nat.ne_of_gt (IsS84.lt (show IsS84 w0 _ g s0_0 s0_1 from by repeat (first | (with_reducible first | exact HI0.out | apply IsS84.alloc | apply IsS84.drewN | apply IsS84.drew | apply IsS84.set_1) | exact HI0.out))) : gb306 ≠ g)); clear HI0; clear HK; clear HB; have HI0 := n0_; have HK := n1_; have HB := n2_; have BK306 := n3_; have GW306 := n4_; have GE306 := n5_; have NB0_306 := n6_; have NB306_0 := n7_; clear n0_ n1_ n2_ n3_ n4_ n5_ n6_ n7_; clear hb hbox hg) | ((with_reducible refine gate_callee (f := 58) rfl ?_); refine goesL_ (some 7) rfl rfl Try.func58 (by kernel_rfl) rfl #[.pointer (some ⟨g, 0, none⟩), .int .i64 9] rfl (by (try simp only [List.map_toArray, List.map_cons, List.map_nil]); first | done | rfl | (simp only [List.length_drop, List.length_take]; rfl)) ?_; (with_reducible refine (spec_l20Rd_pick.calls k g s0_0 s0_1 9 t307 t308 w0 _ ?side1 ?side2 A3.out).mono ?_); (case side1 => repeat (first | (with_reducible first | exact HI0.out | apply IsS84.alloc | apply IsS84.drewN | apply IsS84.drew | apply IsS84.set_1 | refine IsS84.far ?_ NB0_306.out _) | exact HI0.out)); (case side2 => repeat (first | (with_reducible first | exact HB.out | apply below_alloc | apply pw_below_drewN | apply below_drew1 | refine below_set ?_ (IsS84.ge HI0.out) | refine below_set ?_ GE306.out) | exact HB.out)); rintro e w25 ⟨rfl, hi, hb, hk⟩; refine ⟨_, rfl, ?_⟩; have n0_ := Aside0.mk (KeepBut.blk hk (g' := gb306) (o := .cells #[.int .i64 0, .int .i64 0] 31 (0, 0)) (by (with_reducible repeat (first | refine blk_drewN ?_ _ | refine blk_drew ?_ | refine blk_alloc ?_ _)); exact BK306.out) NB306_0.out (by simp)); have n1_ := Aside0.mk (KeepBut.trans (by repeat (first | (with_reducible first | exact HK.out | apply KeepBut.set_ | apply keep_drewN | apply keep_drew | apply keep_alloc | refine keep_far ?_ GW306.out _) | exact HK.out)) hk (.inl rfl)); have n2_ := Aside0.mk (hb); have n3_ := Aside0.mk (hi); clear BK306; clear HK; clear HB; clear HI0; have BK306 := n0_; have HK := n1_; have HB := n2_; have HI0 := n3_; clear n0_ n1_ n2_ n3_; (try clear hb); (try clear hb2); (try clear hk); (try clear hi)) | ((with_reducible refine gate_callee (f := 58) rfl ?_); refine goesL_ (some 9) rfl rfl Try.func58 (by kernel_rfl) rfl #[.pointer (some ⟨g, 0, none⟩), .int .i64 9] rfl (by (try simp only [List.map_toArray, List.map_cons, List.map_nil]); first | done | rfl | (simp only [List.length_drop, List.length_take]; rfl)) ?_; (with_reducible refine (spec_l20Rd_pick.calls k g s0_0 t308 9 t309 t310 w0 _ ?side1 ?side2 A4.out).mono ?_); (case side1 => repeat (first | (with_reducible first | exact HI0.out | apply IsS84.alloc | apply IsS84.drewN | apply IsS84.drew | apply IsS84.set_1 | refine IsS84.far ?_ NB0_306.out _) | exact HI0.out)); (case side2 => repeat (first | (with_reducible first | exact HB.out | apply below_alloc | apply pw_below_drewN | apply below_drew1 | refine below_set ?_ (IsS84.ge HI0.out) | refine below_set ?_ GE306.out) | exact HB.out)); rintro e w26 ⟨rfl, hi, hb, hk⟩; refine ⟨_, rfl, ?_⟩; have n0_ := Aside0.mk (KeepBut.blk hk (g' := gb306) (o := .cells #[.int .i64 0, .int .i64 0] 31 (0, 0)) (by (with_reducible repeat (first | refine blk_drewN ?_ _ | refine blk_drew ?_ | refine blk_alloc ?_ _)); exact BK306.out) NB306_0.out (by simp)); have n1_ := Aside0.mk (KeepBut.trans (by repeat (first | (with_reducible first | exact HK.out | apply KeepBut.set_ | apply keep_drewN | apply keep_drew | apply keep_alloc | refine keep_far ?_ GW306.out _) | exact HK.out)) hk (.inl rfl)); have n2_ := Aside0.mk (hb); have n3_ := Aside0.mk (hi); clear BK306; clear HK; clear HB; clear HI0; have BK306 := n0_; have HK := n1_; have HB := n2_; have HI0 := n3_; clear n0_ n1_ n2_ n3_; (try clear hb); (try clear hb2); (try clear hk); (try clear hi)) | ((with_reducible refine gate_dst (N := 5) rfl ?_); refine box_event ?hg (N := 5) ?hd (cs := #[.int .i64 0, .int .i64 0]) (t := 31) ?hr ?_; (case hd => rfl); (case hg => rfl); (case hr => first | (go_simp; done) | (go_simp; rfl)); intro gb311 hg w27 hbox hb; have n0_ := Aside0.mk (IsS84.below (by repeat (first | (with_reducible first | exact HI0.out | apply IsS84.alloc | apply IsS84.drewN | apply IsS84.drew | apply IsS84.set_1 | refine IsS84.far ?_ NB0_306.out _) | exact HI0.out)) hb); have n1_ := Aside0.mk (blk_below (g := gb306) (o := .cells #[.int .i64 0, .int .i64 0] 31 (0, 0)) (by (with_reducible repeat (first | refine blk_drewN ?_ _ | refine blk_drew ?_ | refine blk_alloc ?_ _)); exact BK306.out) hb); have n2_ := Aside0.mk (KeepBut.trans (by repeat (first | (with_reducible first | exact HK.out | apply KeepBut.set_ | apply keep_drewN | apply keep_drew | apply keep_alloc | refine keep_far ?_ GW306.out _) | exact HK.out)) (KeepBut.of_below hb g none) (.inl rfl)); have n3_ := Aside0.mk (below_step (by repeat (first | (with_reducible first | exact HB.out | apply below_alloc | apply pw_below_drewN | apply below_drew1 | refine below_set ?_ (IsS84.ge HI0.out) | refine below_set ?_ GE306.out) | exact HB.out)) hb); have n4_ := Aside0.mk (hbox); have n5_ := Aside0.mk ((by rw [hg]; exact (keep_size (w := w) (g := g) (row := none) (by repeat (first | (with_reducible first | exact HK.out | apply KeepBut.set_ | apply keep_drewN | apply keep_drew | apply keep_alloc | refine keep_far ?_ GW306.out _) | exact HK.out))) : w.heap.size ≤ gb311)); have n6_ := Aside0.mk ((Nat.le_trans HW0.out (by rw [hg]; exact (keep_size (w := w) (g := g) (row := none) (by repeat (first | (with_reducible first | exact HK.out | apply KeepBut.set_ | apply keep_drewN | apply keep_drew | apply keep_alloc | refine keep_far ?_ GW306.out _) | exact HK.out))) : w.heap.size ≤ gb311) : w0.heap.size ≤ gb311)); have n7_ := Aside0.mk ((by rw [hg]; exact Nat.ne_of_lt (blk_lt (g := gb306) (o := .cells #[.int .i64 0, .int .i64 0] 31 (0, 0)) (by (with_reducible repeat (first | refine blk_drewN ?_ _ | refine blk_drew ?_ | refine blk_alloc ?_ _)); exact BK306.out)) : gb306 ≠ gb311)); have n8_ := Aside0.mk ((by rw [hg]; exact Nat.ne_of_gt (blk_lt (g := gb306) (o := .cells #[.int .i64 0, .int .i64 0] 31 (0, 0)) (by (with_reducible repeat (first | refine blk_drewN ?_ _ | refine blk_drew ?_ | refine blk_alloc ?_ _)); exact BK306.out)) : gb311 ≠ gb306)); have n9_ := Aside0.mk ((by rw [hg]; exact Nat.ne_of_lt (IsS84.lt (show IsS84 w0 _ g s0_0 t310 from by repeat (first | (with_reducible first | exact HI0.out | apply IsS84.alloc | apply IsS84.drewN | apply IsS84.drew | apply IsS84.set_1 | refine IsS84.far ?_ NB0_306.out _) | exact HI0.out))) : g ≠ gb311)); have n10_ := Aside0.mk ((by rw [hg]; exact Nat.ne_of_gt (IsS84.lt (show IsS84 w0 _ g s0_0 t310 from by repeat (first | (with_reducible first | exact HI0.out | apply IsS84.alloc | apply IsS84.drewN | apply IsS84.drew | apply IsS84.set_1 | refine IsS84.far ?_ NB0_306.out _) | exact HI0.out))) : gb311 ≠ g)); clear HI0; clear BK306; clear HK; clear HB; have HI0 := n0_; have BK306 := n1_; have HK := n2_; have HB := n3_; have BK311 := n4_; have GW311 := n5_; have GE311 := n6_; have NB306_311 := n7_; have NB311_306 := n8_; have NB0_311 := n9_; have NB311_0 := n10_; clear n0_ n1_ n2_ n3_ n4_ n5_ n6_ n7_ n8_ n9_ n10_; clear hb hbox hg; have hnb28 := NB311_306.out; have hnc28 := NB306_311.out; have hnb29 := NB311_0.out; have hnc29 := NB0_311.out; have hcz30_0 : w27.cell? ⟨gb311, 0, none⟩ = some (.int .i64 0) := (blk_cell BK311.out 0).trans rfl; have hcz30_1 : w27.cell? ⟨gb311, 1, none⟩ = some (.int .i64 0) := (blk_cell BK311.out 1).trans rfl; have hfz30_0 := blk_frozen BK311.out 0; have hfz30_1 := blk_frozen BK311.out 1) | ((with_reducible refine gate_callee (f := 60) rfl ?_); refine goesL_ (some 14) rfl rfl Try.func60 (by kernel_rfl) rfl #[.pointer (some ⟨g, 0, none⟩), .int .i64 a1] rfl (by (try simp only [List.map_toArray, List.map_cons, List.map_nil]); first | done | rfl | (simp only [List.length_drop, List.length_take]; rfl)) ?_; (with_reducible refine (spec_l20Rd_odd.calls k g s0_0 t310 a1 false t313 w0 _ ?side1 ?side2 A5.out).mono ?_); (case side1 => repeat (first | (with_reducible first | exact HI0.out | apply IsS84.alloc | apply IsS84.drewN | apply IsS84.drew | apply IsS84.set_1 | refine IsS84.far ?_ NB0_306.out _ | refine IsS84.far ?_ NB0_311.out _) | exact HI0.out)); (case side2 => repeat (first | (with_reducible first | exact HB.out | apply below_alloc | apply pw_below_drewN | apply below_drew1 | refine below_set ?_ (IsS84.ge HI0.out) | refine below_set ?_ GE306.out | refine below_set ?_ GE311.out) | exact HB.out)); rintro e w31 ⟨rfl, hi, hb, hk⟩; refine ⟨_, rfl, ?_⟩; have n0_ := Aside0.mk (KeepBut.blk hk (g' := gb306) (o := .cells #[.int .i64 0, .int .i64 0] 31 (0, 0)) (by (with_reducible repeat (first | refine blk_drewN ?_ _ | refine blk_drew ?_ | refine blk_alloc ?_ _)); refine blk_far ?_ NB306_311.out _; (with_reducible repeat (first | refine blk_drewN ?_ _ | refine blk_drew ?_ | refine blk_alloc ?_ _)); refine blk_far ?_ NB306_311.out _; (with_reducible repeat (first | refine blk_drewN ?_ _ | refine blk_drew ?_ | refine blk_alloc ?_ _)); exact BK306.out) NB306_0.out (by simp)); have n1_ := Aside0.mk (KeepBut.blk hk (g' := gb311) (o := .cells #[.int .i64 t307, .int .i64 (wrap64 (1 + t309))] 31 (0, 0)) (by (with_reducible repeat (first | refine blk_drewN ?_ _ | refine blk_drew ?_ | refine blk_alloc ?_ _)); refine blk_put (cs := #[.int .i64 t307, .int .i64 0]) ?_ 1 _ rfl; (with_reducible repeat (first | refine blk_drewN ?_ _ | refine blk_drew ?_ | refine blk_alloc ?_ _)); refine blk_put (cs := #[.int .i64 0, .int .i64 0]) ?_ 0 _ rfl; (with_reducible repeat (first | refine blk_drewN ?_ _ | refine blk_drew ?_ | refine blk_alloc ?_ _)); exact BK311.out) NB311_0.out (by simp)); have n2_ := Aside0.mk (KeepBut.trans (by repeat (first | (with_reducible first | exact HK.out | apply KeepBut.set_ | apply keep_drewN | apply keep_drew | apply keep_alloc | refine keep_far ?_ GW306.out _ | refine keep_far ?_ GW311.out _) | exact HK.out)) hk (.inl rfl)); have n3_ := Aside0.mk (hb); have n4_ := Aside0.mk (hi); clear BK306; clear BK311; clear HK; clear HB; clear HI0; have BK306 := n0_; have BK311 := n1_; have HK := n2_; have HB := n3_; have HI0 := n4_; clear n0_ n1_ n2_ n3_ n4_; (try clear hb); (try clear hb2); (try clear hk); (try clear hi); have hcz32_0 : w31.cell? ⟨gb311, 0, none⟩ = some (.int .i64 t307) := (blk_cell BK311.out 0).trans rfl; have hcz32_1 : w31.cell? ⟨gb311, 1, none⟩ = some (.int .i64 (wrap64 (1 + t309))) := (blk_cell BK311.out 1).trans rfl; have hfz32_0 := blk_frozen BK311.out 0; have hfz32_1 := blk_frozen BK311.out 1; have hnb33 := NB306_0.out; have hnc33 := NB0_306.out; have hcz34_0 : w31.cell? ⟨gb306, 0, none⟩ = some (.int .i64 0) := (blk_cell BK306.out 0).trans rfl; have hcz34_1 : w31.cell? ⟨gb306, 1, none⟩ = some (.int .i64 0) := (blk_cell BK306.out 1).trans rfl; have hfz34_0 := blk_frozen BK306.out 0; have hfz34_1 := blk_frozen BK306.out 1))
    refine bodyPost_ret (results_cell_row rfl _ _ gb306 31 #[.int .i64 t307, .int .i64 (wrap64 (1 + t309))] (0, 0) _ rfl (by (with_reducible repeat (first | refine blk_drewN ?_ _ | refine blk_drew ?_ | refine blk_alloc ?_ _)); refine blk_put (cs := #[.int .i64 t307, .int .i64 0]) ?_ 1 _ rfl; (with_reducible repeat (first | refine blk_drewN ?_ _ | refine blk_drew ?_ | refine blk_alloc ?_ _)); refine blk_put (cs := #[.int .i64 0, .int .i64 0]) ?_ 0 _ rfl; (with_reducible repeat (first | refine blk_drewN ?_ _ | refine blk_drew ?_ | refine blk_alloc ?_ _)); exact BK306.out) Try.underlying31 rfl (by kernel_rfl)) rfl ?_
    exact ⟨by first | rfl | (simp [errW_none, errW_some] <;> rfl) | (simp [*, errW_none, errW_some] <;> rfl), by repeat (first | (with_reducible first | exact HI0.out | apply IsS84.alloc | apply IsS84.drewN | apply IsS84.drew | apply IsS84.set_1 | refine IsS84.far ?_ NB0_306.out _ | refine IsS84.far ?_ NB0_311.out _) | exact HI0.out), by repeat (first | (with_reducible first | exact HB.out | apply below_alloc | apply pw_below_drewN | apply below_drew1 | refine below_set ?_ (IsS84.ge HI0.out) | refine below_set ?_ GE306.out | refine below_set ?_ GE311.out) | exact HB.out), by repeat (first | (with_reducible first | exact HK.out | apply KeepBut.set_ | apply keep_drewN | apply keep_drew | apply keep_alloc | refine keep_far ?_ GW306.out _ | refine keep_far ?_ GW311.out _) | exact HK.out)⟩

end Go.Proofs.Ytooabmmnbifclaa.P
/- The draws of flows, links and resources end, and what they draw is small. Conditions: as the reader's. -/
namespace Go.Proofs.Ytooabmmnbifclaa.DrNet
open Go.RowKit Go.Proofs.Ytooabmmnbifclaa.P Go.Proofs.Ytooabmmnbifclaa.Base Go.Proofs.Ytooabmmnbifclaa.Gen Go.Proofs.Ytooabmmnbifclaa.Pb Go.Proofs.YtooabmmnbifclaaW.PrintWords Go.Proofs.YtooabmmnbifclaaW.PrintLast
section
variable (s : List Int) (p n : Int) (hs : Bytes s) (hp : 0 ≤ p) (hp2 : p ≤ 900000000)
include hs hp hp2
theorem flow_tot : Tot (fun k => spec_l20Flow.f k s p n) (fun r => p ≤ r.2.2 ∧ r.2.2 ≤ p + 4) := by
  unfold spec_l20Flow.f
  refine Tot.bind (pick_tot s p 21 hs hp (by omega)) ?_
  rintro ⟨a, q⟩ ⟨h, _, _⟩
  simp only at h; subst h
  refine Tot.bind (pick_tot s (p + 1) 7 hs (by omega) (by omega)) ?_
  rintro ⟨b, q⟩ ⟨h, _, _⟩
  simp only at h; subst h
  refine Tot.bind (odd_tot s (p + 1 + 1) n hs (by omega) (by omega)) ?_
  rintro ⟨c, q⟩ ⟨h1, h2⟩
  simp only at h1 h2
  refine Tot.ite (fun _ => ?_) (fun _ => Tot.ret _ ⟨by show p ≤ q; omega, by show q ≤ p + 4; omega⟩)
  refine some_bind _ ?_
  refine Tot.bind (pick_tot s q 4 hs (by omega) (by omega)) ?_
  rintro ⟨d, q'⟩ ⟨h, h3, h4⟩
  simp only at h h3 h4; subst h
  refine Tot.yes h3 (Tot.yes (by simp; omega) (Tot.ret _ ⟨by show p ≤ q + 1; omega, by show q + 1 ≤ p + 4; omega⟩))
theorem link_tot : Tot (fun k => spec_l20Link.f k s p n) (fun r => p ≤ r.2.2 ∧ r.2.2 ≤ p + 4) := by
  unfold spec_l20Link.f
  refine Tot.bind (pick_tot s p 9 hs hp (by omega)) ?_
  rintro ⟨a, q⟩ ⟨h, _, _⟩
  simp only at h; subst h
  refine Tot.bind (pick_tot s (p + 1) 9 hs (by omega) (by omega)) ?_
  rintro ⟨b, q⟩ ⟨h, _, _⟩
  simp only at h; subst h
  refine Tot.bind (odd_tot s (p + 1 + 1) n hs (by omega) (by omega)) ?_
  rintro ⟨c, q⟩ ⟨h1, h2⟩
  simp only at h1 h2
  refine Tot.ite (fun _ => ?_) (fun _ => Tot.ret _ ⟨by show p ≤ q; omega, by show q ≤ p + 4; omega⟩)
  refine some_bind _ ?_
  refine Tot.bind (pick_tot s q 4 hs (by omega) (by omega)) ?_
  rintro ⟨d, q'⟩ ⟨h, h3, h4⟩
  simp only at h h3 h4; subst h
  refine Tot.yes h3 (Tot.yes (by simp; omega) (Tot.ret _ ⟨by show p ≤ q + 1; omega, by show q + 1 ≤ p + 4; omega⟩))
theorem supply_tot : Tot (fun k => spec_l20Supply.f k s p n) (fun r => p ≤ r.2.2 ∧ r.2.2 ≤ p + 5 ∧ -100 ≤ r.1 ∧ r.1 ≤ 100 ∧ -100 ≤ r.2.1 ∧ r.2.1 ≤ 100) := by
  unfold spec_l20Supply.f
  refine Tot.bind (pick_tot s p 12 hs hp (by omega)) ?_
  rintro ⟨a, q⟩ ⟨h, ha0, ha1⟩
  simp only at h ha0 ha1; subst h
  have ha2 := ha1 (by omega)
  refine some_bind _ ?_
  refine Tot.bind (pick_tot s (p + 1) 4 hs (by omega) (by omega)) ?_
  rintro ⟨b, q⟩ ⟨h, h3, h4⟩
  simp only at h h3 h4; subst h
  refine Tot.yes h3 (Tot.yes (by simp; omega) ?_)
  have hm := rd_mem (xs := [4, 6, 12, wrap64 (1 + a)]) h3 (by simp; omega)
  rw [w64 (x := 1 + a) (by omega) (by omega)] at hm ⊢
  simp only [List.mem_cons, List.not_mem_nil, or_false] at hm
  generalize rd [4, 6, 12, 1 + a] b = c at hm ⊢
  have hc : 1 ≤ c ∧ c ≤ 12 := by omega
  have hd := tdiv_ok c 2 (by omega) (by omega)
  rw [w64 (x := Int.tdiv c 2) (by omega) (by omega), w64 (x := Int.tdiv c 2 + 1) (by omega) (by omega)]
  refine Tot.bind (pick_tot s (p + 1 + 1) _ hs (by omega) (by omega)) ?_
  rintro ⟨d, q⟩ ⟨h, h5, h6⟩
  simp only at h h5 h6; subst h
  have h7 := h6 (by unfold mx; split <;> omega)
  have h8 : mx 1 (Int.tdiv c 2 + 1) ≤ 13 := by unfold mx; split <;> omega
  refine Tot.bind (odd_tot s (p + 1 + 1 + 1) n hs (by omega) (by omega)) ?_
  rintro ⟨e, q⟩ ⟨h1, h2⟩
  simp only at h1 h2
  refine Tot.ite (fun _ => ?_) (fun _ => Tot.ret _ ⟨by show p ≤ q; omega, by show q ≤ p + 5; omega, ?_, ?_, by show -100 ≤ c; omega, by show c ≤ 100; omega⟩)
  · refine some_bind _ ?_
    refine Tot.bind (pick_tot s q 3 hs (by omega) (by omega)) ?_
    rintro ⟨d, q'⟩ ⟨h, h3, h4⟩
    simp only at h h3 h4; subst h
    have h9 : d = 0 ∨ d = 1 ∨ d = 2 := by omega
    rcases h9 with rfl | rfl | rfl
    all_goals exact Tot.yes (by omega) (Tot.yes (by dsimp only; decide) (Tot.ret _ ⟨by show p ≤ q + 1; omega, by show q + 1 ≤ p + 5; omega, by dsimp only; decide, by dsimp only; decide, by dsimp only; decide, by dsimp only; decide⟩))
  · show -100 ≤ mx 1 (wrap64 (c - d))
    rw [w64 (by omega) (by omega)]; unfold mx; split <;> omega
  · show mx 1 (wrap64 (c - d)) ≤ 100
    rw [w64 (by omega) (by omega)]; unfold mx; split <;> omega
end
end Go.Proofs.Ytooabmmnbifclaa.DrNet
/- The draw of a supply pattern ends. Conditions: as the reader's; the resource's numbers are small. -/
namespace Go.Proofs.Ytooabmmnbifclaa.DrPat
open Go.RowKit Go.Proofs.Ytooabmmnbifclaa.P Go.Proofs.Ytooabmmnbifclaa.Base Go.Proofs.Ytooabmmnbifclaa.Gen Go.Proofs.Ytooabmmnbifclaa.Pb Go.Proofs.Ytooabmmnbifclaa.Sup Go.Proofs.YtooabmmnbifclaaW.PrintWords Go.Proofs.YtooabmmnbifclaaW.PrintLast
section
variable (s : List Int) (n b p : Int) (hs : Bytes s) (hv : SV b p)
include hs
/-- Behind the loop. -/
theorem tail_tot (l : List Bool) (hl : l.length = 120) (a q : Int) (hq : 0 ≤ q) (hq2 : q ≤ 900000000) :
    Tot (fun k => spec_l20Pattern.j1 k n l a false s q b p) (fun r => r.1.length ≤ 120 ∧ q ≤ r.2 ∧ r.2 ≤ q + 3) := by
  refine Tot.step (fun k => by rw [spec_l20Pattern.j1]) (Tot.no (by simp) ?_)
  refine Tot.bind (odd_tot s q n hs hq (by omega)) ?_
  rintro ⟨c, q1⟩ ⟨h1, h2⟩
  simp only at h1 h2 ⊢
  refine Tot.ite (fun _ => ?_) (fun _ => Tot.ret _ ⟨by simp; omega, by simp; omega, by simp; omega⟩)
  refine Tot.bind (pick_tot s q1 120 hs (by omega) (by omega)) ?_
  rintro ⟨d, q2⟩ ⟨h, h3, h4⟩
  simp only at h h3 h4 ⊢; subst h
  have h4 := h4 (by omega)
  refine Tot.bind (pick_tot s (q1 + 1) 2 hs (by omega) (by omega)) ?_
  rintro ⟨e, q2⟩ ⟨h, h5, h6⟩
  simp only at h h5 h6 ⊢; subst h
  refine Tot.ite (fun _ => Tot.yes h3 (Tot.yes (by omega) (Tot.ret _ ⟨by simp; omega, by simp; omega, by simp; omega⟩))) (fun _ => Tot.yes h3 (Tot.yes (by omega) (Tot.ret _ ⟨by simp; omega, by simp; omega, by simp; omega⟩)))
include hv
theorem inner_tot (a : Int) (ha : 0 ≤ a) (ha2 : a < 120) (q0 : Int) (hq : 0 ≤ q0) (hq2 : q0 ≤ 800000000)
    (H : ∀ (l : List Bool) (q : Int), l.length = 120 → q0 ≤ q → q ≤ q0 + 12 → Tot (fun k => spec_l20Pattern.l0 k n l (a + p) s q b p) (fun r => r.1.length ≤ 120 ∧ 0 ≤ r.2 ∧ r.2 ≤ 900000000)) (x9 : Int) :
    ∀ (d : Nat) (j : Nat) (l : List Bool) (left q : Int), (j : Int) + d = p → l.length = 120 → -20 ≤ left → left ≤ 20 → q0 ≤ q → q ≤ q0 + j →
      Tot (fun k => spec_l20Pattern.l1 k n l a x9 left (j : Int) s q b p) (fun r => r.1.length ≤ 120 ∧ 0 ≤ r.2 ∧ r.2 ≤ 900000000) := by
  unfold SV at hv
  have out : ∀ (j : Nat) (l : List Bool) (left q : Int), (j : Int) ≤ 12 → l.length = 120 → q0 ≤ q → q ≤ q0 + 12 → Tot (fun k => spec_l20Pattern.j3 k n l a x9 left (j : Int) false s q b p) (fun r => r.1.length ≤ 120 ∧ 0 ≤ r.2 ∧ r.2 ≤ 900000000) := by
    intro j l left q hj hl h1 h2
    refine Tot.step (fun k => by rw [spec_l20Pattern.j3]) (Tot.no (by simp) ?_)
    rw [w64 (x := a + p) (by omega) (by omega)]
    exact H l q hl h1 h2
  intro d
  induction d with
  | zero =>
    intro j l left q hj hl _ _ h1 h2
    refine Tot.step (fun k => by rw [spec_l20Pattern.l1]) (Tot.no (by omega) ?_)
    exact out j l left q (by omega) hl h1 (by omega)
  | succ d ih =>
    intro j l left q hj hl hf hf2 h1 h2
    refine Tot.step (fun k => by rw [spec_l20Pattern.l1]) (Tot.yes (by omega) ?_)
    rw [w64 (x := a + j) (by omega) (by omega)]
    by_cases hx : a + j < 120
    · rw [show decide (a + (j : Int) < 120) = true from decide_eq_true hx]
      refine Tot.step (fun k => by rw [spec_l20Pattern.j3]) (Tot.yes rfl ?_)
      rw [w64 (x := a + j) (by omega) (by omega), w64 (x := left - 1) (by omega) (by omega), w64 (x := (j : Int) + 1) (by omega) (by omega)]
      have next : ∀ (l' : List Bool) (left' q' : Int), l'.length = 120 → -20 ≤ left' → left' ≤ 20 → q0 ≤ q' → q' ≤ q0 + (j + 1 : Nat) → Tot (fun k => spec_l20Pattern.l1 k n l' a x9 left' ((j : Int) + 1) s q' b p) (fun r => r.1.length ≤ 120 ∧ 0 ≤ r.2 ∧ r.2 ≤ 900000000) := by
        intro l' left' q' a1 a2 a3 a4 a5
        exact ih (j + 1) l' left' q' (by push_cast; omega) a1 a2 a3 a4 a5
      have hi : 0 ≤ a + (j : Int) := by omega
      have hlt : a + (j : Int) < (l.length : Int) := by omega
      have set_ : ∀ (v : Bool) (left' : Int), -20 ≤ left' → left' ≤ 20 → Tot (fun k => if 0 ≤ a + (j : Int) then (if a + (j : Int) < (l.length : Int) then spec_l20Pattern.l1 k n (l.set (a + (j : Int)).toNat v) a x9 left' ((j : Int) + 1) s q b p else none) else none) (fun r => r.1.length ≤ 120 ∧ 0 ≤ r.2 ∧ r.2 ≤ 900000000) := by
        intro v left' a1 a2
        exact Tot.yes hi (Tot.yes hlt (next _ _ _ (by simp [hl]) a1 a2 h1 (by push_cast; omega)))
      refine Tot.ite (fun hz => ?_) (fun _ => set_ _ _ hf hf2)
      refine Tot.ite (fun _ => set_ _ _ (by omega) (by omega)) (fun _ => ?_)
      refine Tot.ite (fun _ => set_ _ _ (by omega) (by omega)) (fun _ => ?_)
      refine Tot.ite (fun _ => ?_) (fun _ => set_ _ _ hf hf2)
      refine Tot.bind (pick_tot s q 2 hs (by omega) (by omega)) ?_
      rintro ⟨e, q2⟩ ⟨h, h5, h6⟩
      simp only at h h5 h6 ⊢; subst h
      refine Tot.yes hi (Tot.yes hlt (some_bind _ ?_))
      exact Tot.ite (fun _ => next _ _ _ (by simp [hl]) (by omega) (by omega) (by omega) (by push_cast; omega)) (fun _ => next _ _ _ (by simp [hl]) hf hf2 (by omega) (by push_cast; omega))
    · rw [show decide (a + (j : Int) < 120) = false from decide_eq_false hx]
      exact out j l left q (by omega) hl h1 (by omega)
theorem outer_tot : ∀ (d : Nat) (a : Int) (l : List Bool) (q : Int), 0 ≤ a → a + d = 132 → l.length = 120 → 0 ≤ q → q ≤ 700000000 + 13 * a →
    Tot (fun k => spec_l20Pattern.l0 k n l a s q b p) (fun r => r.1.length ≤ 120 ∧ 0 ≤ r.2 ∧ r.2 ≤ 900000000) := by
  have hv' := hv
  unfold SV at hv'
  intro d
  induction d using Nat.strongRecOn with
  | _ d ih =>
    intro a l q ha hd hl hq hq2
    refine Tot.step (fun k => by rw [spec_l20Pattern.l0]) (Tot.bind0 (ssv_f b p) (Tot.yes (decide_eq_true hv) ?_))
    by_cases hx : a < 120
    · rw [show decide (a < 120) = true from decide_eq_true hx]
      refine Tot.step (fun k => by rw [spec_l20Pattern.j1]) (Tot.yes rfl ?_)
      refine Tot.bind (pick_tot s q 3 hs hq (by omega)) ?_
      rintro ⟨e, q2⟩ ⟨h, h5, h6⟩
      simp only at h h5 h6 ⊢; subst h
      refine inner_tot s n b p hs hv a ha hx (q + 1) (by omega) (by omega) ?_ e p.toNat 0 l b (q + 1) (by push_cast; omega) hl (by omega) (by omega) (by omega) (by push_cast; omega)
      intro l' q' hl' h1 h2
      exact ih (132 - (a + p)).toNat (by omega) (a + p) l' q' (by omega) (by omega) hl' (by omega) (by omega)
    · rw [show decide (a < 120) = false from decide_eq_false hx]
      exact (tail_tot s n b p hs l hl a q hq (by omega)).mono (fun r hr => ⟨hr.1, by omega, by omega⟩)
end
/-- The draw of a pattern, for whatever resource. -/
theorem pattern_tot (s : List Int) (q b p n : Int) (hs : Bytes s) (hq : 0 ≤ q) (hq2 : q ≤ 700000000) : Tot (fun k => spec_l20Pattern.f k s q b p n) (fun r => r.1.length ≤ 120 ∧ 0 ≤ r.2 ∧ r.2 ≤ 900000000) := by
  unfold spec_l20Pattern.f
  refine Tot.yes (by decide) ?_
  by_cases hv : SV b p
  · exact outer_tot s n b p hs hv 132 0 _ q (by omega) (by omega) (by simp) hq (by omega)
  · refine Tot.step (fun k => by rw [spec_l20Pattern.l0]) (Tot.bind0 (ssv_f b p) (Tot.no (fun h => hv (of_decide_eq_true h)) ?_))
    exact (tail_tot s n b p hs _ (by simp) 0 q hq (by omega)).mono (fun r hr => ⟨hr.1, by omega, by omega⟩)
end Go.Proofs.Ytooabmmnbifclaa.DrPat
/- The library is alive. No condition. -/
namespace Go.Proofs.Ytooabmmnbifclaa.Alive
open Go.RowKit Go.Proofs.Ytooabmmnbifclaa.P Go.Proofs.Ytooabmmnbifclaa.Base Go.Proofs.YtooabmmnbifclaaW.PrintWords Go.Proofs.YtooabmmnbifclaaW.PrintLast
def TV (c d p : Int) : Prop := 1 ≤ c ∧ c ≤ 8 ∧ c ≤ d ∧ d ≤ p ∧ p ≤ 12
instance (c d p : Int) : Decidable (TV c d p) := by unfold TV; infer_instance
theorem task_f (c d p : Int) : impl_TaskValid.f c d p = some (decide (TV c d p)) := by
  unfold impl_TaskValid.f
  rw [in_f, in_f, and_bind, and_bind]
  by_cases h1 : 1 ≤ c ∧ c ≤ 8
  · by_cases h2 : c ≤ d ∧ d ≤ p
    · rw [if_pos h1, if_pos h2]; congr 1; rw [decide_eq_decide]; unfold TV; omega
    · rw [if_pos h1, if_neg h2]; congr 1; symm; rw [decide_eq_false_iff_not]; unfold TV; omega
  · rw [if_neg h1]; congr 1; symm; rw [decide_eq_false_iff_not]; unfold TV; omega
theorem alive_f : laws_alive.f = some true := by
  unfold laws_alive.f
  rw [task_f]; rfl
end Go.Proofs.Ytooabmmnbifclaa.Alive
/- The supply bound is a lower bound. No condition. -/
namespace Go.Proofs.Ytooabmmnbifclaa.Pure
open Go.RowKit Go.Proofs.Ytooabmmnbifclaa.P Go.Proofs.Ytooabmmnbifclaa.Base Go.Proofs.Ytooabmmnbifclaa.Gen Go.Proofs.YtooabmmnbifclaaW.PrintWords Go.Proofs.YtooabmmnbifclaaW.PrintLast
open Go.Proofs.Ytooabmmnbifclaa.Pb Go.Proofs.Ytooabmmnbifclaa.Sup Go.Proofs.Ytooabmmnbifclaa.SupLaw Go.Proofs.Ytooabmmnbifclaa.Pat Go.Proofs.Ytooabmmnbifclaa.PatLaw Go.Proofs.Ytooabmmnbifclaa.DrNet Go.Proofs.Ytooabmmnbifclaa.DrPat Go.Proofs.Ytooabmmnbifclaa.Alive 
section
variable {b p : Int} {l : List Bool} (h : PV b p l)
include h
theorem inner (a : Nat) (L : Nat) (hL : (L : Int) = 120 / p * p) (hL2 : L ≤ 120) (H : Tot (fun k => laws_FnSupplyWorst.l0 k l L ((a : Int) + 1) b p) (fun r => r = true)) (ha : a ≤ L) :
    ∀ (d n : Nat), a + n + d = L → Tot (fun k => laws_FnSupplyWorst.l1 k l L a (cnt l a n : Int) ((a + n : Nat) : Int) b p) (fun r => r = true) := by
  intro d
  induction d with
  | zero =>
    intro n hn
    refine Tot.step (fun k => by rw [laws_FnSupplyWorst.l1]) (Tot.no (by omega) ?_)
    rw [w64 (x := (a : Int) + 1) (by omega) (by omega)]
    exact H
  | succ d ih =>
    intro n hn
    have hl := h.2.1
    have hc := cnt_succ l a n (by omega)
    have hw := worst h a (n + 1) (by rw [← hL]; omega)
    have hcl := cnt_le l a n
    have e1 : sbx b p (((a + n : Nat) : Int) - a + 1) = sb b p ((n + 1 : Nat) : Int) := by
      unfold sbx
      rw [if_pos ⟨h.1, by omega, by omega⟩]
      congr 1; omega
    refine Tot.step (fun k => by rw [laws_FnSupplyWorst.l1]) (Tot.yes (by omega) (Tot.yes (by omega) (Tot.yes (by omega) ?_)))
    rw [rdOf_at _ _ _ (by omega), w64 (x := ((a + n : Nat) : Int) - a) (by omega) (by omega), w64 (x := ((a + n : Nat) : Int) - a + 1) (by omega) (by omega), w64 (x := (cnt l a n : Int) + 1) (by omega) (by omega), w64 (x := ((a + n : Nat) : Int) + 1) (by omega) (by omega)]
    have hi := ih (n + 1) (by omega)
    rw [hc] at hi hw
    by_cases hb : l[a + n] = true
    · rw [if_pos hb] at hi hw
      refine Tot.yes hb (Tot.bind0 (supply_f b p _) ?_)
      rw [e1]
      refine Tot.no (by push_cast at hw ⊢; omega) ?_
      push_cast at hi ⊢
      exact hi
    · rw [if_neg hb] at hi hw
      refine Tot.no hb (Tot.bind0 (supply_f b p _) ?_)
      rw [e1]
      refine Tot.no (by push_cast at hw ⊢; omega) ?_
      push_cast at hi ⊢
      exact hi
theorem outer (L : Nat) (hL : (L : Int) = 120 / p * p) (hL2 : L ≤ 120) : ∀ (d a : Nat), a + d = L → Tot (fun k => laws_FnSupplyWorst.l0 k l L (a : Int) b p) (fun r => r = true) := by
  intro d
  induction d with
  | zero =>
    intro a ha
    exact Tot.step (fun k => by rw [laws_FnSupplyWorst.l0]) (Tot.no (by omega) (Tot.ret _ rfl))
  | succ d ih =>
    intro a ha
    refine Tot.step (fun k => by rw [laws_FnSupplyWorst.l0]) (Tot.yes (by omega) ?_)
    have := inner h a L hL hL2 (by simpa using ih (a + 1) (by omega)) (by omega) (d + 1) 0 (by omega)
    rw [cnt_zero] at this
    exact this
end
theorem FnSupplyWorst : laws_FnSupplyWorst.Pure := by
  intro l0 _ hl
  apply Tot.rounds
  unfold laws_FnSupplyWorst.f spec_DrawPatternValid.f
  refine Tot.ite (fun _ => Tot.ret _ rfl) (fun _ => ?_)
  refine Tot.bind (P := fun _ => True) ?_ ?_
  · refine open_tot l0 hl.2 (fun s hs => ?_)
    refine Tot.bind (supply_tot s 0 12 hs (by omega) (by omega)) ?_
    rintro ⟨b, p, q⟩ ⟨h1, h2, _⟩
    simp only at h1 h2 ⊢
    refine Tot.bind (pattern_tot s q b p 2 hs (by omega) (by omega)) ?_
    rintro _ _
    exact Tot.ret _ trivial
  rintro ⟨b, p, l⟩ _
  simp only
  refine Tot.bind (Tot.val (impl_pat b p l)) ?_
  rintro _ rfl
  refine Tot.bind (Tot.val (spec_pat b p l)) ?_
  rintro _ rfl
  refine Tot.no (by simp) (Tot.ite (fun h => ?_) (fun _ => Tot.bind0 alive_f (Tot.ret _ rfl)))
  have h := of_decide_eq_true h
  have hv := h.1
  unfold SV at hv
  refine Tot.no (by omega) ?_
  rw [tdiv_pos (by omega)]
  have e0 := Int.ediv_nonneg (show (0 : Int) ≤ 120 by omega) (show 0 ≤ p by omega)
  have e1 : (120 : Int) / p ≤ 120 := Int.ediv_le_self _ (by omega)
  have e2 : 120 / p * p ≤ 120 := Int.ediv_mul_le _ (by omega)
  have e3 : 0 ≤ 120 / p * p := Int.mul_nonneg e0 (by omega)
  rw [w64 (x := 120 / p) (by omega) (by omega), w64 (x := 120 / p * p) (by omega) (by omega)]
  obtain ⟨L, hL⟩ := Int.eq_ofNat_of_zero_le e3
  rw [hL]
  exact outer h L hL.symm (by omega) L 0 (by omega)
end Go.Proofs.Ytooabmmnbifclaa.Pure
/- Arguments of a law laid open: whatever reads as data of a type reads as a value of its kind.
   No condition. -/
namespace Go.Proofs.Ytooabmmnbifclaa.Opn
open Go.ChangeShapes Go.WideShapes Go.Deep Go.RowKit Go.Proofs.YtooabmmnbifclaaW.PrintWords
section
variable {H : Type} {enc : TypeId × Value → H} {P : Program} {W : World} {base : Nat} {spare : Nat → Bool} {held : Bool}

/-- Whatever reads as data of type t reads as a value of the kind d that is good. -/
def Opens {α : Type} (enc : TypeId × Value → H) (P : Program) (W : World) (base : Nat) (spare : Nat → Bool) (held : Bool) (t : TypeId) (d : Kd α) (G : α → Prop) : Prop :=
  ∀ (fuel : Nat) (cs : List Value) (x : DataW H × List MemPlace), DataW.trod enc P W base spare held fuel t cs = some x → ∃ a, d.K W a cs ∧ G a

theorem opens_int {t : TypeId} {k : IntKind} (hu : P.underlying t = some (.int k)) : Opens enc P W base spare held t (Kd.int k) (fun x => (Lit.int k x).wf = true) := by
  intro fuel cs x h
  obtain ⟨n, hc, _, hw⟩ := DataW.trod_int hu h
  exact ⟨n, hc, hw⟩
theorem opens_bool {t : TypeId} (hu : P.underlying t = some .bool) : Opens enc P W base spare held t Kd.bool (fun _ => True) := by
  intro fuel cs x h
  obtain ⟨n, hc, _⟩ := DataW.trod_bool hu h
  exact ⟨n, hc, trivial⟩

theorem list_of {α : Type} (m : Nat) (R : Nat → α → Prop) (h : ∀ i, i < m → ∃ a, R i a) : ∃ xs : List α, xs.length = m ∧ ∀ i a, xs[i]? = some a → R i a := by
  induction m with
  | zero => exact ⟨[], rfl, fun i a ha => by simp at ha⟩
  | succ m ih =>
    obtain ⟨xs, hl, hx⟩ := ih (fun i hi => h i (by omega))
    obtain ⟨a, ha⟩ := h m (by omega)
    refine ⟨xs ++ [a], by simp [hl], fun i b hb => ?_⟩
    rcases Nat.lt_or_ge i m with hi | hi
    · rw [List.getElem?_append_left (by omega)] at hb
      exact hx i b hb
    · have hi' : i = m := by
        have := (List.getElem?_eq_some_iff.1 hb).1
        simp at this
        omega
      subst hi'
      have : a = b := by simpa [hl] using hb
      subst this
      exact ha

/-- A slice of what opens. -/
theorem slice_row {α : Type} {t e : TypeId} {d : Kd α} {G : α → Prop} (hu : P.underlying t = some (.slice e)) (hC : P.cellsOf e = d.sz) (he : Opens enc P W base spare held e d G)
    {fuel : Nat} {A : Option Addr} {n cap : Nat} {x : DataW H × List MemPlace} (h : DataW.trod enc P W base spare held fuel t [.slice A n cap] = some x) :
    ∃ xs : List α, xs.length = n ∧ n ≤ cap ∧ n ≤ maxLen ∧ d.C W A xs.length xs ∧ ∀ y ∈ xs, G y := by
  rcases open_slice hu h with ⟨h0, _⟩ | ⟨a, len, c, m, k, D, Pl, hcs, _, hl, hm, hmm, _, hel⟩
  · simp only [List.cons.injEq, Value.slice.injEq, and_true] at h0
    obtain ⟨rfl, rfl, rfl⟩ := h0
    exact ⟨[], rfl, Nat.le_refl _, by simp [maxLen], Kd.C_nil d W, fun y hy => by simp at hy⟩
  · simp only [List.cons.injEq, Value.slice.injEq, and_true] at hcs
    obtain ⟨rfl, rfl, rfl⟩ := hcs
    have hle : n ≤ m := by rw [hmm]; split <;> omega
    obtain ⟨xs, hxl, hx⟩ := list_of (α := α) n (fun i y => G y ∧ ∃ cs', d.K W y cs' ∧ cs'.length = d.sz ∧ ∀ j, j < d.sz → W.cell? ((a.add (i * d.sz)).add j) = cs'[j]?) (by
      intro i hi
      obtain ⟨cs', hc, ht⟩ := hel i (by omega)
      obtain ⟨y, hK, hG⟩ := he _ _ _ ht
      rw [hC] at hc
      obtain ⟨_, hcl, hcc⟩ := World.cells?_some hc
      exact ⟨y, hG, cs', hK, hcl, hcc⟩)
    refine ⟨xs, hxl, hl, by omega, ⟨rfl, by simp only [maxLen] at hm; omega, fun hp => ⟨a, rfl, fun j p hj => ?_⟩⟩, fun y hy => ?_⟩
    · obtain ⟨_, cs', hK, hcl, hcc⟩ := hx j p hj
      refine ⟨cs', hcl, hK, fun i u hi => ?_⟩
      have hlt : i < d.sz := by
        have := (List.getElem?_eq_some_iff.1 hi).1
        omega
      rw [← Go.Deep.add_add, hcc i hlt, hi]
    · obtain ⟨i, hi, rfl⟩ := List.getElem_of_mem hy
      exact (hx i _ (List.getElem?_eq_getElem hi)).1
theorem opens_slice {α : Type} {t e : TypeId} {d : Kd α} {G : α → Prop} (hu : P.underlying t = some (.slice e)) (hC : P.cellsOf e = d.sz) (he : Opens enc P W base spare held e d G) :
    Opens enc P W base spare held t (Kd.slice e d) (fun xs => xs.length ≤ maxLen ∧ ∀ y ∈ xs, G y) := by
  intro fuel cs x h
  have hform : ∃ A n c, cs = [.slice A n c] := by
    rcases open_slice hu h with ⟨h0, _⟩ | ⟨a, len, c, m, k, D, Pl, hcs, _⟩
    · exact ⟨_, _, _, h0⟩
    · exact ⟨_, _, _, hcs⟩
  obtain ⟨A, n, c, rfl⟩ := hform
  obtain ⟨xs, rfl, hc, hm, hC', hG⟩ := slice_row hu hC he h
  exact ⟨xs, ⟨A, c, rfl, hc, hC'⟩, hm, hG⟩

/-- A struct of whole numbers. -/
theorem trod_ints {t : TypeId} {fs : Array Field} (hs : P.underlying t = some (.struct fs)) (hC : P.cellsOf t = fs.size) (hf : ∀ (j : Nat) (f : Field), fs[j]? = some f → f.offset = j ∧ P.cellsOf f.type = 1 ∧ P.underlying f.type = some (.int .i64))
    {fuel : Nat} {cs : List Value} {x : DataW H × List MemPlace} (h : DataW.trod enc P W base spare held fuel t cs = some x) :
    ∃ xs : List Int, xs.length = fs.size ∧ cs = xs.map (Value.int .i64) ∧ ∀ y ∈ xs, (Lit.int .i64 y).wf = true := by
  obtain ⟨ys, n, _, _, hl, hyl, hy⟩ := DataW.trod_struct hs h
  obtain ⟨xs, hxl, hx⟩ := list_of (α := Int) fs.size (fun j y => cs[j]? = some (.int .i64 y) ∧ (Lit.int .i64 y).wf = true) (by
    intro j hj
    have hfj : fs[j]? = some fs[j] := Array.getElem?_eq_getElem hj
    obtain ⟨ho, hk, hi⟩ := hf j _ hfj
    have h1 := hy j _ hfj
    rw [ho, hk] at h1
    have hjl : j < cs.length := by omega
    have e1 : (cs.drop j).take 1 = [cs[j]'hjl] := by
      rw [List.drop_eq_getElem_cons hjl]
      rfl
    rw [e1, List.getElem?_eq_getElem (by omega)] at h1
    obtain ⟨y, hc, _, hw⟩ := DataW.trod_int hi h1
    refine ⟨y, ?_, hw⟩
    rw [List.getElem?_eq_getElem hjl]
    simpa using hc)
  refine ⟨xs, hxl, ?_, fun y hy' => ?_⟩
  · apply List.ext_getElem?
    intro j
    rcases Nat.lt_or_ge j fs.size with hj | hj
    · rw [List.getElem?_map]
      have e := List.getElem?_eq_getElem (l := xs) (i := j) (by omega)
      rw [e, (hx j _ e).1]
      rfl
    · rw [List.getElem?_eq_none (by omega), List.getElem?_eq_none (by simp; omega)]
  · obtain ⟨i, hi, rfl⟩ := List.getElem_of_mem hy'
    exact (hx i _ (List.getElem?_eq_getElem hi)).2
theorem one2 {xs : List Int} (h : xs.length = 2) : ∃ a b, xs = [a, b] := by
  match xs, h with
  | [a, b], _ => exact ⟨a, b, rfl⟩
theorem one3 {xs : List Int} (h : xs.length = 3) : ∃ a b c, xs = [a, b, c] := by
  match xs, h with
  | [a, b, c], _ => exact ⟨a, b, c, rfl⟩
theorem one4 {xs : List Int} (h : xs.length = 4) : ∃ a b c d, xs = [a, b, c, d] := by
  match xs, h with
  | [a, b, c, d], _ => exact ⟨a, b, c, d, rfl⟩
theorem agg_cells (cs : Array Value) : (Value.agg cs).cells.toList = cs.toList := rfl
/-- The weight of a slice bounds its length. -/
theorem sized_row {t e : TypeId} {A : Option Addr} {n cap : Nat} {d : DataW H} {ps : List MemPlace} {ts : List TypeId} {ds : List (DataW H)} {j : Nat}
    (hsz : (DataW.weightsEach P ts ds).all (· ≤ reachBytes) = true) (ht : ts[j]? = some t) (hd : ds[j]? = some d) (hu : P.underlying t = some (.slice e)) {B : Nat} (hB : P.bytesOf e = B)
    (h : DataW.Trod enc P W base spare held t (.slice A n cap) d ps) : n * B ≤ 140737488351232 := by
  obtain ⟨fuel, hf⟩ := h
  have hf' : DataW.trod enc P W base spare held fuel t [.slice A n cap] = some (d, ps) := hf
  rcases open_slice hu hf' with ⟨h0, _⟩ | ⟨a, len, c, m, k, D, Pl, hcs, _, hl, hm, hmm, hx, hel⟩
  · simp only [List.cons.injEq, Value.slice.injEq, and_true] at h0
    obtain ⟨rfl, rfl, rfl⟩ := h0
    simp
  · simp only [List.cons.injEq, Value.slice.injEq, and_true] at hcs
    obtain ⟨rfl, rfl, rfl⟩ := hcs
    obtain ⟨hx, _⟩ := Prod.mk.inj hx
    subst hx
    have z := sized_slice hsz ht hd hu
    rw [hB] at z
    simp only [List.length_map, List.length_range] at z
    exact Nat.le_trans (Nat.mul_le_mul_right _ (by omega)) z
end
end Go.Proofs.Ytooabmmnbifclaa.Opn
/- The head of the translation: a cut, with nothing lifted. No condition. -/
namespace Go.Proofs.Ytooabmmnbifclaa.Head
open Go
def chars (l : List Nat) : List Char := l.map Char.ofNat
def w1 : List Nat := [104, 97, 114, 110, 101, 115, 115]
def w2 : List Nat := [52, 97, 48, 55, 50, 100, 57, 57, 51, 101, 97, 57, 52, 48, 102, 99, 98, 49, 98, 98, 97, 51, 102, 51, 56, 48, 55, 101, 48, 53, 100, 55, 97, 56, 97, 57, 48, 54, 57, 101, 99, 97, 50, 54, 48, 98, 54, 51, 97, 56, 48, 102, 57, 56, 100, 102, 100, 97, 100, 98, 51, 56, 54, 100]
def w3 : List Nat := [99, 117, 116]
def w4 : List Nat := [97, 116, 32, 108, 111, 111, 112, 46, 101, 120, 97, 109, 112, 108, 101, 47, 100, 101, 97, 100, 108, 105, 110, 101, 115, 99, 104, 101, 100, 117, 108, 101, 114, 47, 108, 97, 119, 115, 46, 70, 110, 69, 120, 97, 99, 116, 70, 108, 111, 119, 86, 97, 108, 105, 100, 32, 108, 111, 111, 112, 46, 101, 120, 97, 109, 112, 108, 101, 47, 100, 101, 97, 100, 108, 105, 110, 101, 115, 99, 104, 101, 100, 117, 108, 101, 114, 47, 108, 97, 119, 115, 46, 70, 110, 69, 120, 97, 99, 116, 76, 105, 110, 107, 86, 97, 108, 105, 100, 32, 108, 111, 111, 112, 46, 101, 120, 97, 109, 112, 108, 101, 47, 100, 101, 97, 100, 108, 105, 110, 101, 115, 99, 104, 101, 100, 117, 108, 101, 114, 47, 108, 97, 119, 115, 46, 70, 110, 69, 120, 97, 99, 116, 83, 117, 112, 112, 108, 121, 86, 97, 108, 105, 100, 32, 108, 111, 111, 112, 46, 101, 120, 97, 109, 112, 108, 101, 47, 100, 101, 97, 100, 108, 105, 110, 101, 115, 99, 104, 101, 100, 117, 108, 101, 114, 47, 108, 97, 119, 115, 46, 70, 110, 69, 120, 97, 99, 116, 67, 111, 110, 99, 97, 116, 101, 110, 97, 116, 101, 32, 108, 111, 111, 112, 46, 101, 120, 97, 109, 112, 108, 101, 47, 100, 101, 97, 100, 108, 105, 110, 101, 115, 99, 104, 101, 100, 117, 108, 101, 114, 47, 108, 97, 119, 115, 46, 70, 110, 69, 120, 97, 99, 116, 66, 97, 99, 107, 108, 111, 103, 66, 111, 117, 110, 100, 32, 108, 111, 111, 112, 46, 101, 120, 97, 109, 112, 108, 101, 47, 100, 101, 97, 100, 108, 105, 110, 101, 115, 99, 104, 101, 100, 117, 108, 101, 114, 47, 108, 97, 119, 115, 46, 70, 110, 69, 120, 97, 99, 116, 68, 101, 108, 97, 121, 66, 111, 117, 110, 100, 32, 108, 111, 111, 112, 46, 101, 120, 97, 109, 112, 108, 101, 47, 100, 101, 97, 100, 108, 105, 110, 101, 115, 99, 104, 101, 100, 117, 108, 101, 114, 47, 108, 97, 119, 115, 46, 70, 110, 69, 120, 97, 99, 116, 83, 117, 112, 112, 108, 121, 66, 111, 117, 110, 100, 32, 108, 111, 111, 112, 46, 101, 120, 97, 109, 112, 108, 101, 47, 100, 101, 97, 100, 108, 105, 110, 101, 115, 99, 104, 101, 100, 117, 108, 101, 114, 47, 108, 97, 119, 115, 46, 70, 110, 83, 117, 112, 112, 108, 121, 86, 97, 108, 105, 100, 32, 108, 111, 111, 112, 46, 101, 120, 97, 109, 112, 108, 101, 47, 100, 101, 97, 100, 108, 105, 110, 101, 115, 99, 104, 101, 100, 117, 108, 101, 114, 47, 108, 97, 119, 115, 46, 70, 110, 70, 108, 111, 119, 76, 105, 110, 107, 32, 108, 111, 111, 112, 46, 101, 120, 97, 109, 112, 108, 101, 47, 100, 101, 97, 100, 108, 105, 110, 101, 115, 99, 104, 101, 100, 117, 108, 101, 114, 47, 108, 97, 119, 115, 46, 70, 110, 83, 117, 112, 112, 108, 121, 66, 111, 117, 110, 100, 32, 108, 111, 111, 112, 46, 101, 120, 97, 109, 112, 108, 101, 47, 100, 101, 97, 100, 108, 105, 110, 101, 115, 99, 104, 101, 100, 117, 108, 101, 114, 47, 108, 97, 119, 115, 46, 70, 110, 67, 111, 110, 99, 97, 116, 101, 110, 97, 116, 101, 32, 108, 111, 111, 112, 46, 101, 120, 97, 109, 112, 108, 101, 47, 100, 101, 97, 100, 108, 105, 110, 101, 115, 99, 104, 101, 100, 117, 108, 101, 114, 47, 108, 97, 119, 115, 46, 70, 110, 66, 111, 117, 110, 100, 115, 32, 108, 111, 111, 112, 46, 101, 120, 97, 109, 112, 108, 101, 47, 100, 101, 97, 100, 108, 105, 110, 101, 115, 99, 104, 101, 100, 117, 108, 101, 114, 47, 108, 97, 119, 115, 46, 70, 110, 69, 120, 97, 99, 116, 80, 97, 116, 116, 101, 114, 110, 86, 97, 108, 105, 100, 32, 108, 111, 111, 112, 46, 101, 120, 97, 109, 112, 108, 101, 47, 100, 101, 97, 100, 108, 105, 110, 101, 115, 99, 104, 101, 100, 117, 108, 101, 114, 47, 108, 97, 119, 115, 46, 70, 110, 83, 117, 112, 112, 108, 121, 87, 111, 114, 115, 116]
theorem io_eq : Try.prog.initOrder = String.ofList (chars (w1 ++ 32 :: (w2 ++ 32 :: (w3 ++ 32 :: w4)))) := by kernel_rfl
theorem io_list : Try.prog.initOrder.toList = chars (w1 ++ 32 :: (w2 ++ 32 :: (w3 ++ 32 :: w4))) := by rw [io_eq, String.toList_ofList]
theorem ws_one (c : Char) (r w : List Char) (ws : List (List Char)) (hc : c ≠ Char.ofNat 32) (h : wordsSigns r = w :: ws) : wordsSigns (c :: r) = (c :: w) :: ws := by
  have e : wordsSigns (c :: r) = match wordsSigns r with
    | w :: ws => (c :: w) :: ws
    | [] => [[c]] := by
    rw [wordsSigns]
    · rfl
    · exact hc
  rw [e, h]
theorem ws_word (w : List Char) (h : ∀ c ∈ w, c ≠ Char.ofNat 32) (r : List Char) : wordsSigns (w ++ Char.ofNat 32 :: r) = w :: wordsSigns r := by
  induction w with
  | nil => rfl
  | cons c w ih => exact ws_one _ _ _ _ (h c (by simp)) (ih (fun x hx => h x (by simp [hx])))
theorem ws_nat (w r : List Nat) (h : w.all (fun n => !(Char.ofNat n == Char.ofNat 32)) = true) : wordsSigns (chars (w ++ 32 :: r)) = chars w :: wordsSigns (chars r) := by
  have e : chars (w ++ 32 :: r) = chars w ++ Char.ofNat 32 :: chars r := by simp [chars]
  rw [e]
  refine ws_word _ (fun c hc => ?_) _
  obtain ⟨n, hn, rfl⟩ := List.mem_map.1 hc
  have := List.all_eq_true.1 h n hn
  simpa using this
theorem io_words : behindMainWord (wordsSigns Try.prog.initOrder.toList) = chars w3 :: wordsSigns (chars w4) := by
  rw [io_list, ws_nat _ _ (by kernel_rfl), ws_nat _ _ (by kernel_rfl), ws_nat _ _ (by kernel_rfl)]
  generalize wordsSigns (chars w4) = R
  kernel_rfl
theorem make_gen (P : Program) (c : List Char) (R : List (List Char)) (h : behindMainWord (wordsSigns P.initOrder.toList) = c :: R) (h1 : (c == "gc".toList || c == "spec".toList) = false) (h2 : (c == "cut".toList) = true) : P.make = some .cut := by
  unfold Program.make
  rw [h]
  simp only [h1, h2, Bool.true_or, if_true, Bool.false_eq_true, if_false]
theorem make : Try.prog.make = some .cut := make_gen _ _ _ io_words (by kernel_rfl) (by kernel_rfl)
theorem enter_gen (P : Program) (c : List Char) (R : List (List Char)) (h : behindMainWord (wordsSigns P.initOrder.toList) = c :: R) (h1 : ∀ R, stripLifts liftWords (c :: R) = ([], c :: R)) (h2 : (some c == some "cut".toList) = true)
    (h3 : P.laysLater = false) (h4 : P.bearsReflect = false) (h5 : P.doorFits [] = true) : P.mayEnter = true := by
  unfold Program.mayEnter
  rw [h]
  simp only [h1, h2, h3, h4, h5, List.head?_cons, Bool.not_false, Bool.or_true, Bool.and_true, List.contains_nil]
theorem enter : Try.prog.mayEnter = true := enter_gen _ _ _ io_words (fun R => by kernel_rfl) (by kernel_rfl) (by kernel_rfl) (by kernel_rfl) (by kernel_rfl)
theorem lifts : Try.prog.liftsFinal = false := by
  unfold Program.liftsFinal Program.headLifts
  simp only [io_words]
  generalize wordsSigns (chars w4) = R
  kernel_rfl
end Go.Proofs.Ytooabmmnbifclaa.Head
/- The law FnSupplyWorst, proved: for every input the call returns true and each argument reads as it did. No condition. -/
namespace Go.Proofs.Ytooabmmnbifclaa.fnSupplyWorst
open Go.ChangeShapes Go.WideShapes Go.ChangeAt Go.RowKit Go.Proofs.YtooabmmnbifclaaW.PrintWords Go.Proofs.Ytooabmmnbifclaa.P
open Go.ChangeMaps (open_string shut_string)
theorem own : ownKnob Try.prog.godebug = none := by kernel_rfl
theorem laidOut : laidOutB Try.prog = true := by kernel_rfl
set_option maxRecDepth 100000 in
theorem lifted (os : Os) (started : os.Started) (H : Type) (enc : TypeId × Value → H) :
    ReturnsInHanded {} Try.checked os 16 .any (Rows.fnSupplyWorstSpec.pre6 enc Try.prog Try.f16 Rows.fnSupplyWorstRow.domain false) (Rows.fnSupplyWorstSpec.post enc Try.prog Try.f16 false true false false) := by
  refine returnsInHanded_of_change_sized (C := Try.checked) own started (by kernel_rfl) Try.func16
    (ChangeSpec.witness6 (enc := enc) (C := Try.checked) false ⟨#[], #[.slice none 0 0], []⟩ 8 (by kernel_rfl) (by kernel_rfl) (by kernel_rfl) (by kernel_rfl)) ?_
  intro W base args ds gs before hval0 hW hcnd hsz0 _
  have hsz : (DataW.weightsEach Try.prog (Try.f16.params.toList ++ Rows.fnSupplyWorstSpec.plain.varTypes Try.prog) (ds ++ gs)).all (· ≤ reachBytes) = true := hsz0
  have hval : ∀ (j : Nat) t v, Try.f16.params[j]? = some t → args[j]? = some v → Value.okWide Try.prog W .any base t v := hval0
  have hW' := hW
  obtain ⟨p, q, hA0, hV, rfl, hfz, hnd⟩ := hW
  have hA : DataW.TrodAll enc Try.prog W 0 (fun _ => true) true Try.f16.params.toList args.toList ds p := hA0
  rw [Try.params16] at hA hval hsz
  obtain ⟨v0, vs0, d0, ds0, p0, q0, hargs, rfl, rfl, h0, r0⟩ := trodAll_cons hA
  obtain ⟨rfl, rfl, rfl⟩ := trodAll_nil r0
  obtain rfl : args = #[v0] := by cases args; simp_all
  obtain ⟨rfl, rfl⟩ := trodVars_none hV
  have k0 := h0
  have lt0 : ∀ x ∈ p0, x.block < W.heap.size := by obtain ⟨m, hm⟩ := k0; exact DataW.trod_lt m _ _ _ hm
  obtain ⟨A0, n0, c0, rfl⟩ := okWide_slice Try.underlying47 (hval 0 47 v0 rfl rfl)
  have y0 : n0 * 1 ≤ 140737488351232 := Opn.sized_row hsz (j := 0) (t := 47) rfl rfl Try.underlying47 (by kernel_rfl) h0
  obtain ⟨l0, rfl, hc0, hm0, hr0, hg0⟩ : ∃ xs : List (Int), xs.length = n0 ∧ n0 ≤ c0 ∧ n0 ≤ maxLen ∧ Kd.C (Kd.int .u8) W A0 xs.length xs ∧ ∀ y0 ∈ xs, (Lit.int .u8 y0).wf = true := by
    obtain ⟨fuel, hf⟩ := h0
    exact Opn.slice_row Try.underlying47 (by kernel_rfl) (Opn.opens_int Try.underlying5) hf
  obtain ⟨k, hk⟩ := Pure.FnSupplyWorst l0 y0 ⟨hm0, hg0⟩
  clear hA0 hval0 hsz0 hsz
  refine (laws_FnSupplyWorst.calls k A0 c0 l0 true W hr0 hc0 hk).mono fun e W' ⟨he, hd⟩ => ?_
  have bel := hd
  subst he
  exact ⟨_, rfl, _, _, _, [], _, [], hW', trodAll_mk1 (shut_bool Try.underlying4 _), (trodAll_cons_mk (Below.trod laidOut (by kernel_rfl) (of_decide_eq_true (by kernel_rfl)) k0 bel lt0) trodAll_mk0), rfl, bel.frame _, fun h => by cases h⟩
theorem closed : joinedFacts Try.prog 16 Try.f16 Rows.fnSupplyWorstSpec Rows.fnSupplyWorstRow = true := by
  simp only [joinedFacts, Head.enter, Head.lifts, Head.make]
  kernel_rfl
theorem named : Try.prog.funcNamed Rows.fnSupplyWorstRow.func = some 16 := by kernel_rfl
theorem wrapped : Try.f16.isWrapper Try.prog Rows.fnSupplyWorstRow.wrapper Rows.fnSupplyWorstRow.mainSum := by unfold Func.isWrapper; first | (rw [if_pos (by decide +kernel)]; kernel_rfl) | (rw [if_neg (by decide +kernel)]; exact ⟨rfl, rfl⟩)
theorem over : Rows.fnSupplyWorstRow.holds Try.pinned (OpenSpec.ofChange Rows.fnSupplyWorstSpec) :=
  OpenClaim.holds_of_wide 16 Try.f16 rfl rfl rfl rfl rfl rfl rfl ⟨rfl, rfl, rfl, rfl, rfl⟩ rfl rfl rfl rfl rfl named Try.func16 closed
    (of_decide_eq_true (by kernel_rfl)) wrapped
    (fun os started H enc _ => lifted os started H enc)
theorem proved : Rows.FnSupplyWorstSaid := over
#print axioms proved
end Go.Proofs.Ytooabmmnbifclaa.fnSupplyWorst
namespace Go.Proofs.Ytooabmmnbifclaa
/-- The row, under a short name, for the claim. -/
theorem fnSupplyWorst_holds : Rows.FnSupplyWorstSaid := fnSupplyWorst.proved
end Go.Proofs.Ytooabmmnbifclaa
