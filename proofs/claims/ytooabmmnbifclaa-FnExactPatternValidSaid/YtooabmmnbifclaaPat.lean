/- Supply patterns: PatternValid, of the program and of the reference, is one test. No condition. -/
import Derived.Test.YtooabmmnbifclaaPx52
import Derived.Test.YtooabmmnbifclaaPx54
import Derived.Test.YtooabmmnbifclaaSup
import Derived.Test.YtooabmmnbifclaaGen
namespace Go.Proofs.Ytooabmmnbifclaa.Pat
open Go.RowKit Go.Proofs.Ytooabmmnbifclaa.P Go.Proofs.Ytooabmmnbifclaa.Base Go.Proofs.Ytooabmmnbifclaa.Sup Go.Proofs.Ytooabmmnbifclaa.Gen Go.Proofs.YtooabmmnbifclaaW.PrintWords Go.Proofs.YtooabmmnbifclaaW.PrintLast
/-- How many of the n ticks from a on are supplied. -/
def cnt (l : List Bool) (a n : Nat) : Nat := ((l.drop a).take n).countP (fun b => b)
theorem cnt_zero (l : List Bool) (a : Nat) : cnt l a 0 = 0 := by simp [cnt]
theorem cnt_succ (l : List Bool) (a n : Nat) (h : a + n < l.length) : cnt l a (n + 1) = cnt l a n + if l[a + n] = true then 1 else 0 := by
  unfold cnt
  rw [List.take_succ_eq_append_getElem (by simp; omega), List.countP_append, List.getElem_drop]
  by_cases hb : l[a + n] = true <;> simp [hb]
theorem cnt_le (l : List Bool) (a n : Nat) : cnt l a n ≤ n := by
  unfold cnt
  exact Nat.le_trans (List.countP_le_length) (List.length_take_le _ _)
/-- From block q on each block that ends in time has b supplied ticks. -/
def rest (b p : Nat) (l : List Bool) (q : Nat) : Prop := ∀ j : Nat, q ≤ j → j < 121 → (j + 1) * p ≤ 120 → cnt l (j * p) p = b
instance (b p : Nat) (l : List Bool) (q : Nat) : Decidable (rest b p l q) := by
  unfold rest
  exact decidable_of_iff (∀ j : Nat, j < 121 → q ≤ j → (j + 1) * p ≤ 120 → cnt l (j * p) p = b) ⟨fun h j h1 h2 h3 => h j h2 h1 h3, fun h j h1 h2 h3 => h j h2 h1 h3⟩
theorem rest_no {b p : Nat} {l : List Bool} {q : Nat} (h : 120 < (q + 1) * p) : rest b p l q := by
  intro j h1 _ h3
  have : (q + 1) * p ≤ (j + 1) * p := Nat.mul_le_mul_right _ (by omega)
  omega
theorem rest_succ {b p : Nat} {l : List Bool} {q : Nat} (hp : 1 ≤ p) (h : (q + 1) * p ≤ 120) : rest b p l q ↔ cnt l (q * p) p = b ∧ rest b p l (q + 1) := by
  have hq : q < 121 := by
    have : (q + 1) * 1 ≤ (q + 1) * p := Nat.mul_le_mul_left _ hp
    omega
  constructor
  · intro hr
    exact ⟨hr q (Nat.le_refl q) hq h, fun j h1 h2 h3 => hr j (by omega) h2 h3⟩
  · rintro ⟨h1, h2⟩ j h3 h4 h5
    rcases Nat.lt_or_ge q j with hj | hj
    · exact h2 j (by omega) h4 h5
    · obtain rfl : j = q := by omega
      exact h1
section
variable (b p : Nat) (l : List Bool) (hl : l.length = 120) (hp : 1 ≤ p) (hp2 : p ≤ 12)
include hl hp hp2
theorem spec_l1 (q : Nat) (hq : (q + 1) * p ≤ 120) (R : Bool) (hR : cnt l (q * p) p = b → Ev (fun k => spec_PatternValid.l0 k l ((q : Int) * p + p) b p) R) (hN : cnt l (q * p) p ≠ b → R = false) :
    ∀ d (j : Nat), j + d = p → Ev (fun k => spec_PatternValid.l1 k l ((q : Int) * p) (cnt l (q * p) j : Int) (j : Int) b p) R := by
  have hqq : q * p + p ≤ 120 := by rw [← Nat.succ_mul]; exact hq
  have ec : ((q * p : Nat) : Int) = (q : Int) * p := by push_cast; rfl
  have hb0 : (0 : Int) ≤ (q : Int) * p := by omega
  intro d
  induction d with
  | zero =>
    intro j hj
    obtain rfl : j = p := by omega
    by_cases hc : cnt l (q * j) j = b
    · refine Ev.step (f := fun k => spec_PatternValid.l0 k l ((q : Int) * j + j) b j) (fun k => ?_) (hR hc)
      simp only [spec_PatternValid.l1]
      rw [if_neg (by omega), if_pos (by omega), w64 (by omega) (by omega)]
    · refine Ev.step (f := fun _ => some false) (fun k => ?_) (by rw [hN hc]; exact Ev.now _)
      simp only [spec_PatternValid.l1]
      rw [if_neg (by omega), if_neg (by omega)]
  | succ d ih =>
    intro j hj
    have hcl := cnt_le l (q * p) j
    have hs := cnt_succ l (q * p) j (by omega)
    refine Ev.step (f := fun k => spec_PatternValid.l1 k l ((q : Int) * p) (cnt l (q * p) (j + 1) : Int) ((j + 1 : Nat) : Int) b p) (fun k => ?_) (ih (j + 1) (by omega))
    simp only [spec_PatternValid.l1]
    rw [if_pos (by omega), w64 (x := (q : Int) * p + j) (by omega) (by omega), if_pos (by omega), if_pos (by omega)]
    rw [show (q : Int) * p + j = ((q * p + j : Nat) : Int) by push_cast; rfl, rdOf_at _ _ _ (by omega), w64 (x := (j : Int) + 1) (by omega) (by omega), w64 (x := (cnt l (q * p) j : Int) + 1) (by omega) (by omega)]
    by_cases hb : l[q * p + j] = true
    · rw [if_pos hb] at hs ⊢
      rw [hs]; push_cast; rfl
    · rw [if_neg hb] at hs ⊢
      rw [hs]; push_cast; rfl
theorem impl_l1 (q : Nat) (hq : (q + 1) * p ≤ 120) (R : Bool) (hR : cnt l (q * p) p = b → Ev (fun k => impl_PatternValid.l0 k l ((q : Int) * p + p) b p) R) (hN : cnt l (q * p) p ≠ b → R = false) :
    ∀ d (j : Nat), j + d = p → Ev (fun k => impl_PatternValid.l1 k l ((q : Int) * p) (cnt l (q * p) j : Int) ((l.take (q * p + p)).drop (q * p)) (p : Int) (j : Int) b p) R := by
  have hqq : q * p + p ≤ 120 := by rw [← Nat.succ_mul]; exact hq
  have hb0 : (0 : Int) ≤ (q : Int) * p := by omega
  have ec : ((q * p : Nat) : Int) = (q : Int) * p := by push_cast; rfl
  intro d
  induction d with
  | zero =>
    intro j hj
    obtain rfl : j = p := by omega
    by_cases hc : cnt l (q * j) j = b
    · refine Ev.step (f := fun k => impl_PatternValid.l0 k l ((q : Int) * j + j) b j) (fun k => ?_) (hR hc)
      simp only [impl_PatternValid.l1]
      rw [if_neg (by omega), if_pos (by omega), w64 (by omega) (by omega)]
    · refine Ev.step (f := fun _ => some false) (fun k => ?_) (by rw [hN hc]; exact Ev.now _)
      simp only [impl_PatternValid.l1]
      rw [if_neg (by omega), if_neg (by omega)]
  | succ d ih =>
    intro j hj
    have hcl := cnt_le l (q * p) j
    have hs := cnt_succ l (q * p) j (by omega)
    have hll : ((l.take (q * p + p)).drop (q * p)).length = p := by simp; omega
    refine Ev.step (f := fun k => impl_PatternValid.l1 k l ((q : Int) * p) (cnt l (q * p) (j + 1) : Int) ((l.take (q * p + p)).drop (q * p)) (p : Int) ((j + 1 : Nat) : Int) b p) (fun k => ?_) (ih (j + 1) (by omega))
    simp only [impl_PatternValid.l1]
    rw [if_pos (by omega), if_pos (by omega), if_pos (by omega)]
    rw [rdOf_at _ _ _ (by omega), w64 (x := (j : Int) + 1) (by omega) (by omega), w64 (x := (cnt l (q * p) j : Int) + 1) (by omega) (by omega)]
    rw [List.getElem_drop, List.getElem_take]
    by_cases hb : l[q * p + j] = true
    · rw [if_pos hb] at hs ⊢
      rw [hs]; push_cast; rfl
    · rw [if_neg hb] at hs ⊢
      rw [hs]; push_cast; rfl
theorem spec_l0 : ∀ d (q : Nat), q + d = 121 → Ev (fun k => spec_PatternValid.l0 k l ((q : Int) * p) b p) (decide (rest b p l q)) := by
  intro d
  induction d with
  | zero =>
    intro q hq
    obtain rfl : q = 121 := by omega
    have hr : rest b p l 121 := fun j h1 h2 h3 => absurd h2 (by omega)
    refine Ev.step (f := fun _ => some true) (fun k => ?_) (by simp only [hr, decide_true]; exact Ev.now _)
    simp only [spec_PatternValid.l0]
    rw [w64 (by omega) (by omega), if_neg (by omega)]
  | succ d ih =>
    intro q hq
    have hb1 : (q : Int) * p ≤ 121 * 12 := (mul_bd (by omega) (by omega) (by omega) (by omega)).2
    have hb0 : (0 : Int) ≤ (q : Int) * p := (mul_bd (A := 121) (B := 12) (by omega) (by omega) (by omega) (by omega)).1
    have e1 : (((q + 1) * p : Nat) : Int) = (q : Int) * p + p := by push_cast; rw [Int.add_mul, Int.one_mul]
    by_cases h : (q + 1) * p ≤ 120
    · have hi := ih (q + 1) (by omega)
      rw [show (((q + 1 : Nat) : Int) * p) = (q : Int) * p + p by rw [← e1]; push_cast; rfl] at hi
      have h0 := spec_l1 b p l hl hp hp2 q h (decide (rest b p l q)) (fun hc => by
        have : decide (rest b p l q) = decide (rest b p l (q + 1)) := by rw [decide_eq_decide, rest_succ hp h]; exact ⟨fun h => h.2, fun h => ⟨hc, h⟩⟩
        rw [this]; exact hi) (fun hc => by simp only [decide_eq_false_iff_not, rest_succ hp h]; exact fun h => hc h.1) p 0 (by omega)
      rw [cnt_zero] at h0
      refine Ev.step (fun k => ?_) h0
      simp only [spec_PatternValid.l0]
      rw [w64 (by omega) (by omega), if_pos (by omega)]
      rfl
    · have hr : rest b p l q := rest_no (by omega)
      refine Ev.step (f := fun _ => some true) (fun k => ?_) (by simp only [hr, decide_true]; exact Ev.now _)
      simp only [spec_PatternValid.l0]
      rw [w64 (by omega) (by omega), if_neg (by omega)]
theorem impl_l0 : ∀ d (q : Nat), q + d = 121 → Ev (fun k => impl_PatternValid.l0 k l ((q : Int) * p) b p) (decide (rest b p l q)) := by
  intro d
  induction d with
  | zero =>
    intro q hq
    obtain rfl : q = 121 := by omega
    have hr : rest b p l 121 := fun j h1 h2 h3 => absurd h2 (by omega)
    refine Ev.step (f := fun _ => some true) (fun k => ?_) (by simp only [hr, decide_true]; exact Ev.now _)
    simp only [impl_PatternValid.l0]
    rw [w64 (by omega) (by omega), if_neg (by omega)]
  | succ d ih =>
    intro q hq
    have hb1 : (q : Int) * p ≤ 121 * 12 := (mul_bd (by omega) (by omega) (by omega) (by omega)).2
    have hb0 : (0 : Int) ≤ (q : Int) * p := (mul_bd (A := 121) (B := 12) (by omega) (by omega) (by omega) (by omega)).1
    have e1 : (((q + 1) * p : Nat) : Int) = (q : Int) * p + p := by push_cast; rw [Int.add_mul, Int.one_mul]
    by_cases h : (q + 1) * p ≤ 120
    · have hi := ih (q + 1) (by omega)
      rw [show (((q + 1 : Nat) : Int) * p) = (q : Int) * p + p by rw [← e1]; push_cast; rfl] at hi
      have h0 := impl_l1 b p l hl hp hp2 q h (decide (rest b p l q)) (fun hc => by
        have : decide (rest b p l q) = decide (rest b p l (q + 1)) := by rw [decide_eq_decide, rest_succ hp h]; exact ⟨fun h => h.2, fun h => ⟨hc, h⟩⟩
        rw [this]; exact hi) (fun hc => by simp only [decide_eq_false_iff_not, rest_succ hp h]; exact fun h => hc h.1) p 0 (by omega)
      rw [cnt_zero] at h0
      refine Ev.step (fun k => ?_) h0
      have hqq : q * p + p ≤ 120 := by rw [← Nat.succ_mul]; exact h
      have ec : ((q * p : Nat) : Int) = (q : Int) * p := by push_cast; rfl
      have et : ((q : Int) * p + p).toNat = q * p + p := by omega
      have et2 : ((q : Int) * p).toNat = q * p := by omega
      simp only [impl_PatternValid.l0]
      rw [w64 (by omega) (by omega), if_pos (by omega), if_pos (by omega), if_pos (by omega), if_pos (by omega), et, et2]
      have hll : ((l.take (q * p + p)).drop (q * p)).length = p := by simp; omega
      rw [hll]
      rfl
    · have hr : rest b p l q := rest_no (by omega)
      refine Ev.step (f := fun _ => some true) (fun k => ?_) (by simp only [hr, decide_true]; exact Ev.now _)
      simp only [impl_PatternValid.l0]
      rw [w64 (by omega) (by omega), if_neg (by omega)]
end
/-- PatternValid, as one test. -/
def PV (b p : Int) (l : List Bool) : Prop := SV b p ∧ l.length = 120 ∧ rest b.toNat p.toNat l 0
instance (b p : Int) (l : List Bool) : Decidable (PV b p l) := by unfold PV; infer_instance
theorem spec_pat (b p : Int) (l : List Bool) : Ev (fun k => spec_PatternValid.f k b p l) (decide (PV b p l)) := by
  by_cases h1 : SV b p
  · have h1' := h1
    unfold SV at h1'
    by_cases h2 : l.length = 120
    · have h := spec_l0 b.toNat p.toNat l h2 (by omega) (by omega) 121 0 (by omega)
      have e : decide (PV b p l) = decide (rest b.toNat p.toNat l 0) := by rw [decide_eq_decide]; exact ⟨fun h => h.2.2, fun h => ⟨h1, h2, h⟩⟩
      rw [e]
      have eb : ((b.toNat : Nat) : Int) = b := by omega
      have ep : ((p.toNat : Nat) : Int) = p := by omega
      rw [eb, ep] at h
      have hs : Ev (fun k => spec_PatternValid.j0 k l ((l.length : Int) != 120) b p) (decide (rest b.toNat p.toNat l 0)) := by
        refine Ev.step (f := fun k => spec_PatternValid.l0 k l (((0 : Nat) : Int) * p) b p) (fun k => ?_) h
        simp only [spec_PatternValid.j0]
        rw [if_neg (by simp [h2])]
        simp
      refine Ev.congr (fun k => ?_) hs
      unfold spec_PatternValid.f
      rw [ssv_f]
      simp only [Option.bind_some, h1, decide_true, if_true]
    · have e : decide (PV b p l) = false := by rw [decide_eq_false_iff_not]; exact fun h => h2 h.2.1
      rw [e]
      have hs : Ev (fun k => spec_PatternValid.j0 k l ((l.length : Int) != 120) b p) false := by
        refine Ev.step (f := fun _ => some false) (fun k => ?_) (Ev.now _)
        simp only [spec_PatternValid.j0]
        rw [if_pos (by simp; omega)]
      refine Ev.congr (fun k => ?_) hs
      unfold spec_PatternValid.f
      rw [ssv_f]
      simp only [Option.bind_some, h1, decide_true, if_true]
  · have e : decide (PV b p l) = false := by rw [decide_eq_false_iff_not]; exact fun h => h1 h.1
    rw [e]
    have hs : Ev (fun k => spec_PatternValid.j0 k l true b p) false := Ev.step (f := fun _ => some false) (fun k => by simp [spec_PatternValid.j0]) (Ev.now _)
    refine Ev.congr (fun k => ?_) hs
    unfold spec_PatternValid.f
    rw [ssv_f]
    simp [h1]
theorem impl_pat (b p : Int) (l : List Bool) : Ev (fun k => impl_PatternValid.f k b p l) (decide (PV b p l)) := by
  by_cases h1 : SV b p
  · have h1' := h1
    unfold SV at h1'
    by_cases h2 : l.length = 120
    · have h := impl_l0 b.toNat p.toNat l h2 (by omega) (by omega) 121 0 (by omega)
      have e : decide (PV b p l) = decide (rest b.toNat p.toNat l 0) := by rw [decide_eq_decide]; exact ⟨fun h => h.2.2, fun h => ⟨h1, h2, h⟩⟩
      rw [e]
      have eb : ((b.toNat : Nat) : Int) = b := by omega
      have ep : ((p.toNat : Nat) : Int) = p := by omega
      rw [eb, ep] at h
      have hs : Ev (fun k => impl_PatternValid.j0 k l ((l.length : Int) != 120) b p) (decide (rest b.toNat p.toNat l 0)) := by
        refine Ev.step (f := fun k => impl_PatternValid.l0 k l (((0 : Nat) : Int) * p) b p) (fun k => ?_) h
        simp only [impl_PatternValid.j0]
        rw [if_neg (by simp [h2])]
        simp
      refine Ev.congr (fun k => ?_) hs
      unfold impl_PatternValid.f
      rw [sv_f]
      simp only [Option.bind_some, h1, decide_true, if_true]
    · have e : decide (PV b p l) = false := by rw [decide_eq_false_iff_not]; exact fun h => h2 h.2.1
      rw [e]
      have hs : Ev (fun k => impl_PatternValid.j0 k l ((l.length : Int) != 120) b p) false := by
        refine Ev.step (f := fun _ => some false) (fun k => ?_) (Ev.now _)
        simp only [impl_PatternValid.j0]
        rw [if_pos (by simp; omega)]
      refine Ev.congr (fun k => ?_) hs
      unfold impl_PatternValid.f
      rw [sv_f]
      simp only [Option.bind_some, h1, decide_true, if_true]
  · have e : decide (PV b p l) = false := by rw [decide_eq_false_iff_not]; exact fun h => h1 h.1
    rw [e]
    have hs : Ev (fun k => impl_PatternValid.j0 k l true b p) false := Ev.step (f := fun _ => some false) (fun k => by simp [impl_PatternValid.j0]) (Ev.now _)
    refine Ev.congr (fun k => ?_) hs
    unfold impl_PatternValid.f
    rw [sv_f]
    simp [h1]
end Go.Proofs.Ytooabmmnbifclaa.Pat
