/- How the supply bound grows. Conditions: a valid resource. -/
import Derived.Test.YtooabmmnbifclaaSup
namespace Go.Proofs.Ytooabmmnbifclaa.SupLaw
open Go.RowKit Go.Proofs.Ytooabmmnbifclaa.Base Go.Proofs.Ytooabmmnbifclaa.Sup
theorem div_eq {x p q : Int} (hp : 1 ≤ p) (h1 : q * p ≤ x) (h2 : x < q * p + p) : x / p = q := by
  have e : x = q * p + (x - q * p) := by omega
  rw [e, Int.add_comm, Int.add_mul_ediv_right _ _ (by omega), Int.ediv_eq_zero_of_lt (by omega) (by omega)]
  omega
theorem sb_neg {b p t : Int} (h : t - (p - b) < 0) : sb b p t = 0 := by unfold sb; rw [if_pos h]
theorem sb_at {b p t k : Int} (hv : SV b p) (h1 : k * p ≤ t - (p - b)) (h2 : t - (p - b) < k * p + p) (hk : 0 ≤ k) : sb b p t = k * b + max 0 (min b (t - (p - b) - k * p - (p - b))) := by
  unfold SV at hv
  have hkp : 0 ≤ k * p := Int.mul_nonneg hk (by omega)
  unfold sb
  rw [if_neg (by omega), div_eq (by omega) h1 h2]
theorem sb_k {b p t : Int} (hv : SV b p) (h : 0 ≤ t - (p - b)) : ∃ k, 0 ≤ k ∧ k * p ≤ t - (p - b) ∧ t - (p - b) < k * p + p := by
  unfold SV at hv
  have hd := div_bd (x := t - (p - b)) (p := p) h (by omega)
  exact ⟨_, hd.1, hd.2.2.1, hd.2.2.2⟩
theorem sb_step {b p t : Int} (hv : SV b p) (ht : 0 ≤ t) : sb b p t ≤ sb b p (t + 1) ∧ sb b p (t + 1) ≤ sb b p t + 1 := by
  have hv' := hv
  unfold SV at hv'
  by_cases hx : t - (p - b) < 0
  · rw [sb_neg hx]
    by_cases hy : t + 1 - (p - b) < 0
    · rw [sb_neg hy]; omega
    · rw [sb_at (k := 0) hv (by omega) (by omega) (by omega)]
      omega
  · obtain ⟨k, hk, h1, h2⟩ := sb_k hv (t := t) (by omega)
    rw [sb_at hv h1 h2 hk]
    have e : (k + 1) * p = k * p + p := by rw [Int.add_mul, Int.one_mul]
    have e2 : (k + 1) * b = k * b + b := by rw [Int.add_mul, Int.one_mul]
    by_cases hr : t + 1 - (p - b) < k * p + p
    · rw [sb_at (k := k) hv (by omega) (by omega) hk]; omega
    · rw [sb_at (k := k + 1) hv (by omega) (by omega) (by omega), e, e2]; omega
theorem sb_period {b p t : Int} (hv : SV b p) (ht : p - b ≤ t) : sb b p (t + p) = sb b p t + b := by
  have hv' := hv
  unfold SV at hv'
  obtain ⟨k, hk, h1, h2⟩ := sb_k hv (t := t) (by omega)
  have e : (k + 1) * p = k * p + p := by rw [Int.add_mul, Int.one_mul]
  have e2 : (k + 1) * b = k * b + b := by rw [Int.add_mul, Int.one_mul]
  rw [sb_at hv h1 h2 hk, sb_at (k := k + 1) hv (by omega) (by omega) (by omega), e, e2]
  have e3 : t + p - (p - b) - (k * p + p) - (p - b) = t - (p - b) - k * p - (p - b) := by omega
  rw [e3]; omega
theorem sb_full {p t : Int} (hv : SV p p) (ht : 0 ≤ t) : sb p p t = t := by
  have hv' := hv
  unfold SV at hv'
  obtain ⟨k, hk, h1, h2⟩ := sb_k hv (t := t) (by omega)
  rw [sb_at hv h1 h2 hk]
  omega
theorem sb_zero {b p t : Int} (hv : SV b p) (ht : t ≤ 2 * (p - b)) : sb b p t = 0 := by
  have hv' := hv
  unfold SV at hv'
  by_cases hx : t - (p - b) < 0
  · exact sb_neg hx
  · rw [sb_at (k := 0) hv (by omega) (by omega) (by omega)]; omega
theorem sb_nonneg {b p t : Int} (hv : SV b p) : 0 ≤ sb b p t := by
  have hv' := hv
  unfold SV at hv'
  by_cases hx : t - (p - b) < 0
  · rw [sb_neg hx]; omega
  · obtain ⟨k, hk, h1, h2⟩ := sb_k hv (t := t) (by omega)
    have := Int.mul_nonneg hk (show 0 ≤ b by omega)
    rw [sb_at hv h1 h2 hk]; omega
theorem sb_mono {b p t : Int} (hv : SV b p) (ht : 0 ≤ t) (d : Nat) : sb b p t ≤ sb b p (t + d) := by
  induction d with
  | zero => simp
  | succ d ih =>
    have := (sb_step hv (t := t + d) (by omega)).1
    rw [show t + ((d + 1 : Nat) : Int) = t + d + 1 by push_cast; omega]
    omega
theorem sb_le {b p t : Int} (hv : SV b p) (ht : 0 ≤ t) : sb b p t ≤ t := by
  have hz : sb b p 0 = 0 := sb_zero hv (by unfold SV at hv; omega)
  obtain ⟨n, rfl⟩ := Int.eq_ofNat_of_zero_le ht
  clear ht
  induction n with
  | zero => simp [hz]
  | succ n ih =>
    have := (sb_step hv (t := (n : Int)) (by omega)).2
    rw [show (((n + 1 : Nat)) : Int) = n + 1 by push_cast; rfl]
    omega
end Go.Proofs.Ytooabmmnbifclaa.SupLaw
