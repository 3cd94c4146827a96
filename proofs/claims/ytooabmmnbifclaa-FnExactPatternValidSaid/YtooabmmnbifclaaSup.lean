/- The functions of a periodic resource, each as a plain function. No condition. -/
import Derived.Test.YtooabmmnbifclaaPx12
import Derived.Test.YtooabmmnbifclaaPx14
import Derived.Test.YtooabmmnbifclaaPx29
import Derived.Test.YtooabmmnbifclaaPx31
import Derived.Test.YtooabmmnbifclaaBase
namespace Go.Proofs.Ytooabmmnbifclaa.Sup
open Go.RowKit Go.Proofs.Ytooabmmnbifclaa.P Go.Proofs.Ytooabmmnbifclaa.Base Go.Proofs.YtooabmmnbifclaaW.PrintWords Go.Proofs.YtooabmmnbifclaaW.PrintLast
def SV (b p : Int) : Prop := 1 ≤ b ∧ b ≤ p ∧ p ≤ 12
instance (b p : Int) : Decidable (SV b p) := by unfold SV; infer_instance
theorem sv_f (b p : Int) : impl_SupplyValid.f b p = some (decide (SV b p)) := by
  unfold impl_SupplyValid.f
  rw [in_f]; simp only [Option.bind_some]
  rw [and_two]
  congr 1; rw [decide_eq_decide]; unfold SV; omega
theorem ssv_f (b p : Int) : spec_SupplyValid.f b p = some (decide (SV b p)) := by
  unfold spec_SupplyValid.f
  rw [l1In_f, l1In_f]; simp only [Option.bind_some]
  rw [and_two]
  congr 1; rw [decide_eq_decide]; unfold SV; omega
/-- The supply bound of a valid resource. -/
def sb (b p t : Int) : Int := if t - (p - b) < 0 then 0 else (t - (p - b)) / p * b + max 0 (min b (t - (p - b) - (t - (p - b)) / p * p - (p - b)))
theorem div_bd {x p : Int} (h0 : 0 ≤ x) (hp : 1 ≤ p) : 0 ≤ x / p ∧ x / p ≤ x ∧ x / p * p ≤ x ∧ x < x / p * p + p := by
  have h1 := Int.ediv_nonneg h0 (show 0 ≤ p by omega)
  have h2 := Int.ediv_le_self p h0
  have h3 := Int.mul_ediv_add_emod x p
  have h4 := Int.emod_nonneg x (show p ≠ 0 by omega)
  have h5 := Int.emod_lt_of_pos x (show 0 < p by omega)
  rw [Int.mul_comm] at h3
  omega
theorem bound_f {b p t : Int} (h : SV b p) (h0 : 0 ≤ t) (h1 : t ≤ 10000000) : impl_Supply_bound.f b p t = some (sb b p t) := by
  unfold SV at h
  unfold impl_Supply_bound.f sb
  rw [w64 (x := p - b) (by omega) (by omega), w64 (x := t - (p - b)) (by omega) (by omega)]
  by_cases hx : t - (p - b) < 0
  · rw [if_pos hx, if_pos hx]
  · rw [if_neg hx, if_neg hx, if_neg (by omega), tdiv_pos (by omega), mx_max, mn_min]
    have hd := div_bd (x := t - (p - b)) (p := p) (by omega) (by omega)
    have hxb : t - (p - b) ≤ 10000000 := by omega
    generalize t - (p - b) = x at *
    generalize x / p = k at *
    have hm := mul_bd (a := k) (b := b) (A := 10000000) (B := 12) (by omega) (by omega) (by omega) (by omega)
    rw [w64 (x := k) (by omega) (by omega), w64 (x := k * b) (by omega) (by omega), w64 (x := k * p) (by omega) (by omega), w64 (x := x - k * p) (by omega) (by omega), w64 (x := x - k * p - (p - b)) (by omega) (by omega), w64 (by omega) (by omega)]
theorem sbound_f {b p t : Int} (h : SV b p) (h0 : 0 ≤ t) (h1 : t ≤ 10000000) : spec_l22Bound.f b p t = some (sb b p t) := by
  have hv := h
  unfold SV at h
  unfold spec_l22Bound.f sb
  rw [w64 (x := p - b) (by omega) (by omega), w64 (x := 2 * (p - b)) (by omega) (by omega), w64 (x := t - 2 * (p - b)) (by omega) (by omega), w64 (x := t - (p - b)) (by omega) (by omega), mx_max, mn_min]
  by_cases hx : t ≤ 2 * (p - b)
  · rw [if_pos hx]
    by_cases hy : t - (p - b) < 0
    · rw [if_pos hy]
      congr 1; omega
    · rw [if_neg hy, show (t - (p - b)) / p = 0 from Int.ediv_eq_zero_of_lt (by omega) (by omega)]
      congr 1; omega
  · rw [if_neg hx, if_neg (by omega), if_neg (by omega), tdiv_pos (by omega), mx_max, mn_min]
    have hd := div_bd (x := t - (p - b)) (p := p) (by omega) (by omega)
    have hxb : t - (p - b) ≤ 10000000 := by omega
    generalize t - (p - b) = x at *
    generalize x / p = k at *
    have hm := mul_bd (a := k) (b := b) (A := 10000000) (B := 12) (by omega) (by omega) (by omega) (by omega)
    rw [w64 (x := k) (by omega) (by omega), w64 (x := k * b) (by omega) (by omega), w64 (x := k * p) (by omega) (by omega), w64 (x := x - k * p) (by omega) (by omega), w64 (x := x - k * p - (p - b)) (by omega) (by omega), w64 (by omega) (by omega)]
/-- SupplyBound, for all arguments. -/
def sbx (b p t : Int) : Int := if SV b p ∧ 0 ≤ t ∧ t ≤ 100000 then sb b p t else -1
theorem supply_f (b p t : Int) : impl_SupplyBound.f b p t = some (sbx b p t) := by
  unfold impl_SupplyBound.f sbx
  rw [sv_f, in_f, and_bind, and_bind]
  by_cases h1 : SV b p
  · by_cases h2 : 0 ≤ t ∧ t ≤ 100000
    · rw [if_pos h1, if_pos h2, if_pos ⟨h1, h2⟩, bound_f h1 h2.1 (by omega)]; rfl
    · rw [if_pos h1, if_neg h2, if_neg (fun h => h2 h.2)]
  · rw [if_neg h1, if_neg (fun h => h1 h.1)]
theorem ssupply_f (b p t : Int) : spec_SupplyBound.f b p t = some (sbx b p t) := by
  unfold spec_SupplyBound.f sbx
  rw [ssv_f, l1In_f, and_bind, and_bind]
  by_cases h1 : SV b p
  · by_cases h2 : 0 ≤ t ∧ t ≤ 100000
    · rw [if_pos h1, if_pos h2, if_pos ⟨h1, h2⟩, sbound_f h1 h2.1 (by omega)]; rfl
    · rw [if_pos h1, if_neg h2, if_neg (fun h => h2 h.2)]
  · rw [if_neg h1, if_neg (fun h => h1 h.1)]
end Go.Proofs.Ytooabmmnbifclaa.Sup
