/- The supply bound grows by at most one per tick. No condition. -/
import Derived.Test.YtooabmmnbifclaaPx47
import Derived.Test.YtooabmmnbifclaaBase
import Derived.Test.YtooabmmnbifclaaGen
import Derived.Test.YtooabmmnbifclaaPb
import Derived.Test.YtooabmmnbifclaaSup
import Derived.Test.YtooabmmnbifclaaSupLaw
import Derived.Test.YtooabmmnbifclaaDrNet
import Derived.Test.YtooabmmnbifclaaAlive
namespace Go.Proofs.Ytooabmmnbifclaa.Pure
open Go.RowKit Go.Proofs.Ytooabmmnbifclaa.P Go.Proofs.Ytooabmmnbifclaa.Base Go.Proofs.Ytooabmmnbifclaa.Gen Go.Proofs.YtooabmmnbifclaaW.PrintWords Go.Proofs.YtooabmmnbifclaaW.PrintLast
open Go.Proofs.Ytooabmmnbifclaa.Pb Go.Proofs.Ytooabmmnbifclaa.Sup Go.Proofs.Ytooabmmnbifclaa.SupLaw Go.Proofs.Ytooabmmnbifclaa.DrNet Go.Proofs.Ytooabmmnbifclaa.Alive 
theorem draw (l0 : List Int) (hl : ∀ x ∈ l0, (Lit.int .u8 x).wf = true) : Tot (fun k => spec_DrawSupplyBound.f k l0) (fun r => -1 ≤ r.2.2 ∧ r.2.2 ≤ 100001) := by
  unfold spec_DrawSupplyBound.f
  refine open_tot l0 hl (fun s hs => ?_)
  refine Tot.bind (supply_tot s 0 9 hs (by omega) (by omega)) ?_
  rintro ⟨b, p, q⟩ ⟨h1, h2, _⟩
  simp only at h1 h2
  refine Tot.bind (pick_tot s q 60 hs (by omega) (by omega)) ?_
  rintro ⟨t, q'⟩ ⟨h, h3, h4⟩
  simp only at h h3 h4; subst h
  refine some_bind _ (some_bind _ ?_)
  refine Tot.bind (pick_tot s (q + 1) 6 hs (by omega) (by omega)) ?_
  rintro ⟨d, q'⟩ ⟨h, h5, h6⟩
  simp only at h h5 h6; subst h
  refine Tot.yes h5 (Tot.yes (by simp; omega) ?_)
  have hm := rd_mem (xs := [0, 0, 0, 0, 1, 2]) h5 (by simp; omega)
  simp only [List.mem_cons, List.not_mem_nil, or_false] at hm
  generalize rd [0, 0, 0, 0, 1, 2] d = e at hm ⊢
  have he : 0 ≤ e ∧ e < 3 := by omega
  refine Tot.yes he.1 (Tot.yes (by simp; omega) ?_)
  have hm := rd_mem (xs := [t, -1, 100001]) he.1 (by simp; omega)
  simp only [List.mem_cons, List.not_mem_nil, or_false] at hm
  generalize rd [t, -1, 100001] e = f at hm ⊢
  have h4 := h4 (by omega)
  exact Tot.ret _ ⟨by show -1 ≤ f; omega, by show f ≤ 100001; omega⟩
theorem FnSupplyBound : laws_FnSupplyBound.Pure := by
  intro l0 _ hl
  apply Tot.rounds
  unfold laws_FnSupplyBound.f
  refine Tot.ite (fun _ => Tot.ret _ rfl) (fun _ => ?_)
  refine Tot.bind (draw l0 hl.2) ?_
  rintro ⟨b, p, t⟩ ⟨h1, h2⟩
  simp only at h1 h2 ⊢
  refine Tot.bind0 (supply_f b p t) (Tot.bind0 (ssupply_f b p t) (Tot.yes rfl (Tot.bind0 (ssv_f b p) ?_)))
  have bad : ¬ (SV b p ∧ 0 ≤ t ∧ t ≤ 100000) → Tot (fun k => laws_FnSupplyBound.j0 k t (sbx b p t) true b p) (fun r => r = true) := by
    intro h
    refine Tot.step (fun k => by rw [laws_FnSupplyBound.j0]) (Tot.yes rfl (Tot.yes ?_ (Tot.bind0 alive_f (Tot.ret _ rfl))))
    unfold sbx; rw [if_neg h]
  refine Tot.ite (fun hv => ?_) (fun hv => bad (fun h => hv (decide_eq_true h.1)))
  have hv := of_decide_eq_true hv
  have hv' := hv
  unfold SV at hv'
  refine Tot.ite (fun h => bad (fun h' => by omega)) (fun h0 => ?_)
  by_cases h3 : t ≤ 100000
  · have e : decide (t > 100000) = false := decide_eq_false (by omega)
    have good : Tot (fun k => laws_FnSupplyBound.j0 k t (sbx b p t) false b p) (fun r => r = true) := by
      refine Tot.step (fun k => by rw [laws_FnSupplyBound.j0]) (Tot.no (by simp) (Tot.bind0 (supply_f b p _) ?_))
      rw [w64 (x := t + 1) (by omega) (by omega), w64 (x := p - b) (by omega) (by omega), w64 (x := 2 * (p - b)) (by omega) (by omega)]
      refine Tot.ite (fun h5 => Tot.step (fun k => by rw [laws_FnSupplyBound.j1]) (Tot.yes rfl (Tot.ret _ (decide_eq_true h5)))) (fun h5 => ?_)
      have e1 : sbx b p t = sb b p t := by unfold sbx; rw [if_pos ⟨hv, by omega, by omega⟩]
      have e2 : sbx b p (t + 1) = sb b p (t + 1) := by unfold sbx; rw [if_pos ⟨hv, by omega, by omega⟩]
      have e3 : sbx p p t = t := by unfold sbx; rw [if_pos ⟨by unfold SV; omega, by omega, by omega⟩, sb_full (by unfold SV; omega) (by omega)]
      have e4 : sbx b p (t + p) = sb b p (t + p) := by unfold sbx; rw [if_pos ⟨hv, by omega, by omega⟩]
      have hs := sb_step hv (t := t) (by omega)
      have hn := sb_nonneg hv (t := t)
      have hle := sb_le hv (t := t) (by omega)
      have fin : Tot (fun k => laws_FnSupplyBound.j1 k t (sb b p t) (p - b) false b p) (fun r => r = true) := by
        refine Tot.step (fun k => by rw [laws_FnSupplyBound.j1]) (Tot.no (by simp) ?_)
        refine Tot.ite (fun _ => Tot.bind0 (supply_f p p t) (Tot.ret _ (by simp [e3]))) (fun h6 => Tot.bind0 (supply_f b p _) ?_)
        rw [w64 (x := t + p) (by omega) (by omega), w64 (x := sb b p t + b) (by omega) (by omega), e4, sb_period hv (by omega)]
        exact Tot.yes rfl (Tot.bind0 (supply_f p p t) (Tot.ret _ (by simp [e3])))
      rw [e1, e2, w64 (x := sb b p t + 1) (by omega) (by omega), show decide (sb b p (t + 1) > sb b p t + 1) = false from decide_eq_false (by omega)]
      refine Tot.ite (fun h7 => Tot.yes (sb_zero hv h7) (Tot.no (by omega) fin)) (fun _ => Tot.no (by omega) fin)
    rw [e]; exact good
  · rw [show decide (t > 100000) = true from decide_eq_true (by omega)]
    exact bad (fun h => h3 h.2.2)
end Go.Proofs.Ytooabmmnbifclaa.Pure
