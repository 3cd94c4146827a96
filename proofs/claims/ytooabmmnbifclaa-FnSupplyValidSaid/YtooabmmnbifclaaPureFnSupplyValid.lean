/- A resource provides at most its period. No condition. -/
import Derived.Test.YtooabmmnbifclaaPx40
import Derived.Test.YtooabmmnbifclaaBase
import Derived.Test.YtooabmmnbifclaaGen
import Derived.Test.YtooabmmnbifclaaPb
import Derived.Test.YtooabmmnbifclaaSup
import Derived.Test.YtooabmmnbifclaaDrNet
import Derived.Test.YtooabmmnbifclaaAlive
namespace Go.Proofs.Ytooabmmnbifclaa.Pure
open Go.RowKit Go.Proofs.Ytooabmmnbifclaa.P Go.Proofs.Ytooabmmnbifclaa.Base Go.Proofs.Ytooabmmnbifclaa.Gen Go.Proofs.YtooabmmnbifclaaW.PrintWords Go.Proofs.YtooabmmnbifclaaW.PrintLast
open Go.Proofs.Ytooabmmnbifclaa.Pb Go.Proofs.Ytooabmmnbifclaa.Sup Go.Proofs.Ytooabmmnbifclaa.DrNet Go.Proofs.Ytooabmmnbifclaa.Alive 
theorem FnSupplyValid : laws_FnSupplyValid.Pure := by
  intro l0 _ hl
  apply Tot.rounds
  unfold laws_FnSupplyValid.f spec_DrawSupplyValid.f
  refine Tot.ite (fun _ => Tot.ret _ rfl) (fun _ => ?_)
  refine Tot.bind (P := fun r : Int × Int => -100 ≤ r.1 ∧ r.1 ≤ 100 ∧ -100 ≤ r.2 ∧ r.2 ≤ 100) ?_ ?_
  · refine open_tot l0 hl.2 (fun s hs => ?_)
    refine Tot.bind (supply_tot s 0 2 hs (by omega) (by omega)) ?_
    rintro ⟨b, p, q⟩ ⟨_, _, h1, h2, h3, h4⟩
    exact Tot.ret _ ⟨h1, h2, h3, h4⟩
  · rintro ⟨b, p⟩ ⟨h1, h2, h3, h4⟩
    simp only at h1 h2 h3 h4 ⊢
    refine Tot.bind0 (sv_f b p) (Tot.bind0 (ssv_f b p) (Tot.no (by simp) (Tot.ite (fun h => ?_) (fun _ => Tot.bind0 alive_f (Tot.ret _ rfl)))))
    have h := of_decide_eq_true h
    unfold SV at h
    refine Tot.yes (by omega) (Tot.yes (by omega) (Tot.bind0 (sv_f p p) (Tot.yes (decide_eq_true (by unfold SV; omega)) (Tot.bind0 (sv_f _ p) (Tot.no ?_ (Tot.bind0 alive_f (Tot.ret _ rfl)))))))
    rw [w64 (by omega) (by omega)]
    simp only [decide_eq_true_eq]
    unfold SV; omega
end Go.Proofs.Ytooabmmnbifclaa.Pure
