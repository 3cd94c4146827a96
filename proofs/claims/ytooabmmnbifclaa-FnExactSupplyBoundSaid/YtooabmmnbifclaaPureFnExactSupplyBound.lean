/- SupplyBound answers as the reference does. No condition. -/
import Derived.Test.YtooabmmnbifclaaPx32
import Derived.Test.YtooabmmnbifclaaBase
import Derived.Test.YtooabmmnbifclaaSup
namespace Go.Proofs.Ytooabmmnbifclaa.Pure
open Go.RowKit Go.Proofs.Ytooabmmnbifclaa.P Go.Proofs.Ytooabmmnbifclaa.Base Go.Proofs.YtooabmmnbifclaaW.PrintWords Go.Proofs.YtooabmmnbifclaaW.PrintLast
open Go.Proofs.Ytooabmmnbifclaa.Sup 
theorem FnExactSupplyBound : laws_FnExactSupplyBound.Pure := by
  intro a b c _ _ _
  unfold laws_FnExactSupplyBound.f laws_toSupply.f
  simp only [Option.bind_some]
  rw [supply_f, ssupply_f]; simp
end Go.Proofs.Ytooabmmnbifclaa.Pure
