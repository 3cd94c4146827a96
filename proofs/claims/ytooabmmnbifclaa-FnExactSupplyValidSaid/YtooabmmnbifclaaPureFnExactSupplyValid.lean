/- SupplyValid answers as the reference does. No condition. -/
import Derived.Test.YtooabmmnbifclaaPx15
namespace Go.Proofs.Ytooabmmnbifclaa.Pure
open Go.RowKit Go.Proofs.Ytooabmmnbifclaa.P Go.Proofs.YtooabmmnbifclaaW.PrintWords Go.Proofs.YtooabmmnbifclaaW.PrintLast
theorem FnExactSupplyValid : laws_FnExactSupplyValid.Pure := by
  intro a b _ _
  unfold laws_FnExactSupplyValid.f laws_toSupply.f spec_SupplyValid.f impl_SupplyValid.f spec_l1In.f impl_in.f
  simp only [Option.bind_some]
  by_cases h1 : a ≥ 1 <;> by_cases h2 : a ≤ b <;> by_cases h3 : b ≥ 1 <;> by_cases h4 : b ≤ 12 <;> first | (exfalso; omega) | simp [h1, h2, h3, h4]
end Go.Proofs.Ytooabmmnbifclaa.Pure
