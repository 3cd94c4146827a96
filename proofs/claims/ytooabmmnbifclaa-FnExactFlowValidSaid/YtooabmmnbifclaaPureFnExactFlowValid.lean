/- FlowValid answers as the reference does. No condition. -/
import Derived.Test.YtooabmmnbifclaaPx7
namespace Go.Proofs.Ytooabmmnbifclaa.Pure
open Go.RowKit Go.Proofs.Ytooabmmnbifclaa.P Go.Proofs.YtooabmmnbifclaaW.PrintWords Go.Proofs.YtooabmmnbifclaaW.PrintLast
theorem FnExactFlowValid : laws_FnExactFlowValid.Pure := by
  intro a b _ _
  unfold laws_FnExactFlowValid.f laws_toFlow.f spec_FlowValid.f impl_FlowValid.f spec_l1In.f impl_in.f
  simp only [Option.bind_some]
  by_cases h1 : a ≥ 0 <;> by_cases h2 : a ≤ 20 <;> by_cases h3 : b ≥ 0 <;> by_cases h4 : b ≤ 20 <;> simp [h1, h2, h3, h4]
end Go.Proofs.Ytooabmmnbifclaa.Pure
