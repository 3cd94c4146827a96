/- LinkValid answers as the reference does. No condition. -/
import Derived.Test.YtooabmmnbifclaaPx11
namespace Go.Proofs.Ytooabmmnbifclaa.Pure
open Go.RowKit Go.Proofs.Ytooabmmnbifclaa.P Go.Proofs.YtooabmmnbifclaaW.PrintWords Go.Proofs.YtooabmmnbifclaaW.PrintLast
theorem FnExactLinkValid : laws_FnExactLinkValid.Pure := by
  intro a b _ _
  unfold laws_FnExactLinkValid.f laws_toLink.f spec_LinkValid.f impl_LinkValid.f spec_l1In.f impl_in.f
  simp only [Option.bind_some]
  by_cases h1 : a ≥ 0 <;> by_cases h2 : a ≤ 20 <;> by_cases h3 : b ≥ 1 <;> by_cases h4 : b ≤ 20 <;> simp [h1, h2, h3, h4]
end Go.Proofs.Ytooabmmnbifclaa.Pure
