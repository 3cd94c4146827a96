/- DelayBound answers as the reference does. No condition. -/
import Derived.Test.YtooabmmnbifclaaPx27
import Derived.Test.YtooabmmnbifclaaBase
import Derived.Test.YtooabmmnbifclaaNet
namespace Go.Proofs.Ytooabmmnbifclaa.Pure
open Go.RowKit Go.Proofs.Ytooabmmnbifclaa.P Go.Proofs.Ytooabmmnbifclaa.Base Go.Proofs.YtooabmmnbifclaaW.PrintWords Go.Proofs.YtooabmmnbifclaaW.PrintLast
open Go.Proofs.Ytooabmmnbifclaa.Net 
theorem FnExactDelayBound : laws_FnExactDelayBound.Pure := by
  intro a b c d _ _ _ _
  unfold laws_FnExactDelayBound.f laws_toLink.f laws_toFlow.f
  simp only [Option.bind_some]
  rw [delay_f, sdelay_f]; simp
end Go.Proofs.Ytooabmmnbifclaa.Pure
