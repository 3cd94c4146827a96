/- BacklogBound answers as the reference does. No condition. -/
import Derived.Test.YtooabmmnbifclaaPx23
import Derived.Test.YtooabmmnbifclaaBase
import Derived.Test.YtooabmmnbifclaaNet
namespace Go.Proofs.Ytooabmmnbifclaa.Pure
open Go.RowKit Go.Proofs.Ytooabmmnbifclaa.P Go.Proofs.Ytooabmmnbifclaa.Base Go.Proofs.YtooabmmnbifclaaW.PrintWords Go.Proofs.YtooabmmnbifclaaW.PrintLast
open Go.Proofs.Ytooabmmnbifclaa.Net 
theorem FnExactBacklogBound : laws_FnExactBacklogBound.Pure := by
  intro a b c d _ _ _ _
  unfold laws_FnExactBacklogBound.f laws_toLink.f laws_toFlow.f
  simp only [Option.bind_some]
  rw [backlog_f, sbacklog_f]; simp
end Go.Proofs.Ytooabmmnbifclaa.Pure
