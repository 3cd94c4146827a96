/- Concatenate answers as the reference does. No condition. -/
import Derived.Test.YtooabmmnbifclaaPx19
import Derived.Test.YtooabmmnbifclaaBase
import Derived.Test.YtooabmmnbifclaaNet
namespace Go.Proofs.Ytooabmmnbifclaa.Pure
open Go.RowKit Go.Proofs.Ytooabmmnbifclaa.P Go.Proofs.Ytooabmmnbifclaa.Base Go.Proofs.YtooabmmnbifclaaW.PrintWords Go.Proofs.YtooabmmnbifclaaW.PrintLast
open Go.Proofs.Ytooabmmnbifclaa.Net 
theorem FnExactConcatenate : laws_FnExactConcatenate.Pure := by
  intro a b c d _ _ _ _
  unfold laws_FnExactConcatenate.f laws_toLink.f
  simp only [Option.bind_some]
  rw [concat_f, sconcat_f]; simp only [Option.bind_some]
  unfold laws_eqLink.f
  simp
end Go.Proofs.Ytooabmmnbifclaa.Pure
