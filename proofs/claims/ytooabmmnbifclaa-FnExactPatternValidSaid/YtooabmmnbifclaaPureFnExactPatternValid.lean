/- PatternValid answers as the reference does. No condition. -/
import Derived.Test.YtooabmmnbifclaaPx56
import Derived.Test.YtooabmmnbifclaaBase
import Derived.Test.YtooabmmnbifclaaGen
import Derived.Test.YtooabmmnbifclaaCopyBool
import Derived.Test.YtooabmmnbifclaaSup
import Derived.Test.YtooabmmnbifclaaPat
namespace Go.Proofs.Ytooabmmnbifclaa.Pure
open Go.RowKit Go.Proofs.Ytooabmmnbifclaa.P Go.Proofs.Ytooabmmnbifclaa.Base Go.Proofs.Ytooabmmnbifclaa.Gen Go.Proofs.YtooabmmnbifclaaW.PrintWords Go.Proofs.YtooabmmnbifclaaW.PrintLast
open Go.Proofs.Ytooabmmnbifclaa.CopyBool Go.Proofs.Ytooabmmnbifclaa.Sup Go.Proofs.Ytooabmmnbifclaa.Pat 
theorem FnExactPatternValid : laws_FnExactPatternValid.Pure := by
  intro b p l _ _ hy _
  apply Tot.rounds
  unfold laws_FnExactPatternValid.f laws_toSupply.f
  simp only [Option.bind_some]
  refine Tot.ite (fun _ => Tot.ret _ rfl) (fun hl => ?_)
  have hl2 : l.length ≤ 1048576 := by omega
  refine Tot.bind (toBoolS_tot l hl2) ?_
  rintro _ rfl
  refine Tot.bind (Tot.val (spec_pat b p _)) ?_
  rintro _ rfl
  refine Tot.bind (toBoolS_tot _ hl2) ?_
  rintro _ rfl
  refine Tot.bind (Tot.val (impl_pat b p _)) ?_
  rintro _ rfl
  refine Tot.no (by simp) ?_
  refine Tot.bind (toBoolS_tot _ hl2) ?_
  rintro _ rfl
  refine Tot.bind (eqBoolS_tot _ hl2) ?_
  rintro _ rfl
  exact Tot.yes rfl (Tot.ret _ rfl)
end Go.Proofs.Ytooabmmnbifclaa.Pure
