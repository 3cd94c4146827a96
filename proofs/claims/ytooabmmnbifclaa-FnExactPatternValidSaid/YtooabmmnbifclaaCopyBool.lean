/- Copies of a row of bools. No condition. -/
import Derived.Test.YtooabmmnbifclaaPx53
import Derived.Test.YtooabmmnbifclaaPx55
import Derived.Test.YtooabmmnbifclaaBase
import Derived.Test.YtooabmmnbifclaaGen
namespace Go.Proofs.Ytooabmmnbifclaa.CopyBool
open Go.RowKit Go.Proofs.Ytooabmmnbifclaa.P Go.Proofs.Ytooabmmnbifclaa.Base Go.Proofs.Ytooabmmnbifclaa.Gen Go.Proofs.YtooabmmnbifclaaW.PrintWords Go.Proofs.YtooabmmnbifclaaW.PrintLast
theorem toBoolS_tot (l : List Bool) (hl : l.length ≤ 1048576) : Tot (fun k => laws_toBoolS.f k l) (fun r => r = l) := by
  have h := Tot.copy (fun k acc i => laws_toBoolS.l0 k l acc i) l false (fun k acc i h ha => by
    simp only [laws_toBoolS.l0]
    rw [if_pos (by omega), if_pos (by omega), if_pos (by omega), rdOf_at _ _ _ h, w64 (by omega) (by omega), Int.toNat_natCast]) (fun k acc ha => by
    simp only [laws_toBoolS.l0]
    rw [if_neg (by omega)])
  refine Tot.congr (fun k => ?_) h
  unfold laws_toBoolS.f
  rw [if_pos (by omega), if_pos (by omega), Int.toNat_natCast]
theorem eqBoolS_tot (l : List Bool) (hl : l.length ≤ 1048576) : Tot (fun k => laws_eqBoolS.f k l l) (fun r => r = true) := by
  have h := Tot.look (r := true) (fun k i => laws_eqBoolS.l0 k l l i) l.length (fun k i h => by
    simp only [laws_eqBoolS.l0]
    rw [if_pos (by omega), if_pos (by omega), if_pos (by omega), if_neg (by simp), w64 (by omega) (by omega)]) (fun k => by
    simp only [laws_eqBoolS.l0]
    rw [if_neg (by omega)])
  refine Tot.congr (fun k => ?_) h
  unfold laws_eqBoolS.f
  rw [if_pos rfl]
end Go.Proofs.Ytooabmmnbifclaa.CopyBool
