/- The functions of network calculus, each as a plain function. No condition. -/
import Derived.Test.YtooabmmnbifclaaPx16
import Derived.Test.YtooabmmnbifclaaPx17
import Derived.Test.YtooabmmnbifclaaPx20
import Derived.Test.YtooabmmnbifclaaPx22
import Derived.Test.YtooabmmnbifclaaPx24
import Derived.Test.YtooabmmnbifclaaPx26
import Derived.Test.YtooabmmnbifclaaBase
namespace Go.Proofs.Ytooabmmnbifclaa.Net
open Go.RowKit Go.Proofs.Ytooabmmnbifclaa.P Go.Proofs.Ytooabmmnbifclaa.Base Go.Proofs.YtooabmmnbifclaaW.PrintWords Go.Proofs.YtooabmmnbifclaaW.PrintLast
def FV (a b : Int) : Prop := 0 ≤ a ∧ a ≤ 20 ∧ 0 ≤ b ∧ b ≤ 20
def LV (a b : Int) : Prop := 0 ≤ a ∧ a ≤ 20 ∧ 1 ≤ b ∧ b ≤ 20
instance (a b : Int) : Decidable (FV a b) := by unfold FV; infer_instance
instance (a b : Int) : Decidable (LV a b) := by unfold LV; infer_instance
theorem flow_f (a b : Int) : impl_FlowValid.f a b = some (decide (FV a b)) := by
  unfold impl_FlowValid.f
  rw [in_f, in_f]; simp only [Option.bind_some]
  rw [and_two]
  congr 1; rw [decide_eq_decide]; unfold FV; omega
theorem link_f (a b : Int) : impl_LinkValid.f a b = some (decide (LV a b)) := by
  unfold impl_LinkValid.f
  rw [in_f, in_f]; simp only [Option.bind_some]
  rw [and_two]
  congr 1; rw [decide_eq_decide]; unfold LV; omega
theorem sflow_f (a b : Int) : spec_FlowValid.f a b = some (decide (FV a b)) := by
  unfold spec_FlowValid.f
  rw [l1In_f, l1In_f]; simp only [Option.bind_some]
  rw [and_two]
  congr 1; rw [decide_eq_decide]; unfold FV; omega
theorem slink_f (a b : Int) : spec_LinkValid.f a b = some (decide (LV a b)) := by
  unfold spec_LinkValid.f
  rw [l1In_f, l1In_f]; simp only [Option.bind_some]
  rw [and_two]
  congr 1; rw [decide_eq_decide]; unfold LV; omega
theorem served_f (a b c d : Int) : impl_served.f a b c d = some (decide (FV a b ∧ LV c d ∧ b ≤ d)) := by
  unfold impl_served.f
  rw [flow_f, link_f, and_bind, and_bind]
  by_cases h1 : FV a b <;> by_cases h2 : LV c d <;> by_cases h3 : b ≤ d <;> simp [h1, h2, h3]
/-- What the backlog's and the delay's bounds are. -/
def bb (a b c d : Int) : Int := if FV a b ∧ LV c d ∧ b ≤ d then a + b * c else -1
def db (a b c d : Int) : Int := if FV a b ∧ LV c d ∧ b ≤ d then c + (a + d - 1) / d else -1
theorem bb_wrap {a b c d : Int} (h1 : FV a b) (h2 : LV c d) : wrap64 (a + wrap64 (b * c)) = a + b * c := by
  unfold FV at h1; unfold LV at h2
  have h := mul_bd (a := b) (b := c) (A := 20) (B := 20) (by omega) (by omega) (by omega) (by omega)
  rw [w64 (x := b * c) (by omega) (by omega), w64 (by omega) (by omega)]
theorem db_wrap {a b c d : Int} (h1 : FV a b) (h2 : LV c d) : wrap64 (c + wrap64 (Int.tdiv (wrap64 (wrap64 (a + d) - 1)) d)) = c + (a + d - 1) / d := by
  unfold FV at h1; unfold LV at h2
  rw [w64 (x := a + d) (by omega) (by omega), w64 (x := a + d - 1) (by omega) (by omega), Int.tdiv_eq_ediv_of_nonneg (by omega)]
  have e0 : 0 ≤ (a + d - 1) / d := Int.ediv_nonneg (by omega) (by omega)
  have e1 : (a + d - 1) / d ≤ a + d - 1 := Int.ediv_le_self _ (by omega)
  rw [w64 (x := (a + d - 1) / d) (by omega) (by omega), w64 (by omega) (by omega)]
theorem backlog_f (a b c d : Int) : impl_BacklogBound.f a b c d = some (bb a b c d) := by
  unfold impl_BacklogBound.f bb
  rw [served_f, and_bind]
  by_cases h : FV a b ∧ LV c d ∧ b ≤ d
  · rw [if_pos h, if_pos h, bb_wrap h.1 h.2.1]
  · rw [if_neg h, if_neg h]
theorem delay_f (a b c d : Int) : impl_DelayBound.f a b c d = some (db a b c d) := by
  unfold impl_DelayBound.f db impl_ceil.f
  rw [served_f, and_bind]
  by_cases h : FV a b ∧ LV c d ∧ b ≤ d
  · have h2 := h.2.1; unfold LV at h2
    rw [if_pos h, if_pos h, if_neg (by omega)]; simp only [Option.bind_some]; rw [db_wrap h.1 h.2.1]
  · rw [if_neg h, if_neg h]
theorem sbacklog_f (a b c d : Int) : spec_BacklogBound.f a b c d = some (bb a b c d) := by
  unfold spec_BacklogBound.f bb
  rw [sflow_f, slink_f, and_bind, and_bind]
  by_cases h1 : FV a b
  · by_cases h2 : LV c d
    · by_cases h3 : b > d
      · rw [if_pos h1, if_pos h2, if_pos h3, if_neg (by omega)]
      · rw [if_pos h1, if_pos h2, if_neg h3, if_pos ⟨h1, h2, by omega⟩, bb_wrap h1 h2]
    · rw [if_pos h1, if_neg h2, if_neg (fun h => h2 h.2.1)]
  · rw [if_neg h1, if_neg (fun h => h1 h.1)]
theorem sdelay_f (a b c d : Int) : spec_DelayBound.f a b c d = some (db a b c d) := by
  unfold spec_DelayBound.f db
  rw [sflow_f, slink_f, and_bind, and_bind]
  by_cases h1 : FV a b
  · by_cases h2 : LV c d
    · by_cases h3 : b > d
      · rw [if_pos h1, if_pos h2, if_pos h3, if_neg (by omega)]
      · have h4 := h2; unfold LV at h4
        rw [if_pos h1, if_pos h2, if_neg h3, if_neg (by omega), if_pos ⟨h1, h2, by omega⟩, db_wrap h1 h2]
    · rw [if_pos h1, if_neg h2, if_neg (fun h => h2 h.2.1)]
  · rw [if_neg h1, if_neg (fun h => h1 h.1)]
def cc (a b c d : Int) : Int × Int := if LV a b ∧ LV c d then (a + c, min b d) else (0, 0)
theorem concat_f (a b c d : Int) : impl_Concatenate.f a b c d = some (cc a b c d) := by
  unfold impl_Concatenate.f cc
  rw [link_f, link_f, and_bind, and_bind]
  by_cases h1 : LV a b
  · by_cases h2 : LV c d
    · rw [if_pos h1, if_pos h2, if_pos ⟨h1, h2⟩, mn_min]
      unfold LV at h1 h2
      rw [w64 (by omega) (by omega)]
    · rw [if_pos h1, if_neg h2, if_neg (fun h => h2 h.2)]
  · rw [if_neg h1, if_neg (fun h => h1 h.1)]
theorem sconcat_f (a b c d : Int) : spec_Concatenate.f a b c d = some (cc a b c d) := by
  unfold spec_Concatenate.f cc
  rw [slink_f, slink_f, and_bind, and_bind]
  by_cases h1 : LV a b
  · by_cases h2 : LV c d
    · rw [if_pos h1, if_pos h2, if_pos ⟨h1, h2⟩, mn_min]
      unfold LV at h1 h2
      rw [w64 (by omega) (by omega)]
    · rw [if_pos h1, if_neg h2, if_neg (fun h => h2 h.2)]
  · rw [if_neg h1, if_neg (fun h => h1 h.1)]
end Go.Proofs.Ytooabmmnbifclaa.Net
