/- The law FnExactSupplyBound, proved: for every input the call returns true and each argument reads as it did. No condition. -/
import Derived.Test.YtooabmmnbifclaaRows
import Derived.Test.YtooabmmnbifclaaPx32
import Derived.Test.YtooabmmnbifclaaPureFnExactSupplyBound
import Derived.Test.YtooabmmnbifclaaOpen
import Derived.Test.YtooabmmnbifclaaHead
import Derived.WalkKit
import Derived.ProofKit
import Derived.OpenShut
import Derived.ShutString
import Derived.ChangeOld
import Derived.Below
import Derived.SizedLaws
namespace Go.Proofs.Ytooabmmnbifclaa.fnExactSupplyBound
open Go.ChangeShapes Go.WideShapes Go.ChangeAt Go.RowKit Go.Proofs.YtooabmmnbifclaaW.PrintWords Go.Proofs.Ytooabmmnbifclaa.P
open Go.ChangeMaps (open_string shut_string)
theorem own : ownKnob Try.prog.godebug = none := by kernel_rfl
theorem laidOut : laidOutB Try.prog = true := by kernel_rfl
theorem fieldsT35 : ∃ fs, Try.prog.underlying 35 = some (.struct fs) ∧ fs.size = 2 ∧ Try.prog.cellsOf 35 = fs.size ∧ ∀ (j : Nat) (f : Field), fs[j]? = some f → f.offset = j ∧ Try.prog.cellsOf f.type = 1 ∧ Try.prog.underlying f.type = some (.int .i64) := by
  refine ⟨_, Try.underlying35, rfl, by kernel_rfl, fun j f hj => ?_⟩
  match j, hj with
  | 0, hj => obtain rfl := Option.some.inj hj; exact ⟨rfl, by kernel_rfl, Try.underlying3⟩
  | 1, hj => obtain rfl := Option.some.inj hj; exact ⟨rfl, by kernel_rfl, Try.underlying3⟩
  | n + 2, hj => exact absurd hj (by simp)
set_option maxRecDepth 100000 in
theorem lifted (os : Os) (started : os.Started) (H : Type) (enc : TypeId × Value → H) :
    ReturnsInHanded {} Try.checked os 9 .any (Rows.fnExactSupplyBoundSpec.pre6 enc Try.prog Try.f9 Rows.fnExactSupplyBoundRow.domain false) (Rows.fnExactSupplyBoundSpec.post enc Try.prog Try.f9 false true false false) := by
  refine returnsInHanded_of_change_sized (C := Try.checked) own started (by kernel_rfl) Try.func9
    (ChangeSpec.witness6 (enc := enc) (C := Try.checked) false ⟨#[], #[.agg #[.int .i64 0, .int .i64 0], .int .i64 0], []⟩ 8 (by kernel_rfl) (by kernel_rfl) (by kernel_rfl) (by kernel_rfl)) ?_
  intro W base args ds gs before hval0 hW hcnd hsz0 _
  have hsz : (DataW.weightsEach Try.prog (Try.f9.params.toList ++ Rows.fnExactSupplyBoundSpec.plain.varTypes Try.prog) (ds ++ gs)).all (· ≤ reachBytes) = true := hsz0
  have hval : ∀ (j : Nat) t v, Try.f9.params[j]? = some t → args[j]? = some v → Value.okWide Try.prog W .any base t v := hval0
  have hW' := hW
  obtain ⟨p, q, hA0, hV, rfl, hfz, hnd⟩ := hW
  have hA : DataW.TrodAll enc Try.prog W 0 (fun _ => true) true Try.f9.params.toList args.toList ds p := hA0
  rw [Try.params9] at hA hval hsz
  obtain ⟨v0, vs0, d0, ds0, p0, q0, hargs, rfl, rfl, h0, r0⟩ := trodAll_cons hA
  obtain ⟨v1, vs1, d1, ds1, p1, q1, rfl, rfl, rfl, h1, r1⟩ := trodAll_cons r0
  obtain ⟨rfl, rfl, rfl⟩ := trodAll_nil r1
  obtain rfl : args = #[v0, v1] := by cases args; simp_all
  obtain ⟨rfl, rfl⟩ := trodVars_none hV
  have k0 := h0
  have lt0 : ∀ x ∈ p0, x.block < W.heap.size := by obtain ⟨m, hm⟩ := k0; exact DataW.trod_lt m _ _ _ hm
  obtain ⟨cs0, rfl, _⟩ := okWide_struct Try.underlying35 (hval 0 35 v0 rfl rfl)
  obtain ⟨fu0, hf0⟩ := h0
  obtain ⟨fs0, hu0, hm0, hc0, hx0⟩ := fieldsT35
  obtain ⟨xs0, hl0, hcs0, hw0⟩ := Opn.trod_ints hu0 hc0 hx0 (show DataW.trod _ _ _ _ _ _ _ _ cs0.toList = some _ from hf0)
  obtain ⟨a0_0, a0_1, rfl⟩ := Opn.one2 (hl0.trans hm0)
  obtain rfl : cs0 = #[.int .i64 a0_0, .int .i64 a0_1] := by cases cs0; simpa using hcs0
  obtain ⟨a1, rfl, rfl, rfl, w1⟩ := open_int Try.underlying3 (hval 1 3 v1 rfl rfl) h1
  have hk := Pure.FnExactSupplyBound a0_0 a0_1 a1 (hw0 a0_0 (by simp)) (hw0 a0_1 (by simp)) w1
  clear hA0 hval0 hsz0 hsz
  refine (laws_FnExactSupplyBound.calls a0_0 a0_1 a1 true W hk).mono fun e W' ⟨he, hd⟩ => ?_
  have bel := hd
  subst he
  exact ⟨_, rfl, _, _, _, [], _, [], hW', trodAll_mk1 (shut_bool Try.underlying4 _), (trodAll_cons_mk (Below.trod laidOut (by kernel_rfl) (of_decide_eq_true (by kernel_rfl)) k0 bel lt0) (trodAll_cons_mk (shut_int Try.underlying3 w1) trodAll_mk0)), rfl, bel.frame _, fun h => by cases h⟩
theorem closed : joinedFacts Try.prog 9 Try.f9 Rows.fnExactSupplyBoundSpec Rows.fnExactSupplyBoundRow = true := by
  simp only [joinedFacts, Head.enter, Head.lifts, Head.make]
  kernel_rfl
theorem named : Try.prog.funcNamed Rows.fnExactSupplyBoundRow.func = some 9 := by kernel_rfl
theorem wrapped : Try.f9.isWrapper Try.prog Rows.fnExactSupplyBoundRow.wrapper Rows.fnExactSupplyBoundRow.mainSum := by unfold Func.isWrapper; first | (rw [if_pos (by decide +kernel)]; kernel_rfl) | (rw [if_neg (by decide +kernel)]; exact ⟨rfl, rfl⟩)
theorem over : Rows.fnExactSupplyBoundRow.holds Try.pinned (OpenSpec.ofChange Rows.fnExactSupplyBoundSpec) :=
  OpenClaim.holds_of_wide 9 Try.f9 rfl rfl rfl rfl rfl rfl rfl ⟨rfl, rfl, rfl, rfl, rfl⟩ rfl rfl rfl rfl rfl named Try.func9 closed
    (of_decide_eq_true (by kernel_rfl)) wrapped
    (fun os started H enc _ => lifted os started H enc)
theorem proved : Rows.FnExactSupplyBoundSaid := over
#print axioms proved
end Go.Proofs.Ytooabmmnbifclaa.fnExactSupplyBound
namespace Go.Proofs.Ytooabmmnbifclaa
/-- The row, under a short name, for the claim. -/
theorem fnExactSupplyBound_holds : Rows.FnExactSupplyBoundSaid := fnExactSupplyBound.proved
end Go.Proofs.Ytooabmmnbifclaa
