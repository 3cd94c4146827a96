/- The law FnExactDelayBound, proved: for every input the call returns true and each argument reads as it did. No condition. -/
import Derived.Test.YtooabmmnbifclaaRows
import Derived.Test.YtooabmmnbifclaaPx27
import Derived.Test.YtooabmmnbifclaaPureFnExactDelayBound
import Derived.Test.YtooabmmnbifclaaOpen
import Derived.Test.YtooabmmnbifclaaHead
import Derived.WalkKit
import Derived.ProofKit
import Derived.OpenShut
import Derived.ShutString
import Derived.ChangeOld
import Derived.Below
import Derived.SizedLaws
namespace Go.Proofs.Ytooabmmnbifclaa.fnExactDelayBound
open Go.ChangeShapes Go.WideShapes Go.ChangeAt Go.RowKit Go.Proofs.YtooabmmnbifclaaW.PrintWords Go.Proofs.Ytooabmmnbifclaa.P
open Go.ChangeMaps (open_string shut_string)
theorem own : ownKnob Try.prog.godebug = none := by kernel_rfl
theorem laidOut : laidOutB Try.prog = true := by kernel_rfl
theorem fieldsT23 : ∃ fs, Try.prog.underlying 23 = some (.struct fs) ∧ fs.size = 2 ∧ Try.prog.cellsOf 23 = fs.size ∧ ∀ (j : Nat) (f : Field), fs[j]? = some f → f.offset = j ∧ Try.prog.cellsOf f.type = 1 ∧ Try.prog.underlying f.type = some (.int .i64) := by
  refine ⟨_, Try.underlying23, rfl, by kernel_rfl, fun j f hj => ?_⟩
  match j, hj with
  | 0, hj => obtain rfl := Option.some.inj hj; exact ⟨rfl, by kernel_rfl, Try.underlying3⟩
  | 1, hj => obtain rfl := Option.some.inj hj; exact ⟨rfl, by kernel_rfl, Try.underlying3⟩
  | n + 2, hj => exact absurd hj (by simp)
theorem fieldsT29 : ∃ fs, Try.prog.underlying 29 = some (.struct fs) ∧ fs.size = 2 ∧ Try.prog.cellsOf 29 = fs.size ∧ ∀ (j : Nat) (f : Field), fs[j]? = some f → f.offset = j ∧ Try.prog.cellsOf f.type = 1 ∧ Try.prog.underlying f.type = some (.int .i64) := by
  refine ⟨_, Try.underlying29, rfl, by kernel_rfl, fun j f hj => ?_⟩
  match j, hj with
  | 0, hj => obtain rfl := Option.some.inj hj; exact ⟨rfl, by kernel_rfl, Try.underlying3⟩
  | 1, hj => obtain rfl := Option.some.inj hj; exact ⟨rfl, by kernel_rfl, Try.underlying3⟩
  | n + 2, hj => exact absurd hj (by simp)
set_option maxRecDepth 100000 in
theorem lifted (os : Os) (started : os.Started) (H : Type) (enc : TypeId × Value → H) :
    ReturnsInHanded {} Try.checked os 8 .any (Rows.fnExactDelayBoundSpec.pre6 enc Try.prog Try.f8 Rows.fnExactDelayBoundRow.domain false) (Rows.fnExactDelayBoundSpec.post enc Try.prog Try.f8 false true false false) := by
  refine returnsInHanded_of_change_sized (C := Try.checked) own started (by kernel_rfl) Try.func8
    (ChangeSpec.witness6 (enc := enc) (C := Try.checked) false ⟨#[], #[.agg #[.int .i64 0, .int .i64 0], .agg #[.int .i64 0, .int .i64 0]], []⟩ 8 (by kernel_rfl) (by kernel_rfl) (by kernel_rfl) (by kernel_rfl)) ?_
  intro W base args ds gs before hval0 hW hcnd hsz0 _
  have hsz : (DataW.weightsEach Try.prog (Try.f8.params.toList ++ Rows.fnExactDelayBoundSpec.plain.varTypes Try.prog) (ds ++ gs)).all (· ≤ reachBytes) = true := hsz0
  have hval : ∀ (j : Nat) t v, Try.f8.params[j]? = some t → args[j]? = some v → Value.okWide Try.prog W .any base t v := hval0
  have hW' := hW
  obtain ⟨p, q, hA0, hV, rfl, hfz, hnd⟩ := hW
  have hA : DataW.TrodAll enc Try.prog W 0 (fun _ => true) true Try.f8.params.toList args.toList ds p := hA0
  rw [Try.params8] at hA hval hsz
  obtain ⟨v0, vs0, d0, ds0, p0, q0, hargs, rfl, rfl, h0, r0⟩ := trodAll_cons hA
  obtain ⟨v1, vs1, d1, ds1, p1, q1, rfl, rfl, rfl, h1, r1⟩ := trodAll_cons r0
  obtain ⟨rfl, rfl, rfl⟩ := trodAll_nil r1
  obtain rfl : args = #[v0, v1] := by cases args; simp_all
  obtain ⟨rfl, rfl⟩ := trodVars_none hV
  have k0 := h0
  have lt0 : ∀ x ∈ p0, x.block < W.heap.size := by obtain ⟨m, hm⟩ := k0; exact DataW.trod_lt m _ _ _ hm
  obtain ⟨cs0, rfl, _⟩ := okWide_struct Try.underlying23 (hval 0 23 v0 rfl rfl)
  obtain ⟨fu0, hf0⟩ := h0
  obtain ⟨fs0, hu0, hm0, hc0, hx0⟩ := fieldsT23
  obtain ⟨xs0, hl0, hcs0, hw0⟩ := Opn.trod_ints hu0 hc0 hx0 (show DataW.trod _ _ _ _ _ _ _ _ cs0.toList = some _ from hf0)
  obtain ⟨a0_0, a0_1, rfl⟩ := Opn.one2 (hl0.trans hm0)
  obtain rfl : cs0 = #[.int .i64 a0_0, .int .i64 a0_1] := by cases cs0; simpa using hcs0
  have k1 := h1
  have lt1 : ∀ x ∈ p1, x.block < W.heap.size := by obtain ⟨m, hm⟩ := k1; exact DataW.trod_lt m _ _ _ hm
  obtain ⟨cs1, rfl, _⟩ := okWide_struct Try.underlying29 (hval 1 29 v1 rfl rfl)
  obtain ⟨fu1, hf1⟩ := h1
  obtain ⟨fs1, hu1, hm1, hc1, hx1⟩ := fieldsT29
  obtain ⟨xs1, hl1, hcs1, hw1⟩ := Opn.trod_ints hu1 hc1 hx1 (show DataW.trod _ _ _ _ _ _ _ _ cs1.toList = some _ from hf1)
  obtain ⟨a1_0, a1_1, rfl⟩ := Opn.one2 (hl1.trans hm1)
  obtain rfl : cs1 = #[.int .i64 a1_0, .int .i64 a1_1] := by cases cs1; simpa using hcs1
  have hk := Pure.FnExactDelayBound a0_0 a0_1 a1_0 a1_1 (hw0 a0_0 (by simp)) (hw0 a0_1 (by simp)) (hw1 a1_0 (by simp)) (hw1 a1_1 (by simp))
  clear hA0 hval0 hsz0 hsz
  refine (laws_FnExactDelayBound.calls a0_0 a0_1 a1_0 a1_1 true W hk).mono fun e W' ⟨he, hd⟩ => ?_
  have bel := hd
  subst he
  exact ⟨_, rfl, _, _, _, [], _, [], hW', trodAll_mk1 (shut_bool Try.underlying4 _), (trodAll_cons_mk (Below.trod laidOut (by kernel_rfl) (of_decide_eq_true (by kernel_rfl)) k0 bel lt0) (trodAll_cons_mk (Below.trod laidOut (by kernel_rfl) (of_decide_eq_true (by kernel_rfl)) k1 bel lt1) trodAll_mk0)), rfl, bel.frame _, fun h => by cases h⟩
theorem closed : joinedFacts Try.prog 8 Try.f8 Rows.fnExactDelayBoundSpec Rows.fnExactDelayBoundRow = true := by
  simp only [joinedFacts, Head.enter, Head.lifts, Head.make]
  kernel_rfl
theorem named : Try.prog.funcNamed Rows.fnExactDelayBoundRow.func = some 8 := by kernel_rfl
theorem wrapped : Try.f8.isWrapper Try.prog Rows.fnExactDelayBoundRow.wrapper Rows.fnExactDelayBoundRow.mainSum := by unfold Func.isWrapper; first | (rw [if_pos (by decide +kernel)]; kernel_rfl) | (rw [if_neg (by decide +kernel)]; exact ⟨rfl, rfl⟩)
theorem over : Rows.fnExactDelayBoundRow.holds Try.pinned (OpenSpec.ofChange Rows.fnExactDelayBoundSpec) :=
  OpenClaim.holds_of_wide 8 Try.f8 rfl rfl rfl rfl rfl rfl rfl ⟨rfl, rfl, rfl, rfl, rfl⟩ rfl rfl rfl rfl rfl named Try.func8 closed
    (of_decide_eq_true (by kernel_rfl)) wrapped
    (fun os started H enc _ => lifted os started H enc)
theorem proved : Rows.FnExactDelayBoundSaid := over
#print axioms proved
end Go.Proofs.Ytooabmmnbifclaa.fnExactDelayBound
namespace Go.Proofs.Ytooabmmnbifclaa
/-- The row, under a short name, for the claim. -/
theorem fnExactDelayBound_holds : Rows.FnExactDelayBoundSaid := fnExactDelayBound.proved
end Go.Proofs.Ytooabmmnbifclaa
