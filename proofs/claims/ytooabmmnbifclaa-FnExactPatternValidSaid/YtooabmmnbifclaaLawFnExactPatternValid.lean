/- The law FnExactPatternValid, proved: for every input the call returns true and each argument reads as it did. No condition. -/
import Derived.Test.YtooabmmnbifclaaRows
import Derived.Test.YtooabmmnbifclaaPx56
import Derived.Test.YtooabmmnbifclaaPureFnExactPatternValid
import Derived.Test.YtooabmmnbifclaaOpen
import Derived.Test.YtooabmmnbifclaaHead
import Derived.WalkKit
import Derived.ProofKit
import Derived.OpenShut
import Derived.ShutString
import Derived.ChangeOld
import Derived.Below
import Derived.SizedLaws
namespace Go.Proofs.Ytooabmmnbifclaa.fnExactPatternValid
open Go.ChangeShapes Go.WideShapes Go.ChangeAt Go.RowKit Go.Proofs.YtooabmmnbifclaaW.PrintWords Go.Proofs.Ytooabmmnbifclaa.P
open Go.ChangeMaps (open_string shut_string)
theorem own : ownKnob Try.prog.godebug = none := by kernel_rfl
theorem laidOut : laidOutB Try.prog = true := by kernel_rfl
theorem fieldsT35 : ∃ fs, Try.prog.underlying 35 = some (.struct fs) ∧ fs.size = 2 ∧ Try.prog.cellsOf 35 = fs.size ∧ ∀ (j : Nat) (f : Field), fs[j]? = some f → f.offset = j ∧ Try.prog.cellsOf f.type = 1 ∧ Try.prog.underlying f.type = some (.int .i64) := by
  refine ⟨_, Try.underlying35, rfl, by kernel_rfl, fun j f hj => ?_⟩
  match j, hj with
  | 0, hj => obtain rfl := Option.some.inj hj; exact ⟨rfl, by kernel_rfl, Try.underlying3⟩
  | 1, hj => obtain rfl := Option.some.inj hj; exact ⟨rfl, by kernel_rfl, Try.underlying3⟩
  | n + 2, hj => exact absurd hj (by simp)
set_option maxRecDepth 100000 in
theorem lifted (os : Os) (started : os.Started) (H : Type) (enc : TypeId × Value → H) :
    ReturnsInHanded {} Try.checked os 15 .any (Rows.fnExactPatternValidSpec.pre6 enc Try.prog Try.f15 Rows.fnExactPatternValidRow.domain false) (Rows.fnExactPatternValidSpec.post enc Try.prog Try.f15 false true false false) := by
  refine returnsInHanded_of_change_sized (C := Try.checked) own started (by kernel_rfl) Try.func15
    (ChangeSpec.witness6 (enc := enc) (C := Try.checked) false ⟨#[], #[.agg #[.int .i64 0, .int .i64 0], .slice none 0 0], []⟩ 8 (by kernel_rfl) (by kernel_rfl) (by kernel_rfl) (by kernel_rfl)) ?_
  intro W base args ds gs before hval0 hW hcnd hsz0 _
  have hsz : (DataW.weightsEach Try.prog (Try.f15.params.toList ++ Rows.fnExactPatternValidSpec.plain.varTypes Try.prog) (ds ++ gs)).all (· ≤ reachBytes) = true := hsz0
  have hval : ∀ (j : Nat) t v, Try.f15.params[j]? = some t → args[j]? = some v → Value.okWide Try.prog W .any base t v := hval0
  have hW' := hW
  obtain ⟨p, q, hA0, hV, rfl, hfz, hnd⟩ := hW
  have hA : DataW.TrodAll enc Try.prog W 0 (fun _ => true) true Try.f15.params.toList args.toList ds p := hA0
  rw [Try.params15] at hA hval hsz
  obtain ⟨v0, vs0, d0, ds0, p0, q0, hargs, rfl, rfl, h0, r0⟩ := trodAll_cons hA
  obtain ⟨v1, vs1, d1, ds1, p1, q1, rfl, rfl, rfl, h1, r1⟩ := trodAll_cons r0
  obtain ⟨rfl, rfl, rfl⟩ := trodAll_nil r1
  obtain rfl : args = #[v0, v1] := by cases args; simp_all
  obtain ⟨rfl, rfl⟩ := trodVars_none hV
  have k0 := h0
  have lt0 : ∀ x ∈ p0, x.block < W.heap.size := by obtain ⟨m, hm⟩ := k0; exact DataW.trod_lt m _ _ _ hm
  obtain ⟨cs0, rfl, _⟩ := okWide_struct Try.underlying35 (hval 0 35 v0 rfl rfl)
  obtain ⟨fu0, hf0⟩ := h0
  obtain ⟨fs0, hu0, hm0, hc0, hx0⟩ := fieldsT35
  obtain ⟨xs0, hl0, hcs0, hw0⟩ := Opn.trod_ints hu0 hc0 hx0 (show DataW.trod _ _ _ _ _ _ _ _ cs0.toList = some _ from hf0)
  obtain ⟨a0_0, a0_1, rfl⟩ := Opn.one2 (hl0.trans hm0)
  obtain rfl : cs0 = #[.int .i64 a0_0, .int .i64 a0_1] := by cases cs0; simpa using hcs0
  have k1 := h1
  have lt1 : ∀ x ∈ p1, x.block < W.heap.size := by obtain ⟨m, hm⟩ := k1; exact DataW.trod_lt m _ _ _ hm
  obtain ⟨A1, n1, c1, rfl⟩ := okWide_slice Try.underlying60 (hval 1 60 v1 rfl rfl)
  have y1 : n1 * 1 ≤ 140737488351232 := Opn.sized_row hsz (j := 1) (t := 60) rfl rfl Try.underlying60 (by kernel_rfl) h1
  obtain ⟨l1, rfl, hc1, hm1, hr1, hg1⟩ : ∃ xs : List (Bool), xs.length = n1 ∧ n1 ≤ c1 ∧ n1 ≤ maxLen ∧ Kd.C Kd.bool W A1 xs.length xs ∧ ∀ y0 ∈ xs, True := by
    obtain ⟨fuel, hf⟩ := h1
    exact Opn.slice_row Try.underlying60 (by kernel_rfl) (Opn.opens_bool Try.underlying4) hf
  obtain ⟨k, hk⟩ := Pure.FnExactPatternValid a0_0 a0_1 l1 (hw0 a0_0 (by simp)) (hw0 a0_1 (by simp)) y1 ⟨hm1, hg1⟩
  clear hA0 hval0 hsz0 hsz
  refine (laws_FnExactPatternValid.calls k a0_0 a0_1 A1 c1 l1 true W hr1 hc1 hk).mono fun e W' ⟨he, hd⟩ => ?_
  have bel := hd
  subst he
  exact ⟨_, rfl, _, _, _, [], _, [], hW', trodAll_mk1 (shut_bool Try.underlying4 _), (trodAll_cons_mk (Below.trod laidOut (by kernel_rfl) (of_decide_eq_true (by kernel_rfl)) k0 bel lt0) (trodAll_cons_mk (Below.trod laidOut (by kernel_rfl) (of_decide_eq_true (by kernel_rfl)) k1 bel lt1) trodAll_mk0)), rfl, bel.frame _, fun h => by cases h⟩
theorem closed : joinedFacts Try.prog 15 Try.f15 Rows.fnExactPatternValidSpec Rows.fnExactPatternValidRow = true := by
  simp only [joinedFacts, Head.enter, Head.lifts, Head.make]
  kernel_rfl
theorem named : Try.prog.funcNamed Rows.fnExactPatternValidRow.func = some 15 := by kernel_rfl
theorem wrapped : Try.f15.isWrapper Try.prog Rows.fnExactPatternValidRow.wrapper Rows.fnExactPatternValidRow.mainSum := by unfold Func.isWrapper; first | (rw [if_pos (by decide +kernel)]; kernel_rfl) | (rw [if_neg (by decide +kernel)]; exact ⟨rfl, rfl⟩)
theorem over : Rows.fnExactPatternValidRow.holds Try.pinned (OpenSpec.ofChange Rows.fnExactPatternValidSpec) :=
  OpenClaim.holds_of_wide 15 Try.f15 rfl rfl rfl rfl rfl rfl rfl ⟨rfl, rfl, rfl, rfl, rfl⟩ rfl rfl rfl rfl rfl named Try.func15 closed
    (of_decide_eq_true (by kernel_rfl)) wrapped
    (fun os started H enc _ => lifted os started H enc)
theorem proved : Rows.FnExactPatternValidSaid := over
#print axioms proved
end Go.Proofs.Ytooabmmnbifclaa.fnExactPatternValid
namespace Go.Proofs.Ytooabmmnbifclaa
/-- The row, under a short name, for the claim. -/
theorem fnExactPatternValid_holds : Rows.FnExactPatternValidSaid := fnExactPatternValid.proved
end Go.Proofs.Ytooabmmnbifclaa
