/-
  No cell of these rows narrows 'for every input' (looked for: loops, veiled, ifaces, maps, wideKeys, modest, calm, conditions, laid).
  DERIVED. THE GIVEN ROWS OF THIS SEAT. 14 by the template 'for every input the law returns true; each argument reads behind the call as it read before'; 0 by the template 'total and deterministic' (their statements: YtooabmmnbifclaaTotals.lean).
  GIVEN WITH THE SEED: the statements are not yours to turn. If you find one false, say at which input.
  Laid BY PROGRAM, IN A SANDBOX (cutbox-rows.mjs): the forced cells as the released guide's own fill.sh prints them over the translation bcc99e80135c1938… (all of the seat's roots in one cut). By AI agents, Wed Nov 11 2026. No macro, syntax, notation, axiom, sorry.
-/
import Derived.Test.YtooabmmnbifclaaChecked
import GoSem.Claim
import GoSem.ClaimJoined
import GoSem.ClaimMapViews
import Derived.JoinedTies
import Derived.KernelRfl
namespace Go.Proofs.Ytooabmmnbifclaa
/- THE CELL 'sum', in the pinned program and in every row, IS THE sha256 OF THE DUMP (.gsa) THAT YtooabmmnbifclaaProg.lean LOADS. Nothing in Lean hashes anything: it is a label: what it is worth is what the hold of that sum in a sandbox is worth. -/
noncomputable def Try.pinned : Pinned := { name := "ytooabmmnbifclaa", sum := "bcc99e80135c1938bc9d6c1859784f3a445146a75fa47de77a99930af892db7a", checked := Try.checked }
namespace Rows
def none {H : Type} : Left H := { results := [], args := [] }

/-- 'laws.FnExactFlowValid': WHATEVER THE INPUT: true; the input reads as it did. -/
def fnExactFlowValidSpec : ChangeSpec := { name := "fnExactFlowValid", fn := fun _ => fun
  | [d] => { results := [.lit (.bool true)], args := [d] }
  | _ => none }
def fnExactFlowValidRow : OpenClaim := { program := "ytooabmmnbifclaa", sum := "bcc99e80135c1938bc9d6c1859784f3a445146a75fa47de77a99930af892db7a", func := "loop.example/deadlinescheduler/laws.FnExactFlowValid", spec := "fnExactFlowValid", apart := false }
def FnExactFlowValidSaid : Prop := fnExactFlowValidRow.holds Try.pinned (OpenSpec.ofChange fnExactFlowValidSpec)

/-- ITS FALSE NEIGHBOUR: 'it returns false'. Refute it at one input. -/
def fnExactFlowValidWrong : ChangeSpec := { name := "fnExactFlowValid", fn := fun _ => fun
  | [d] => { results := [.lit (.bool false)], args := [d] }
  | _ => none }
def FnExactFlowValidWrongFalsely : Prop := fnExactFlowValidRow.holds Try.pinned (OpenSpec.ofChange fnExactFlowValidWrong)

/-- 'laws.FnExactLinkValid': WHATEVER THE INPUT: true; the input reads as it did. -/
def fnExactLinkValidSpec : ChangeSpec := { name := "fnExactLinkValid", fn := fun _ => fun
  | [d] => { results := [.lit (.bool true)], args := [d] }
  | _ => none }
def fnExactLinkValidRow : OpenClaim := { program := "ytooabmmnbifclaa", sum := "bcc99e80135c1938bc9d6c1859784f3a445146a75fa47de77a99930af892db7a", func := "loop.example/deadlinescheduler/laws.FnExactLinkValid", spec := "fnExactLinkValid", apart := false }
def FnExactLinkValidSaid : Prop := fnExactLinkValidRow.holds Try.pinned (OpenSpec.ofChange fnExactLinkValidSpec)

/-- ITS FALSE NEIGHBOUR: 'it returns false'. Refute it at one input. -/
def fnExactLinkValidWrong : ChangeSpec := { name := "fnExactLinkValid", fn := fun _ => fun
  | [d] => { results := [.lit (.bool false)], args := [d] }
  | _ => none }
def FnExactLinkValidWrongFalsely : Prop := fnExactLinkValidRow.holds Try.pinned (OpenSpec.ofChange fnExactLinkValidWrong)

/-- 'laws.FnExactSupplyValid': WHATEVER THE INPUT: true; the input reads as it did. -/
def fnExactSupplyValidSpec : ChangeSpec := { name := "fnExactSupplyValid", fn := fun _ => fun
  | [d] => { results := [.lit (.bool true)], args := [d] }
  | _ => none }
def fnExactSupplyValidRow : OpenClaim := { program := "ytooabmmnbifclaa", sum := "bcc99e80135c1938bc9d6c1859784f3a445146a75fa47de77a99930af892db7a", func := "loop.example/deadlinescheduler/laws.FnExactSupplyValid", spec := "fnExactSupplyValid", apart := false }
def FnExactSupplyValidSaid : Prop := fnExactSupplyValidRow.holds Try.pinned (OpenSpec.ofChange fnExactSupplyValidSpec)

/-- ITS FALSE NEIGHBOUR: 'it returns false'. Refute it at one input. -/
def fnExactSupplyValidWrong : ChangeSpec := { name := "fnExactSupplyValid", fn := fun _ => fun
  | [d] => { results := [.lit (.bool false)], args := [d] }
  | _ => none }
def FnExactSupplyValidWrongFalsely : Prop := fnExactSupplyValidRow.holds Try.pinned (OpenSpec.ofChange fnExactSupplyValidWrong)

/-- 'laws.FnExactConcatenate': WHATEVER THE INPUT: true; the input reads as it did. -/
def fnExactConcatenateSpec : ChangeSpec := { name := "fnExactConcatenate", fn := fun _ => fun
  | [d1, d2] => { results := [.lit (.bool true)], args := [d1, d2] }
  | _ => none }
def fnExactConcatenateRow : OpenClaim := { program := "ytooabmmnbifclaa", sum := "bcc99e80135c1938bc9d6c1859784f3a445146a75fa47de77a99930af892db7a", func := "loop.example/deadlinescheduler/laws.FnExactConcatenate", spec := "fnExactConcatenate", apart := false }
def FnExactConcatenateSaid : Prop := fnExactConcatenateRow.holds Try.pinned (OpenSpec.ofChange fnExactConcatenateSpec)

/-- ITS FALSE NEIGHBOUR: 'it returns false'. Refute it at one input. -/
def fnExactConcatenateWrong : ChangeSpec := { name := "fnExactConcatenate", fn := fun _ => fun
  | [d1, d2] => { results := [.lit (.bool false)], args := [d1, d2] }
  | _ => none }
def FnExactConcatenateWrongFalsely : Prop := fnExactConcatenateRow.holds Try.pinned (OpenSpec.ofChange fnExactConcatenateWrong)

/-- 'laws.FnExactBacklogBound': WHATEVER THE INPUT: true; the input reads as it did. -/
def fnExactBacklogBoundSpec : ChangeSpec := { name := "fnExactBacklogBound", fn := fun _ => fun
  | [d1, d2] => { results := [.lit (.bool true)], args := [d1, d2] }
  | _ => none }
def fnExactBacklogBoundRow : OpenClaim := { program := "ytooabmmnbifclaa", sum := "bcc99e80135c1938bc9d6c1859784f3a445146a75fa47de77a99930af892db7a", func := "loop.example/deadlinescheduler/laws.FnExactBacklogBound", spec := "fnExactBacklogBound", apart := false }
def FnExactBacklogBoundSaid : Prop := fnExactBacklogBoundRow.holds Try.pinned (OpenSpec.ofChange fnExactBacklogBoundSpec)

/-- ITS FALSE NEIGHBOUR: 'it returns false'. Refute it at one input. -/
def fnExactBacklogBoundWrong : ChangeSpec := { name := "fnExactBacklogBound", fn := fun _ => fun
  | [d1, d2] => { results := [.lit (.bool false)], args := [d1, d2] }
  | _ => none }
def FnExactBacklogBoundWrongFalsely : Prop := fnExactBacklogBoundRow.holds Try.pinned (OpenSpec.ofChange fnExactBacklogBoundWrong)

/-- 'laws.FnExactDelayBound': WHATEVER THE INPUT: true; the input reads as it did. -/
def fnExactDelayBoundSpec : ChangeSpec := { name := "fnExactDelayBound", fn := fun _ => fun
  | [d1, d2] => { results := [.lit (.bool true)], args := [d1, d2] }
  | _ => none }
def fnExactDelayBoundRow : OpenClaim := { program := "ytooabmmnbifclaa", sum := "bcc99e80135c1938bc9d6c1859784f3a445146a75fa47de77a99930af892db7a", func := "loop.example/deadlinescheduler/laws.FnExactDelayBound", spec := "fnExactDelayBound", apart := false }
def FnExactDelayBoundSaid : Prop := fnExactDelayBoundRow.holds Try.pinned (OpenSpec.ofChange fnExactDelayBoundSpec)

/-- ITS FALSE NEIGHBOUR: 'it returns false'. Refute it at one input. -/
def fnExactDelayBoundWrong : ChangeSpec := { name := "fnExactDelayBound", fn := fun _ => fun
  | [d1, d2] => { results := [.lit (.bool false)], args := [d1, d2] }
  | _ => none }
def FnExactDelayBoundWrongFalsely : Prop := fnExactDelayBoundRow.holds Try.pinned (OpenSpec.ofChange fnExactDelayBoundWrong)

/-- 'laws.FnExactSupplyBound': WHATEVER THE INPUT: true; the input reads as it did. -/
def fnExactSupplyBoundSpec : ChangeSpec := { name := "fnExactSupplyBound", fn := fun _ => fun
  | [d1, d2] => { results := [.lit (.bool true)], args := [d1, d2] }
  | _ => none }
def fnExactSupplyBoundRow : OpenClaim := { program := "ytooabmmnbifclaa", sum := "bcc99e80135c1938bc9d6c1859784f3a445146a75fa47de77a99930af892db7a", func := "loop.example/deadlinescheduler/laws.FnExactSupplyBound", spec := "fnExactSupplyBound", apart := false }
def FnExactSupplyBoundSaid : Prop := fnExactSupplyBoundRow.holds Try.pinned (OpenSpec.ofChange fnExactSupplyBoundSpec)

/-- ITS FALSE NEIGHBOUR: 'it returns false'. Refute it at one input. -/
def fnExactSupplyBoundWrong : ChangeSpec := { name := "fnExactSupplyBound", fn := fun _ => fun
  | [d1, d2] => { results := [.lit (.bool false)], args := [d1, d2] }
  | _ => none }
def FnExactSupplyBoundWrongFalsely : Prop := fnExactSupplyBoundRow.holds Try.pinned (OpenSpec.ofChange fnExactSupplyBoundWrong)

/-- 'laws.FnSupplyValid': WHATEVER THE INPUT: true; the input reads as it did. -/
def fnSupplyValidSpec : ChangeSpec := { name := "fnSupplyValid", fn := fun _ => fun
  | [d] => { results := [.lit (.bool true)], args := [d] }
  | _ => none }
def fnSupplyValidRow : OpenClaim := { program := "ytooabmmnbifclaa", sum := "bcc99e80135c1938bc9d6c1859784f3a445146a75fa47de77a99930af892db7a", func := "loop.example/deadlinescheduler/laws.FnSupplyValid", spec := "fnSupplyValid", apart := false }
def FnSupplyValidSaid : Prop := fnSupplyValidRow.holds Try.pinned (OpenSpec.ofChange fnSupplyValidSpec)

/-- ITS FALSE NEIGHBOUR: 'it returns false'. Refute it at one input. -/
def fnSupplyValidWrong : ChangeSpec := { name := "fnSupplyValid", fn := fun _ => fun
  | [d] => { results := [.lit (.bool false)], args := [d] }
  | _ => none }
def FnSupplyValidWrongFalsely : Prop := fnSupplyValidRow.holds Try.pinned (OpenSpec.ofChange fnSupplyValidWrong)

/-- 'laws.FnFlowLink': WHATEVER THE INPUT: true; the input reads as it did. -/
def fnFlowLinkSpec : ChangeSpec := { name := "fnFlowLink", fn := fun _ => fun
  | [d1, d2] => { results := [.lit (.bool true)], args := [d1, d2] }
  | _ => none }
def fnFlowLinkRow : OpenClaim := { program := "ytooabmmnbifclaa", sum := "bcc99e80135c1938bc9d6c1859784f3a445146a75fa47de77a99930af892db7a", func := "loop.example/deadlinescheduler/laws.FnFlowLink", spec := "fnFlowLink", apart := false }
def FnFlowLinkSaid : Prop := fnFlowLinkRow.holds Try.pinned (OpenSpec.ofChange fnFlowLinkSpec)

/-- ITS FALSE NEIGHBOUR: 'it returns false'. Refute it at one input. -/
def fnFlowLinkWrong : ChangeSpec := { name := "fnFlowLink", fn := fun _ => fun
  | [d1, d2] => { results := [.lit (.bool false)], args := [d1, d2] }
  | _ => none }
def FnFlowLinkWrongFalsely : Prop := fnFlowLinkRow.holds Try.pinned (OpenSpec.ofChange fnFlowLinkWrong)

/-- 'laws.FnSupplyBound': WHATEVER THE INPUT: true; the input reads as it did. -/
def fnSupplyBoundSpec : ChangeSpec := { name := "fnSupplyBound", fn := fun _ => fun
  | [d] => { results := [.lit (.bool true)], args := [d] }
  | _ => none }
def fnSupplyBoundRow : OpenClaim := { program := "ytooabmmnbifclaa", sum := "bcc99e80135c1938bc9d6c1859784f3a445146a75fa47de77a99930af892db7a", func := "loop.example/deadlinescheduler/laws.FnSupplyBound", spec := "fnSupplyBound", apart := false }
def FnSupplyBoundSaid : Prop := fnSupplyBoundRow.holds Try.pinned (OpenSpec.ofChange fnSupplyBoundSpec)

/-- ITS FALSE NEIGHBOUR: 'it returns false'. Refute it at one input. -/
def fnSupplyBoundWrong : ChangeSpec := { name := "fnSupplyBound", fn := fun _ => fun
  | [d] => { results := [.lit (.bool false)], args := [d] }
  | _ => none }
def FnSupplyBoundWrongFalsely : Prop := fnSupplyBoundRow.holds Try.pinned (OpenSpec.ofChange fnSupplyBoundWrong)

/-- 'laws.FnConcatenate': WHATEVER THE INPUT: true; the input reads as it did. -/
def fnConcatenateSpec : ChangeSpec := { name := "fnConcatenate", fn := fun _ => fun
  | [d1, d2] => { results := [.lit (.bool true)], args := [d1, d2] }
  | _ => none }
def fnConcatenateRow : OpenClaim := { program := "ytooabmmnbifclaa", sum := "bcc99e80135c1938bc9d6c1859784f3a445146a75fa47de77a99930af892db7a", func := "loop.example/deadlinescheduler/laws.FnConcatenate", spec := "fnConcatenate", apart := false }
def FnConcatenateSaid : Prop := fnConcatenateRow.holds Try.pinned (OpenSpec.ofChange fnConcatenateSpec)

/-- ITS FALSE NEIGHBOUR: 'it returns false'. Refute it at one input. -/
def fnConcatenateWrong : ChangeSpec := { name := "fnConcatenate", fn := fun _ => fun
  | [d1, d2] => { results := [.lit (.bool false)], args := [d1, d2] }
  | _ => none }
def FnConcatenateWrongFalsely : Prop := fnConcatenateRow.holds Try.pinned (OpenSpec.ofChange fnConcatenateWrong)

/-- 'laws.FnBounds': WHATEVER THE INPUT: true; the input reads as it did. -/
def fnBoundsSpec : ChangeSpec := { name := "fnBounds", fn := fun _ => fun
  | [d] => { results := [.lit (.bool true)], args := [d] }
  | _ => none }
def fnBoundsRow : OpenClaim := { program := "ytooabmmnbifclaa", sum := "bcc99e80135c1938bc9d6c1859784f3a445146a75fa47de77a99930af892db7a", func := "loop.example/deadlinescheduler/laws.FnBounds", spec := "fnBounds", apart := false }
def FnBoundsSaid : Prop := fnBoundsRow.holds Try.pinned (OpenSpec.ofChange fnBoundsSpec)

/-- ITS FALSE NEIGHBOUR: 'it returns false'. Refute it at one input. -/
def fnBoundsWrong : ChangeSpec := { name := "fnBounds", fn := fun _ => fun
  | [d] => { results := [.lit (.bool false)], args := [d] }
  | _ => none }
def FnBoundsWrongFalsely : Prop := fnBoundsRow.holds Try.pinned (OpenSpec.ofChange fnBoundsWrong)

/-- 'laws.FnExactPatternValid': WHATEVER THE INPUT: true; the input reads as it did. -/
def fnExactPatternValidSpec : ChangeSpec := { name := "fnExactPatternValid", fn := fun _ => fun
  | [d1, d2] => { results := [.lit (.bool true)], args := [d1, d2] }
  | _ => none }
def fnExactPatternValidRow : OpenClaim := { program := "ytooabmmnbifclaa", sum := "bcc99e80135c1938bc9d6c1859784f3a445146a75fa47de77a99930af892db7a", func := "loop.example/deadlinescheduler/laws.FnExactPatternValid", spec := "fnExactPatternValid", apart := false }
def FnExactPatternValidSaid : Prop := fnExactPatternValidRow.holds Try.pinned (OpenSpec.ofChange fnExactPatternValidSpec)

/-- ITS FALSE NEIGHBOUR: 'it returns false'. Refute it at one input. -/
def fnExactPatternValidWrong : ChangeSpec := { name := "fnExactPatternValid", fn := fun _ => fun
  | [d1, d2] => { results := [.lit (.bool false)], args := [d1, d2] }
  | _ => none }
def FnExactPatternValidWrongFalsely : Prop := fnExactPatternValidRow.holds Try.pinned (OpenSpec.ofChange fnExactPatternValidWrong)

/-- 'laws.FnSupplyWorst': WHATEVER THE INPUT: true; the input reads as it did. -/
def fnSupplyWorstSpec : ChangeSpec := { name := "fnSupplyWorst", fn := fun _ => fun
  | [d] => { results := [.lit (.bool true)], args := [d] }
  | _ => none }
def fnSupplyWorstRow : OpenClaim := { program := "ytooabmmnbifclaa", sum := "bcc99e80135c1938bc9d6c1859784f3a445146a75fa47de77a99930af892db7a", func := "loop.example/deadlinescheduler/laws.FnSupplyWorst", spec := "fnSupplyWorst", apart := false }
def FnSupplyWorstSaid : Prop := fnSupplyWorstRow.holds Try.pinned (OpenSpec.ofChange fnSupplyWorstSpec)

/-- ITS FALSE NEIGHBOUR: 'it returns false'. Refute it at one input. -/
def fnSupplyWorstWrong : ChangeSpec := { name := "fnSupplyWorst", fn := fun _ => fun
  | [d] => { results := [.lit (.bool false)], args := [d] }
  | _ => none }
def FnSupplyWorstWrongFalsely : Prop := fnSupplyWorstRow.holds Try.pinned (OpenSpec.ofChange fnSupplyWorstWrong)

/- THE SECOND FORM. 'bulk': how many values and letters a reading holds, each counted each time it is reached (what is shared counts as often as it is met; a slice's spare places count too). A statement '..UptoSaid' is the law's where the arguments, and the package variables that the reading takes, are together of bulk at most 1048576: NARROWER than '..Said'. Prove '..Said' where nothing that the law and all that it calls make is longer than what came in: it says more and counts as full. Else prove '..UptoSaid'. A law counts once. -/
mutual
def uptoBulk {H : Type} : DataW H → Nat
  | .lit (.string bytes) => bytes.length + 1
  | .lit _ => 1
  | .nil => 1
  | .ptr d => uptoBulk d + 1
  | .slice elems spare => uptoBulkAll elems + uptoBulkAll spare + 1
  | .agg parts => uptoBulkAll parts + 1
  | .iface _ d => uptoBulk d + 1
  | .map entries => uptoBulkEntries entries + 1
  | .held _ => 1
def uptoBulkAll {H : Type} : List (DataW H) → Nat
  | [] => 0
  | d :: r => uptoBulk d + uptoBulkAll r
def uptoBulkEntries {H : Type} : List (Lit × DataW H) → Nat
  | [] => 0
  | x :: r => uptoBulkEntry x + uptoBulkEntries r
def uptoBulkEntry {H : Type} : Lit × DataW H → Nat
  | (.string bytes, d) => bytes.length + uptoBulk d + 1
  | (_, d) => uptoBulk d + 1
 end
def uptoSmall : (H : Type) → List (DataW H) → Bool := fun _ ds => decide (uptoBulkAll ds ≤ 1048576)
def OpenSpec.upto (s : _root_.Go.ChangeSpec) : _root_.Go.OpenSpec := { _root_.Go.OpenSpec.ofChange s with cond := some uptoSmall }

/-- 'laws.FnExactFlowValid', WHERE WHAT IT READS IS OF BULK AT MOST 1048576: true; the input reads as it did. -/
def fnExactFlowValidUptoRow : OpenClaim := { program := "ytooabmmnbifclaa", sum := "bcc99e80135c1938bc9d6c1859784f3a445146a75fa47de77a99930af892db7a", func := "loop.example/deadlinescheduler/laws.FnExactFlowValid", spec := "fnExactFlowValid", apart := false, narrowed := true }
def FnExactFlowValidUptoSaid : Prop := fnExactFlowValidUptoRow.holds Try.pinned (OpenSpec.upto fnExactFlowValidSpec)

/-- 'laws.FnExactLinkValid', WHERE WHAT IT READS IS OF BULK AT MOST 1048576: true; the input reads as it did. -/
def fnExactLinkValidUptoRow : OpenClaim := { program := "ytooabmmnbifclaa", sum := "bcc99e80135c1938bc9d6c1859784f3a445146a75fa47de77a99930af892db7a", func := "loop.example/deadlinescheduler/laws.FnExactLinkValid", spec := "fnExactLinkValid", apart := false, narrowed := true }
def FnExactLinkValidUptoSaid : Prop := fnExactLinkValidUptoRow.holds Try.pinned (OpenSpec.upto fnExactLinkValidSpec)

/-- 'laws.FnExactSupplyValid', WHERE WHAT IT READS IS OF BULK AT MOST 1048576: true; the input reads as it did. -/
def fnExactSupplyValidUptoRow : OpenClaim := { program := "ytooabmmnbifclaa", sum := "bcc99e80135c1938bc9d6c1859784f3a445146a75fa47de77a99930af892db7a", func := "loop.example/deadlinescheduler/laws.FnExactSupplyValid", spec := "fnExactSupplyValid", apart := false, narrowed := true }
def FnExactSupplyValidUptoSaid : Prop := fnExactSupplyValidUptoRow.holds Try.pinned (OpenSpec.upto fnExactSupplyValidSpec)

/-- 'laws.FnExactConcatenate', WHERE WHAT IT READS IS OF BULK AT MOST 1048576: true; the input reads as it did. -/
def fnExactConcatenateUptoRow : OpenClaim := { program := "ytooabmmnbifclaa", sum := "bcc99e80135c1938bc9d6c1859784f3a445146a75fa47de77a99930af892db7a", func := "loop.example/deadlinescheduler/laws.FnExactConcatenate", spec := "fnExactConcatenate", apart := false, narrowed := true }
def FnExactConcatenateUptoSaid : Prop := fnExactConcatenateUptoRow.holds Try.pinned (OpenSpec.upto fnExactConcatenateSpec)

/-- 'laws.FnExactBacklogBound', WHERE WHAT IT READS IS OF BULK AT MOST 1048576: true; the input reads as it did. -/
def fnExactBacklogBoundUptoRow : OpenClaim := { program := "ytooabmmnbifclaa", sum := "bcc99e80135c1938bc9d6c1859784f3a445146a75fa47de77a99930af892db7a", func := "loop.example/deadlinescheduler/laws.FnExactBacklogBound", spec := "fnExactBacklogBound", apart := false, narrowed := true }
def FnExactBacklogBoundUptoSaid : Prop := fnExactBacklogBoundUptoRow.holds Try.pinned (OpenSpec.upto fnExactBacklogBoundSpec)

/-- 'laws.FnExactDelayBound', WHERE WHAT IT READS IS OF BULK AT MOST 1048576: true; the input reads as it did. -/
def fnExactDelayBoundUptoRow : OpenClaim := { program := "ytooabmmnbifclaa", sum := "bcc99e80135c1938bc9d6c1859784f3a445146a75fa47de77a99930af892db7a", func := "loop.example/deadlinescheduler/laws.FnExactDelayBound", spec := "fnExactDelayBound", apart := false, narrowed := true }
def FnExactDelayBoundUptoSaid : Prop := fnExactDelayBoundUptoRow.holds Try.pinned (OpenSpec.upto fnExactDelayBoundSpec)

/-- 'laws.FnExactSupplyBound', WHERE WHAT IT READS IS OF BULK AT MOST 1048576: true; the input reads as it did. -/
def fnExactSupplyBoundUptoRow : OpenClaim := { program := "ytooabmmnbifclaa", sum := "bcc99e80135c1938bc9d6c1859784f3a445146a75fa47de77a99930af892db7a", func := "loop.example/deadlinescheduler/laws.FnExactSupplyBound", spec := "fnExactSupplyBound", apart := false, narrowed := true }
def FnExactSupplyBoundUptoSaid : Prop := fnExactSupplyBoundUptoRow.holds Try.pinned (OpenSpec.upto fnExactSupplyBoundSpec)

/-- 'laws.FnSupplyValid', WHERE WHAT IT READS IS OF BULK AT MOST 1048576: true; the input reads as it did. -/
def fnSupplyValidUptoRow : OpenClaim := { program := "ytooabmmnbifclaa", sum := "bcc99e80135c1938bc9d6c1859784f3a445146a75fa47de77a99930af892db7a", func := "loop.example/deadlinescheduler/laws.FnSupplyValid", spec := "fnSupplyValid", apart := false, narrowed := true }
def FnSupplyValidUptoSaid : Prop := fnSupplyValidUptoRow.holds Try.pinned (OpenSpec.upto fnSupplyValidSpec)

/-- 'laws.FnFlowLink', WHERE WHAT IT READS IS OF BULK AT MOST 1048576: true; the input reads as it did. -/
def fnFlowLinkUptoRow : OpenClaim := { program := "ytooabmmnbifclaa", sum := "bcc99e80135c1938bc9d6c1859784f3a445146a75fa47de77a99930af892db7a", func := "loop.example/deadlinescheduler/laws.FnFlowLink", spec := "fnFlowLink", apart := false, narrowed := true }
def FnFlowLinkUptoSaid : Prop := fnFlowLinkUptoRow.holds Try.pinned (OpenSpec.upto fnFlowLinkSpec)

/-- 'laws.FnSupplyBound', WHERE WHAT IT READS IS OF BULK AT MOST 1048576: true; the input reads as it did. -/
def fnSupplyBoundUptoRow : OpenClaim := { program := "ytooabmmnbifclaa", sum := "bcc99e80135c1938bc9d6c1859784f3a445146a75fa47de77a99930af892db7a", func := "loop.example/deadlinescheduler/laws.FnSupplyBound", spec := "fnSupplyBound", apart := false, narrowed := true }
def FnSupplyBoundUptoSaid : Prop := fnSupplyBoundUptoRow.holds Try.pinned (OpenSpec.upto fnSupplyBoundSpec)

/-- 'laws.FnConcatenate', WHERE WHAT IT READS IS OF BULK AT MOST 1048576: true; the input reads as it did. -/
def fnConcatenateUptoRow : OpenClaim := { program := "ytooabmmnbifclaa", sum := "bcc99e80135c1938bc9d6c1859784f3a445146a75fa47de77a99930af892db7a", func := "loop.example/deadlinescheduler/laws.FnConcatenate", spec := "fnConcatenate", apart := false, narrowed := true }
def FnConcatenateUptoSaid : Prop := fnConcatenateUptoRow.holds Try.pinned (OpenSpec.upto fnConcatenateSpec)

/-- 'laws.FnBounds', WHERE WHAT IT READS IS OF BULK AT MOST 1048576: true; the input reads as it did. -/
def fnBoundsUptoRow : OpenClaim := { program := "ytooabmmnbifclaa", sum := "bcc99e80135c1938bc9d6c1859784f3a445146a75fa47de77a99930af892db7a", func := "loop.example/deadlinescheduler/laws.FnBounds", spec := "fnBounds", apart := false, narrowed := true }
def FnBoundsUptoSaid : Prop := fnBoundsUptoRow.holds Try.pinned (OpenSpec.upto fnBoundsSpec)

/-- 'laws.FnExactPatternValid', WHERE WHAT IT READS IS OF BULK AT MOST 1048576: true; the input reads as it did. -/
def fnExactPatternValidUptoRow : OpenClaim := { program := "ytooabmmnbifclaa", sum := "bcc99e80135c1938bc9d6c1859784f3a445146a75fa47de77a99930af892db7a", func := "loop.example/deadlinescheduler/laws.FnExactPatternValid", spec := "fnExactPatternValid", apart := false, narrowed := true }
def FnExactPatternValidUptoSaid : Prop := fnExactPatternValidUptoRow.holds Try.pinned (OpenSpec.upto fnExactPatternValidSpec)

/-- 'laws.FnSupplyWorst', WHERE WHAT IT READS IS OF BULK AT MOST 1048576: true; the input reads as it did. -/
def fnSupplyWorstUptoRow : OpenClaim := { program := "ytooabmmnbifclaa", sum := "bcc99e80135c1938bc9d6c1859784f3a445146a75fa47de77a99930af892db7a", func := "loop.example/deadlinescheduler/laws.FnSupplyWorst", spec := "fnSupplyWorst", apart := false, narrowed := true }
def FnSupplyWorstUptoSaid : Prop := fnSupplyWorstUptoRow.holds Try.pinned (OpenSpec.upto fnSupplyWorstSpec)

end Rows
end Go.Proofs.Ytooabmmnbifclaa
