/-
  No cell of these rows narrows 'for every input' (looked for: loops, veiled, ifaces, maps, wideKeys, modest, calm, conditions, laid).
  DERIVED. THE GIVEN ROWS OF THIS SEAT. 5 by the template 'for every input the law returns true; each argument reads behind the call as it read before'; 0 by the template 'total and deterministic' (their statements: YtebgfobjhlcopaaTotals.lean).
  GIVEN WITH THE SEED: the statements are not yours to turn. If you find one false, say at which input.
  Laid BY PROGRAM, IN A SANDBOX (cutbox-rows.mjs): the forced cells as the released guide's own fill.sh prints them over the translation 08b4af1005987fc6… (all of the seat's roots in one cut). By AI agents, Wed Nov 11 2026. No macro, syntax, notation, axiom, sorry.
-/
import Derived.Test.YtebgfobjhlcopaaChecked
import GoSem.Claim
import GoSem.ClaimJoined
import GoSem.ClaimMapViews
import Derived.JoinedTies
import Derived.KernelRfl
namespace Go.Proofs.Ytebgfobjhlcopaa
/- THE CELL 'sum', in the pinned program and in every row, IS THE sha256 OF THE DUMP (.gsa) THAT YtebgfobjhlcopaaProg.lean LOADS. Nothing in Lean hashes anything: it is a label: what it is worth is what the hold of that sum in a sandbox is worth. -/
noncomputable def Try.pinned : Pinned := { name := "ytebgfobjhlcopaa", sum := "08b4af1005987fc622e5a0dce1caec9bc6559e448650a856a5b993ebf155739f", checked := Try.checked }
namespace Rows
def none {H : Type} : Left H := { results := [], args := [] }

/-- 'laws.FnRunGraph': WHATEVER THE INPUT: true; the input reads as it did. -/
def fnRunGraphSpec : ChangeSpec := { name := "fnRunGraph", fn := fun _ => fun
  | [d] => { results := [.lit (.bool true)], args := [d] }
  | _ => none }
def fnRunGraphRow : OpenClaim := { program := "ytebgfobjhlcopaa", sum := "08b4af1005987fc622e5a0dce1caec9bc6559e448650a856a5b993ebf155739f", func := "loop.example/deadlinescheduler/laws.FnRunGraph", spec := "fnRunGraph", unfollowed := true, recurses := true, apart := false }
def FnRunGraphSaid : Prop := fnRunGraphRow.holds Try.pinned (OpenSpec.ofChange fnRunGraphSpec)

/-- ITS FALSE NEIGHBOUR: 'it returns false'. Refute it at one input. -/
def fnRunGraphWrong : ChangeSpec := { name := "fnRunGraph", fn := fun _ => fun
  | [d] => { results := [.lit (.bool false)], args := [d] }
  | _ => none }
def FnRunGraphWrongFalsely : Prop := fnRunGraphRow.holds Try.pinned (OpenSpec.ofChange fnRunGraphWrong)

/-- 'laws.FnGraphWide': WHATEVER THE INPUT: true; the input reads as it did. -/
def fnGraphWideSpec : ChangeSpec := { name := "fnGraphWide", fn := fun _ => fun
  | [d] => { results := [.lit (.bool true)], args := [d] }
  | _ => none }
def fnGraphWideRow : OpenClaim := { program := "ytebgfobjhlcopaa", sum := "08b4af1005987fc622e5a0dce1caec9bc6559e448650a856a5b993ebf155739f", func := "loop.example/deadlinescheduler/laws.FnGraphWide", spec := "fnGraphWide", unfollowed := true, recurses := true, apart := false }
def FnGraphWideSaid : Prop := fnGraphWideRow.holds Try.pinned (OpenSpec.ofChange fnGraphWideSpec)

/-- ITS FALSE NEIGHBOUR: 'it returns false'. Refute it at one input. -/
def fnGraphWideWrong : ChangeSpec := { name := "fnGraphWide", fn := fun _ => fun
  | [d] => { results := [.lit (.bool false)], args := [d] }
  | _ => none }
def FnGraphWideWrongFalsely : Prop := fnGraphWideRow.holds Try.pinned (OpenSpec.ofChange fnGraphWideWrong)

/-- 'laws.FnExactRunGraph': WHATEVER THE INPUT: true; the input reads as it did. -/
def fnExactRunGraphSpec : ChangeSpec := { name := "fnExactRunGraph", fn := fun _ => fun
  | [d1, d2, d3] => { results := [.lit (.bool true)], args := [d1, d2, d3] }
  | _ => none }
def fnExactRunGraphRow : OpenClaim := { program := "ytebgfobjhlcopaa", sum := "08b4af1005987fc622e5a0dce1caec9bc6559e448650a856a5b993ebf155739f", func := "loop.example/deadlinescheduler/laws.FnExactRunGraph", spec := "fnExactRunGraph", unfollowed := true, recurses := true, apart := false }
def FnExactRunGraphSaid : Prop := fnExactRunGraphRow.holds Try.pinned (OpenSpec.ofChange fnExactRunGraphSpec)

/-- ITS FALSE NEIGHBOUR: 'it returns false'. Refute it at one input. -/
def fnExactRunGraphWrong : ChangeSpec := { name := "fnExactRunGraph", fn := fun _ => fun
  | [d1, d2, d3] => { results := [.lit (.bool false)], args := [d1, d2, d3] }
  | _ => none }
def FnExactRunGraphWrongFalsely : Prop := fnExactRunGraphRow.holds Try.pinned (OpenSpec.ofChange fnExactRunGraphWrong)

/-- 'laws.FnGraham': WHATEVER THE INPUT: true; the input reads as it did. -/
def fnGrahamSpec : ChangeSpec := { name := "fnGraham", fn := fun _ => fun
  | [d] => { results := [.lit (.bool true)], args := [d] }
  | _ => none }
def fnGrahamRow : OpenClaim := { program := "ytebgfobjhlcopaa", sum := "08b4af1005987fc622e5a0dce1caec9bc6559e448650a856a5b993ebf155739f", func := "loop.example/deadlinescheduler/laws.FnGraham", spec := "fnGraham", unfollowed := true, recurses := true, apart := false }
def FnGrahamSaid : Prop := fnGrahamRow.holds Try.pinned (OpenSpec.ofChange fnGrahamSpec)

/-- ITS FALSE NEIGHBOUR: 'it returns false'. Refute it at one input. -/
def fnGrahamWrong : ChangeSpec := { name := "fnGraham", fn := fun _ => fun
  | [d] => { results := [.lit (.bool false)], args := [d] }
  | _ => none }
def FnGrahamWrongFalsely : Prop := fnGrahamRow.holds Try.pinned (OpenSpec.ofChange fnGrahamWrong)

/-- 'laws.FnGraphExample': WHATEVER THE INPUT: true; the input reads as it did. -/
def fnGraphExampleSpec : ChangeSpec := { name := "fnGraphExample", fn := fun _ => fun
  | [d] => { results := [.lit (.bool true)], args := [d] }
  | _ => none }
def fnGraphExampleRow : OpenClaim := { program := "ytebgfobjhlcopaa", sum := "08b4af1005987fc622e5a0dce1caec9bc6559e448650a856a5b993ebf155739f", func := "loop.example/deadlinescheduler/laws.FnGraphExample", spec := "fnGraphExample", unfollowed := true, recurses := true, apart := false }
def FnGraphExampleSaid : Prop := fnGraphExampleRow.holds Try.pinned (OpenSpec.ofChange fnGraphExampleSpec)

/-- ITS FALSE NEIGHBOUR: 'it returns false'. Refute it at one input. -/
def fnGraphExampleWrong : ChangeSpec := { name := "fnGraphExample", fn := fun _ => fun
  | [d] => { results := [.lit (.bool false)], args := [d] }
  | _ => none }
def FnGraphExampleWrongFalsely : Prop := fnGraphExampleRow.holds Try.pinned (OpenSpec.ofChange fnGraphExampleWrong)

/- THE SECOND FORM. 'bulk': how many values and letters a reading holds, each counted each time it is reached (what is shared counts as often as it is met; a slice's spare places count too). A statement '..UptoSaid' is the law's where the arguments, and the package variables that the reading takes, are together of bulk at most 1048576: NARROWER than '..Said'. Prove '..Said' where nothing that the law and all that it calls make is longer than what came in: it says more and counts as full. Else prove '..UptoSaid'. A law counts once. -/
mutual
def uptoBulk {H : Type} : DataW H → Nat
  | .lit (.string bytes) => bytes.length + 1
  | .lit _ => 1
  | .nil => 1
  | .ptr d => uptoBulk d + 1
  | .slice elems spare => uptoBulkAll elems + uptoBulkAll spare + 1
  | .agg parts => uptoBulkAll parts + 1
  | .iface _ d => uptoBulk d + 1
  | .map entries => uptoBulkEntries entries + 1
  | .held _ => 1
def uptoBulkAll {H : Type} : List (DataW H) → Nat
  | [] => 0
  | d :: r => uptoBulk d + uptoBulkAll r
def uptoBulkEntries {H : Type} : List (Lit × DataW H) → Nat
  | [] => 0
  | x :: r => uptoBulkEntry x + uptoBulkEntries r
def uptoBulkEntry {H : Type} : Lit × DataW H → Nat
  | (.string bytes, d) => bytes.length + uptoBulk d + 1
  | (_, d) => uptoBulk d + 1
 end
def uptoSmall : (H : Type) → List (DataW H) → Bool := fun _ ds => decide (uptoBulkAll ds ≤ 1048576)
def OpenSpec.upto (s : _root_.Go.ChangeSpec) : _root_.Go.OpenSpec := { _root_.Go.OpenSpec.ofChange s with cond := some uptoSmall }

/-- 'laws.FnRunGraph', WHERE WHAT IT READS IS OF BULK AT MOST 1048576: true; the input reads as it did. -/
def fnRunGraphUptoRow : OpenClaim := { program := "ytebgfobjhlcopaa", sum := "08b4af1005987fc622e5a0dce1caec9bc6559e448650a856a5b993ebf155739f", func := "loop.example/deadlinescheduler/laws.FnRunGraph", spec := "fnRunGraph", unfollowed := true, recurses := true, apart := false, narrowed := true }
def FnRunGraphUptoSaid : Prop := fnRunGraphUptoRow.holds Try.pinned (OpenSpec.upto fnRunGraphSpec)

/-- 'laws.FnGraphWide', WHERE WHAT IT READS IS OF BULK AT MOST 1048576: true; the input reads as it did. -/
def fnGraphWideUptoRow : OpenClaim := { program := "ytebgfobjhlcopaa", sum := "08b4af1005987fc622e5a0dce1caec9bc6559e448650a856a5b993ebf155739f", func := "loop.example/deadlinescheduler/laws.FnGraphWide", spec := "fnGraphWide", unfollowed := true, recurses := true, apart := false, narrowed := true }
def FnGraphWideUptoSaid : Prop := fnGraphWideUptoRow.holds Try.pinned (OpenSpec.upto fnGraphWideSpec)

/-- 'laws.FnExactRunGraph', WHERE WHAT IT READS IS OF BULK AT MOST 1048576: true; the input reads as it did. -/
def fnExactRunGraphUptoRow : OpenClaim := { program := "ytebgfobjhlcopaa", sum := "08b4af1005987fc622e5a0dce1caec9bc6559e448650a856a5b993ebf155739f", func := "loop.example/deadlinescheduler/laws.FnExactRunGraph", spec := "fnExactRunGraph", unfollowed := true, recurses := true, apart := false, narrowed := true }
def FnExactRunGraphUptoSaid : Prop := fnExactRunGraphUptoRow.holds Try.pinned (OpenSpec.upto fnExactRunGraphSpec)

/-- 'laws.FnGraham', WHERE WHAT IT READS IS OF BULK AT MOST 1048576: true; the input reads as it did. -/
def fnGrahamUptoRow : OpenClaim := { program := "ytebgfobjhlcopaa", sum := "08b4af1005987fc622e5a0dce1caec9bc6559e448650a856a5b993ebf155739f", func := "loop.example/deadlinescheduler/laws.FnGraham", spec := "fnGraham", unfollowed := true, recurses := true, apart := false, narrowed := true }
def FnGrahamUptoSaid : Prop := fnGrahamUptoRow.holds Try.pinned (OpenSpec.upto fnGrahamSpec)

/-- 'laws.FnGraphExample', WHERE WHAT IT READS IS OF BULK AT MOST 1048576: true; the input reads as it did. -/
def fnGraphExampleUptoRow : OpenClaim := { program := "ytebgfobjhlcopaa", sum := "08b4af1005987fc622e5a0dce1caec9bc6559e448650a856a5b993ebf155739f", func := "loop.example/deadlinescheduler/laws.FnGraphExample", spec := "fnGraphExample", unfollowed := true, recurses := true, apart := false, narrowed := true }
def FnGraphExampleUptoSaid : Prop := fnGraphExampleUptoRow.holds Try.pinned (OpenSpec.upto fnGraphExampleSpec)

end Rows
end Go.Proofs.Ytebgfobjhlcopaa
