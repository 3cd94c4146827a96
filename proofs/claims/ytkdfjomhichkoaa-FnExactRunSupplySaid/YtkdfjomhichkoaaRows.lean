/-
  No cell of these rows narrows 'for every input' (looked for: loops, veiled, ifaces, maps, wideKeys, modest, calm, conditions, laid).
  DERIVED. THE GIVEN ROWS OF THIS SEAT. 8 by the template 'for every input the law returns true; each argument reads behind the call as it read before'; 0 by the template 'total and deterministic' (their statements: YtkdfjomhichkoaaTotals.lean).
  GIVEN WITH THE SEED: the statements are not yours to turn. If you find one false, say at which input.
  Laid BY PROGRAM, IN A SANDBOX (cutbox-rows.mjs): the forced cells as the released guide's own fill.sh prints them over the translation f656a6250c9413b0… (all of the seat's roots in one cut). By AI agents, Wed Nov 11 2026. No macro, syntax, notation, axiom, sorry.
-/
import Derived.Test.YtkdfjomhichkoaaChecked
import GoSem.Claim
import GoSem.ClaimJoined
import GoSem.ClaimMapViews
import Derived.JoinedTies
import Derived.KernelRfl
namespace Go.Proofs.Ytkdfjomhichkoaa
/- THE CELL 'sum', in the pinned program and in every row, IS THE sha256 OF THE DUMP (.gsa) THAT YtkdfjomhichkoaaProg.lean LOADS. Nothing in Lean hashes anything: it is a label: what it is worth is what the hold of that sum in a sandbox is worth. -/
noncomputable def Try.pinned : Pinned := { name := "ytkdfjomhichkoaa", sum := "f656a6250c9413b0b3f9365eac99bce872d6e6c5ee79ef93d7e86d236a70fc14", checked := Try.checked }
namespace Rows
def none {H : Type} : Left H := { results := [], args := [] }

/-- 'laws.FnRunNonPreemptive': WHATEVER THE INPUT: true; the input reads as it did. -/
def fnRunNonPreemptiveSpec : ChangeSpec := { name := "fnRunNonPreemptive", fn := fun _ => fun
  | [d] => { results := [.lit (.bool true)], args := [d] }
  | _ => none }
def fnRunNonPreemptiveRow : OpenClaim := { program := "ytkdfjomhichkoaa", sum := "f656a6250c9413b0b3f9365eac99bce872d6e6c5ee79ef93d7e86d236a70fc14", func := "loop.example/deadlinescheduler/laws.FnRunNonPreemptive", spec := "fnRunNonPreemptive", unfollowed := true, recurses := true, apart := false }
def FnRunNonPreemptiveSaid : Prop := fnRunNonPreemptiveRow.holds Try.pinned (OpenSpec.ofChange fnRunNonPreemptiveSpec)

/-- ITS FALSE NEIGHBOUR: 'it returns false'. Refute it at one input. -/
def fnRunNonPreemptiveWrong : ChangeSpec := { name := "fnRunNonPreemptive", fn := fun _ => fun
  | [d] => { results := [.lit (.bool false)], args := [d] }
  | _ => none }
def FnRunNonPreemptiveWrongFalsely : Prop := fnRunNonPreemptiveRow.holds Try.pinned (OpenSpec.ofChange fnRunNonPreemptiveWrong)

/-- 'laws.FnUnitCosts': WHATEVER THE INPUT: true; the input reads as it did. -/
def fnUnitCostsSpec : ChangeSpec := { name := "fnUnitCosts", fn := fun _ => fun
  | [d] => { results := [.lit (.bool true)], args := [d] }
  | _ => none }
def fnUnitCostsRow : OpenClaim := { program := "ytkdfjomhichkoaa", sum := "f656a6250c9413b0b3f9365eac99bce872d6e6c5ee79ef93d7e86d236a70fc14", func := "loop.example/deadlinescheduler/laws.FnUnitCosts", spec := "fnUnitCosts", unfollowed := true, recurses := true, apart := false }
def FnUnitCostsSaid : Prop := fnUnitCostsRow.holds Try.pinned (OpenSpec.ofChange fnUnitCostsSpec)

/-- ITS FALSE NEIGHBOUR: 'it returns false'. Refute it at one input. -/
def fnUnitCostsWrong : ChangeSpec := { name := "fnUnitCosts", fn := fun _ => fun
  | [d] => { results := [.lit (.bool false)], args := [d] }
  | _ => none }
def FnUnitCostsWrongFalsely : Prop := fnUnitCostsRow.holds Try.pinned (OpenSpec.ofChange fnUnitCostsWrong)

/-- 'laws.FnExactRunNonPreemptive': WHATEVER THE INPUT: true; the input reads as it did. -/
def fnExactRunNonPreemptiveSpec : ChangeSpec := { name := "fnExactRunNonPreemptive", fn := fun _ => fun
  | [d1, d2] => { results := [.lit (.bool true)], args := [d1, d2] }
  | _ => none }
def fnExactRunNonPreemptiveRow : OpenClaim := { program := "ytkdfjomhichkoaa", sum := "f656a6250c9413b0b3f9365eac99bce872d6e6c5ee79ef93d7e86d236a70fc14", func := "loop.example/deadlinescheduler/laws.FnExactRunNonPreemptive", spec := "fnExactRunNonPreemptive", unfollowed := true, recurses := true, apart := false }
def FnExactRunNonPreemptiveSaid : Prop := fnExactRunNonPreemptiveRow.holds Try.pinned (OpenSpec.ofChange fnExactRunNonPreemptiveSpec)

/-- ITS FALSE NEIGHBOUR: 'it returns false'. Refute it at one input. -/
def fnExactRunNonPreemptiveWrong : ChangeSpec := { name := "fnExactRunNonPreemptive", fn := fun _ => fun
  | [d1, d2] => { results := [.lit (.bool false)], args := [d1, d2] }
  | _ => none }
def FnExactRunNonPreemptiveWrongFalsely : Prop := fnExactRunNonPreemptiveRow.holds Try.pinned (OpenSpec.ofChange fnExactRunNonPreemptiveWrong)

/-- 'laws.FnNonPreemptiveSafe': WHATEVER THE INPUT: true; the input reads as it did. -/
def fnNonPreemptiveSafeSpec : ChangeSpec := { name := "fnNonPreemptiveSafe", fn := fun _ => fun
  | [d] => { results := [.lit (.bool true)], args := [d] }
  | _ => none }
def fnNonPreemptiveSafeRow : OpenClaim := { program := "ytkdfjomhichkoaa", sum := "f656a6250c9413b0b3f9365eac99bce872d6e6c5ee79ef93d7e86d236a70fc14", func := "loop.example/deadlinescheduler/laws.FnNonPreemptiveSafe", spec := "fnNonPreemptiveSafe", unfollowed := true, recurses := true, apart := false }
def FnNonPreemptiveSafeSaid : Prop := fnNonPreemptiveSafeRow.holds Try.pinned (OpenSpec.ofChange fnNonPreemptiveSafeSpec)

/-- ITS FALSE NEIGHBOUR: 'it returns false'. Refute it at one input. -/
def fnNonPreemptiveSafeWrong : ChangeSpec := { name := "fnNonPreemptiveSafe", fn := fun _ => fun
  | [d] => { results := [.lit (.bool false)], args := [d] }
  | _ => none }
def FnNonPreemptiveSafeWrongFalsely : Prop := fnNonPreemptiveSafeRow.holds Try.pinned (OpenSpec.ofChange fnNonPreemptiveSafeWrong)

/-- 'laws.FnRunSupply': WHATEVER THE INPUT: true; the input reads as it did. -/
def fnRunSupplySpec : ChangeSpec := { name := "fnRunSupply", fn := fun _ => fun
  | [d] => { results := [.lit (.bool true)], args := [d] }
  | _ => none }
def fnRunSupplyRow : OpenClaim := { program := "ytkdfjomhichkoaa", sum := "f656a6250c9413b0b3f9365eac99bce872d6e6c5ee79ef93d7e86d236a70fc14", func := "loop.example/deadlinescheduler/laws.FnRunSupply", spec := "fnRunSupply", unfollowed := true, recurses := true, apart := false }
def FnRunSupplySaid : Prop := fnRunSupplyRow.holds Try.pinned (OpenSpec.ofChange fnRunSupplySpec)

/-- ITS FALSE NEIGHBOUR: 'it returns false'. Refute it at one input. -/
def fnRunSupplyWrong : ChangeSpec := { name := "fnRunSupply", fn := fun _ => fun
  | [d] => { results := [.lit (.bool false)], args := [d] }
  | _ => none }
def FnRunSupplyWrongFalsely : Prop := fnRunSupplyRow.holds Try.pinned (OpenSpec.ofChange fnRunSupplyWrong)

/-- 'laws.FnExactRunSupply': WHATEVER THE INPUT: true; the input reads as it did. -/
def fnExactRunSupplySpec : ChangeSpec := { name := "fnExactRunSupply", fn := fun _ => fun
  | [d1, d2, d3, d4] => { results := [.lit (.bool true)], args := [d1, d2, d3, d4] }
  | _ => none }
def fnExactRunSupplyRow : OpenClaim := { program := "ytkdfjomhichkoaa", sum := "f656a6250c9413b0b3f9365eac99bce872d6e6c5ee79ef93d7e86d236a70fc14", func := "loop.example/deadlinescheduler/laws.FnExactRunSupply", spec := "fnExactRunSupply", unfollowed := true, recurses := true, apart := false }
def FnExactRunSupplySaid : Prop := fnExactRunSupplyRow.holds Try.pinned (OpenSpec.ofChange fnExactRunSupplySpec)

/-- ITS FALSE NEIGHBOUR: 'it returns false'. Refute it at one input. -/
def fnExactRunSupplyWrong : ChangeSpec := { name := "fnExactRunSupply", fn := fun _ => fun
  | [d1, d2, d3, d4] => { results := [.lit (.bool false)], args := [d1, d2, d3, d4] }
  | _ => none }
def FnExactRunSupplyWrongFalsely : Prop := fnExactRunSupplyRow.holds Try.pinned (OpenSpec.ofChange fnExactRunSupplyWrong)

/-- 'laws.FnSupplySafe': WHATEVER THE INPUT: true; the input reads as it did. -/
def fnSupplySafeSpec : ChangeSpec := { name := "fnSupplySafe", fn := fun _ => fun
  | [d] => { results := [.lit (.bool true)], args := [d] }
  | _ => none }
def fnSupplySafeRow : OpenClaim := { program := "ytkdfjomhichkoaa", sum := "f656a6250c9413b0b3f9365eac99bce872d6e6c5ee79ef93d7e86d236a70fc14", func := "loop.example/deadlinescheduler/laws.FnSupplySafe", spec := "fnSupplySafe", unfollowed := true, recurses := true, apart := false }
def FnSupplySafeSaid : Prop := fnSupplySafeRow.holds Try.pinned (OpenSpec.ofChange fnSupplySafeSpec)

/-- ITS FALSE NEIGHBOUR: 'it returns false'. Refute it at one input. -/
def fnSupplySafeWrong : ChangeSpec := { name := "fnSupplySafe", fn := fun _ => fun
  | [d] => { results := [.lit (.bool false)], args := [d] }
  | _ => none }
def FnSupplySafeWrongFalsely : Prop := fnSupplySafeRow.holds Try.pinned (OpenSpec.ofChange fnSupplySafeWrong)

/-- 'laws.FnExactStealSlack': WHATEVER THE INPUT: true; the input reads as it did. -/
def fnExactStealSlackSpec : ChangeSpec := { name := "fnExactStealSlack", fn := fun _ => fun
  | [d1, d2, d3] => { results := [.lit (.bool true)], args := [d1, d2, d3] }
  | _ => none }
def fnExactStealSlackRow : OpenClaim := { program := "ytkdfjomhichkoaa", sum := "f656a6250c9413b0b3f9365eac99bce872d6e6c5ee79ef93d7e86d236a70fc14", func := "loop.example/deadlinescheduler/laws.FnExactStealSlack", spec := "fnExactStealSlack", unfollowed := true, recurses := true, apart := false }
def FnExactStealSlackSaid : Prop := fnExactStealSlackRow.holds Try.pinned (OpenSpec.ofChange fnExactStealSlackSpec)

/-- ITS FALSE NEIGHBOUR: 'it returns false'. Refute it at one input. -/
def fnExactStealSlackWrong : ChangeSpec := { name := "fnExactStealSlack", fn := fun _ => fun
  | [d1, d2, d3] => { results := [.lit (.bool false)], args := [d1, d2, d3] }
  | _ => none }
def FnExactStealSlackWrongFalsely : Prop := fnExactStealSlackRow.holds Try.pinned (OpenSpec.ofChange fnExactStealSlackWrong)

/- THE SECOND FORM. 'bulk': how many values and letters a reading holds, each counted each time it is reached (what is shared counts as often as it is met; a slice's spare places count too). A statement '..UptoSaid' is the law's where the arguments, and the package variables that the reading takes, are together of bulk at most 1048576: NARROWER than '..Said'. Prove '..Said' where nothing that the law and all that it calls make is longer than what came in: it says more and counts as full. Else prove '..UptoSaid'. A law counts once. -/
mutual
def uptoBulk {H : Type} : DataW H → Nat
  | .lit (.string bytes) => bytes.length + 1
  | .lit _ => 1
  | .nil => 1
  | .ptr d => uptoBulk d + 1
  | .slice elems spare => uptoBulkAll elems + uptoBulkAll spare + 1
  | .agg parts => uptoBulkAll parts + 1
  | .iface _ d => uptoBulk d + 1
  | .map entries => uptoBulkEntries entries + 1
  | .held _ => 1
def uptoBulkAll {H : Type} : List (DataW H) → Nat
  | [] => 0
  | d :: r => uptoBulk d + uptoBulkAll r
def uptoBulkEntries {H : Type} : List (Lit × DataW H) → Nat
  | [] => 0
  | x :: r => uptoBulkEntry x + uptoBulkEntries r
def uptoBulkEntry {H : Type} : Lit × DataW H → Nat
  | (.string bytes, d) => bytes.length + uptoBulk d + 1
  | (_, d) => uptoBulk d + 1
 end
def uptoSmall : (H : Type) → List (DataW H) → Bool := fun _ ds => decide (uptoBulkAll ds ≤ 1048576)
def OpenSpec.upto (s : _root_.Go.ChangeSpec) : _root_.Go.OpenSpec := { _root_.Go.OpenSpec.ofChange s with cond := some uptoSmall }

/-- 'laws.FnRunNonPreemptive', WHERE WHAT IT READS IS OF BULK AT MOST 1048576: true; the input reads as it did. -/
def fnRunNonPreemptiveUptoRow : OpenClaim := { program := "ytkdfjomhichkoaa", sum := "f656a6250c9413b0b3f9365eac99bce872d6e6c5ee79ef93d7e86d236a70fc14", func := "loop.example/deadlinescheduler/laws.FnRunNonPreemptive", spec := "fnRunNonPreemptive", unfollowed := true, recurses := true, apart := false, narrowed := true }
def FnRunNonPreemptiveUptoSaid : Prop := fnRunNonPreemptiveUptoRow.holds Try.pinned (OpenSpec.upto fnRunNonPreemptiveSpec)

/-- 'laws.FnUnitCosts', WHERE WHAT IT READS IS OF BULK AT MOST 1048576: true; the input reads as it did. -/
def fnUnitCostsUptoRow : OpenClaim := { program := "ytkdfjomhichkoaa", sum := "f656a6250c9413b0b3f9365eac99bce872d6e6c5ee79ef93d7e86d236a70fc14", func := "loop.example/deadlinescheduler/laws.FnUnitCosts", spec := "fnUnitCosts", unfollowed := true, recurses := true, apart := false, narrowed := true }
def FnUnitCostsUptoSaid : Prop := fnUnitCostsUptoRow.holds Try.pinned (OpenSpec.upto fnUnitCostsSpec)

/-- 'laws.FnExactRunNonPreemptive', WHERE WHAT IT READS IS OF BULK AT MOST 1048576: true; the input reads as it did. -/
def fnExactRunNonPreemptiveUptoRow : OpenClaim := { program := "ytkdfjomhichkoaa", sum := "f656a6250c9413b0b3f9365eac99bce872d6e6c5ee79ef93d7e86d236a70fc14", func := "loop.example/deadlinescheduler/laws.FnExactRunNonPreemptive", spec := "fnExactRunNonPreemptive", unfollowed := true, recurses := true, apart := false, narrowed := true }
def FnExactRunNonPreemptiveUptoSaid : Prop := fnExactRunNonPreemptiveUptoRow.holds Try.pinned (OpenSpec.upto fnExactRunNonPreemptiveSpec)

/-- 'laws.FnNonPreemptiveSafe', WHERE WHAT IT READS IS OF BULK AT MOST 1048576: true; the input reads as it did. -/
def fnNonPreemptiveSafeUptoRow : OpenClaim := { program := "ytkdfjomhichkoaa", sum := "f656a6250c9413b0b3f9365eac99bce872d6e6c5ee79ef93d7e86d236a70fc14", func := "loop.example/deadlinescheduler/laws.FnNonPreemptiveSafe", spec := "fnNonPreemptiveSafe", unfollowed := true, recurses := true, apart := false, narrowed := true }
def FnNonPreemptiveSafeUptoSaid : Prop := fnNonPreemptiveSafeUptoRow.holds Try.pinned (OpenSpec.upto fnNonPreemptiveSafeSpec)

/-- 'laws.FnRunSupply', WHERE WHAT IT READS IS OF BULK AT MOST 1048576: true; the input reads as it did. -/
def fnRunSupplyUptoRow : OpenClaim := { program := "ytkdfjomhichkoaa", sum := "f656a6250c9413b0b3f9365eac99bce872d6e6c5ee79ef93d7e86d236a70fc14", func := "loop.example/deadlinescheduler/laws.FnRunSupply", spec := "fnRunSupply", unfollowed := true, recurses := true, apart := false, narrowed := true }
def FnRunSupplyUptoSaid : Prop := fnRunSupplyUptoRow.holds Try.pinned (OpenSpec.upto fnRunSupplySpec)

/-- 'laws.FnExactRunSupply', WHERE WHAT IT READS IS OF BULK AT MOST 1048576: true; the input reads as it did. -/
def fnExactRunSupplyUptoRow : OpenClaim := { program := "ytkdfjomhichkoaa", sum := "f656a6250c9413b0b3f9365eac99bce872d6e6c5ee79ef93d7e86d236a70fc14", func := "loop.example/deadlinescheduler/laws.FnExactRunSupply", spec := "fnExactRunSupply", unfollowed := true, recurses := true, apart := false, narrowed := true }
def FnExactRunSupplyUptoSaid : Prop := fnExactRunSupplyUptoRow.holds Try.pinned (OpenSpec.upto fnExactRunSupplySpec)

/-- 'laws.FnSupplySafe', WHERE WHAT IT READS IS OF BULK AT MOST 1048576: true; the input reads as it did. -/
def fnSupplySafeUptoRow : OpenClaim := { program := "ytkdfjomhichkoaa", sum := "f656a6250c9413b0b3f9365eac99bce872d6e6c5ee79ef93d7e86d236a70fc14", func := "loop.example/deadlinescheduler/laws.FnSupplySafe", spec := "fnSupplySafe", unfollowed := true, recurses := true, apart := false, narrowed := true }
def FnSupplySafeUptoSaid : Prop := fnSupplySafeUptoRow.holds Try.pinned (OpenSpec.upto fnSupplySafeSpec)

/-- 'laws.FnExactStealSlack', WHERE WHAT IT READS IS OF BULK AT MOST 1048576: true; the input reads as it did. -/
def fnExactStealSlackUptoRow : OpenClaim := { program := "ytkdfjomhichkoaa", sum := "f656a6250c9413b0b3f9365eac99bce872d6e6c5ee79ef93d7e86d236a70fc14", func := "loop.example/deadlinescheduler/laws.FnExactStealSlack", spec := "fnExactStealSlack", unfollowed := true, recurses := true, apart := false, narrowed := true }
def FnExactStealSlackUptoSaid : Prop := fnExactStealSlackUptoRow.holds Try.pinned (OpenSpec.upto fnExactStealSlackSpec)

end Rows
end Go.Proofs.Ytkdfjomhichkoaa
