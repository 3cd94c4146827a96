/-
  No cell of these rows narrows 'for every input' (looked for: loops, veiled, ifaces, maps, wideKeys, modest, calm, conditions, laid).
  DERIVED. THE GIVEN ROWS OF THIS SEAT. 6 by the template 'for every input the law returns true; each argument reads behind the call as it read before'; 0 by the template 'total and deterministic' (their statements: YtnilnaabjpcfjaaTotals.lean).
  GIVEN WITH THE SEED: the statements are not yours to turn. If you find one false, say at which input.
  Laid BY PROGRAM, IN A SANDBOX (cutbox-rows.mjs): the forced cells as the released guide's own fill.sh prints them over the translation ebf1004d9d5e8637… (all of the seat's roots in one cut). By AI agents, Wed Nov 11 2026. No macro, syntax, notation, axiom, sorry.
-/
import Derived.Test.YtnilnaabjpcfjaaChecked
import GoSem.Claim
import GoSem.ClaimJoined
import GoSem.ClaimMapViews
import Derived.JoinedTies
import Derived.KernelRfl
namespace Go.Proofs.Ytnilnaabjpcfjaa
/- THE CELL 'sum', in the pinned program and in every row, IS THE sha256 OF THE DUMP (.gsa) THAT YtnilnaabjpcfjaaProg.lean LOADS. Nothing in Lean hashes anything: it is a label: what it is worth is what the hold of that sum in a sandbox is worth. -/
noncomputable def Try.pinned : Pinned := { name := "ytnilnaabjpcfjaa", sum := "ebf1004d9d5e86373628c6d2b349ca10d6bc090c351d62b966c923a18baddc5a", checked := Try.checked }
namespace Rows
def none {H : Type} : Left H := { results := [], args := [] }

/-- 'laws.FnFairLag': WHATEVER THE INPUT: true; the input reads as it did. -/
def fnFairLagSpec : ChangeSpec := { name := "fnFairLag", fn := fun _ => fun
  | [d] => { results := [.lit (.bool true)], args := [d] }
  | _ => none }
def fnFairLagRow : OpenClaim := { program := "ytnilnaabjpcfjaa", sum := "ebf1004d9d5e86373628c6d2b349ca10d6bc090c351d62b966c923a18baddc5a", func := "loop.example/deadlinescheduler/laws.FnFairLag", spec := "fnFairLag", unfollowed := true, recurses := true, apart := false }
def FnFairLagSaid : Prop := fnFairLagRow.holds Try.pinned (OpenSpec.ofChange fnFairLagSpec)

/-- ITS FALSE NEIGHBOUR: 'it returns false'. Refute it at one input. -/
def fnFairLagWrong : ChangeSpec := { name := "fnFairLag", fn := fun _ => fun
  | [d] => { results := [.lit (.bool false)], args := [d] }
  | _ => none }
def FnFairLagWrongFalsely : Prop := fnFairLagRow.holds Try.pinned (OpenSpec.ofChange fnFairLagWrong)

/-- 'laws.FnFairOne': WHATEVER THE INPUT: true; the input reads as it did. -/
def fnFairOneSpec : ChangeSpec := { name := "fnFairOne", fn := fun _ => fun
  | [d] => { results := [.lit (.bool true)], args := [d] }
  | _ => none }
def fnFairOneRow : OpenClaim := { program := "ytnilnaabjpcfjaa", sum := "ebf1004d9d5e86373628c6d2b349ca10d6bc090c351d62b966c923a18baddc5a", func := "loop.example/deadlinescheduler/laws.FnFairOne", spec := "fnFairOne", unfollowed := true, recurses := true, apart := false }
def FnFairOneSaid : Prop := fnFairOneRow.holds Try.pinned (OpenSpec.ofChange fnFairOneSpec)

/-- ITS FALSE NEIGHBOUR: 'it returns false'. Refute it at one input. -/
def fnFairOneWrong : ChangeSpec := { name := "fnFairOne", fn := fun _ => fun
  | [d] => { results := [.lit (.bool false)], args := [d] }
  | _ => none }
def FnFairOneWrongFalsely : Prop := fnFairOneRow.holds Try.pinned (OpenSpec.ofChange fnFairOneWrong)

/-- 'laws.FnFairWindows': WHATEVER THE INPUT: true; the input reads as it did. -/
def fnFairWindowsSpec : ChangeSpec := { name := "fnFairWindows", fn := fun _ => fun
  | [d] => { results := [.lit (.bool true)], args := [d] }
  | _ => none }
def fnFairWindowsRow : OpenClaim := { program := "ytnilnaabjpcfjaa", sum := "ebf1004d9d5e86373628c6d2b349ca10d6bc090c351d62b966c923a18baddc5a", func := "loop.example/deadlinescheduler/laws.FnFairWindows", spec := "fnFairWindows", unfollowed := true, recurses := true, apart := false }
def FnFairWindowsSaid : Prop := fnFairWindowsRow.holds Try.pinned (OpenSpec.ofChange fnFairWindowsSpec)

/-- ITS FALSE NEIGHBOUR: 'it returns false'. Refute it at one input. -/
def fnFairWindowsWrong : ChangeSpec := { name := "fnFairWindows", fn := fun _ => fun
  | [d] => { results := [.lit (.bool false)], args := [d] }
  | _ => none }
def FnFairWindowsWrongFalsely : Prop := fnFairWindowsRow.holds Try.pinned (OpenSpec.ofChange fnFairWindowsWrong)

/-- 'laws.FnFairRows': WHATEVER THE INPUT: true; the input reads as it did. -/
def fnFairRowsSpec : ChangeSpec := { name := "fnFairRows", fn := fun _ => fun
  | [d] => { results := [.lit (.bool true)], args := [d] }
  | _ => none }
def fnFairRowsRow : OpenClaim := { program := "ytnilnaabjpcfjaa", sum := "ebf1004d9d5e86373628c6d2b349ca10d6bc090c351d62b966c923a18baddc5a", func := "loop.example/deadlinescheduler/laws.FnFairRows", spec := "fnFairRows", unfollowed := true, recurses := true, apart := false }
def FnFairRowsSaid : Prop := fnFairRowsRow.holds Try.pinned (OpenSpec.ofChange fnFairRowsSpec)

/-- ITS FALSE NEIGHBOUR: 'it returns false'. Refute it at one input. -/
def fnFairRowsWrong : ChangeSpec := { name := "fnFairRows", fn := fun _ => fun
  | [d] => { results := [.lit (.bool false)], args := [d] }
  | _ => none }
def FnFairRowsWrongFalsely : Prop := fnFairRowsRow.holds Try.pinned (OpenSpec.ofChange fnFairRowsWrong)

/-- 'laws.FnExactRunFair': WHATEVER THE INPUT: true; the input reads as it did. -/
def fnExactRunFairSpec : ChangeSpec := { name := "fnExactRunFair", fn := fun _ => fun
  | [d1, d2] => { results := [.lit (.bool true)], args := [d1, d2] }
  | _ => none }
def fnExactRunFairRow : OpenClaim := { program := "ytnilnaabjpcfjaa", sum := "ebf1004d9d5e86373628c6d2b349ca10d6bc090c351d62b966c923a18baddc5a", func := "loop.example/deadlinescheduler/laws.FnExactRunFair", spec := "fnExactRunFair", unfollowed := true, recurses := true, apart := false }
def FnExactRunFairSaid : Prop := fnExactRunFairRow.holds Try.pinned (OpenSpec.ofChange fnExactRunFairSpec)

/-- ITS FALSE NEIGHBOUR: 'it returns false'. Refute it at one input. -/
def fnExactRunFairWrong : ChangeSpec := { name := "fnExactRunFair", fn := fun _ => fun
  | [d1, d2] => { results := [.lit (.bool false)], args := [d1, d2] }
  | _ => none }
def FnExactRunFairWrongFalsely : Prop := fnExactRunFairRow.holds Try.pinned (OpenSpec.ofChange fnExactRunFairWrong)

/-- 'laws.FnFairFull': WHATEVER THE INPUT: true; the input reads as it did. -/
def fnFairFullSpec : ChangeSpec := { name := "fnFairFull", fn := fun _ => fun
  | [d] => { results := [.lit (.bool true)], args := [d] }
  | _ => none }
def fnFairFullRow : OpenClaim := { program := "ytnilnaabjpcfjaa", sum := "ebf1004d9d5e86373628c6d2b349ca10d6bc090c351d62b966c923a18baddc5a", func := "loop.example/deadlinescheduler/laws.FnFairFull", spec := "fnFairFull", unfollowed := true, recurses := true, apart := false }
def FnFairFullSaid : Prop := fnFairFullRow.holds Try.pinned (OpenSpec.ofChange fnFairFullSpec)

/-- ITS FALSE NEIGHBOUR: 'it returns false'. Refute it at one input. -/
def fnFairFullWrong : ChangeSpec := { name := "fnFairFull", fn := fun _ => fun
  | [d] => { results := [.lit (.bool false)], args := [d] }
  | _ => none }
def FnFairFullWrongFalsely : Prop := fnFairFullRow.holds Try.pinned (OpenSpec.ofChange fnFairFullWrong)

/- THE SECOND FORM. 'bulk': how many values and letters a reading holds, each counted each time it is reached (what is shared counts as often as it is met; a slice's spare places count too). A statement '..UptoSaid' is the law's where the arguments, and the package variables that the reading takes, are together of bulk at most 1048576: NARROWER than '..Said'. Prove '..Said' where nothing that the law and all that it calls make is longer than what came in: it says more and counts as full. Else prove '..UptoSaid'. A law counts once. -/
mutual
def uptoBulk {H : Type} : DataW H → Nat
  | .lit (.string bytes) => bytes.length + 1
  | .lit _ => 1
  | .nil => 1
  | .ptr d => uptoBulk d + 1
  | .slice elems spare => uptoBulkAll elems + uptoBulkAll spare + 1
  | .agg parts => uptoBulkAll parts + 1
  | .iface _ d => uptoBulk d + 1
  | .map entries => uptoBulkEntries entries + 1
  | .held _ => 1
def uptoBulkAll {H : Type} : List (DataW H) → Nat
  | [] => 0
  | d :: r => uptoBulk d + uptoBulkAll r
def uptoBulkEntries {H : Type} : List (Lit × DataW H) → Nat
  | [] => 0
  | x :: r => uptoBulkEntry x + uptoBulkEntries r
def uptoBulkEntry {H : Type} : Lit × DataW H → Nat
  | (.string bytes, d) => bytes.length + uptoBulk d + 1
  | (_, d) => uptoBulk d + 1
 end
def uptoSmall : (H : Type) → List (DataW H) → Bool := fun _ ds => decide (uptoBulkAll ds ≤ 1048576)
def OpenSpec.upto (s : _root_.Go.ChangeSpec) : _root_.Go.OpenSpec := { _root_.Go.OpenSpec.ofChange s with cond := some uptoSmall }

/-- 'laws.FnFairLag', WHERE WHAT IT READS IS OF BULK AT MOST 1048576: true; the input reads as it did. -/
def fnFairLagUptoRow : OpenClaim := { program := "ytnilnaabjpcfjaa", sum := "ebf1004d9d5e86373628c6d2b349ca10d6bc090c351d62b966c923a18baddc5a", func := "loop.example/deadlinescheduler/laws.FnFairLag", spec := "fnFairLag", unfollowed := true, recurses := true, apart := false, narrowed := true }
def FnFairLagUptoSaid : Prop := fnFairLagUptoRow.holds Try.pinned (OpenSpec.upto fnFairLagSpec)

/-- 'laws.FnFairOne', WHERE WHAT IT READS IS OF BULK AT MOST 1048576: true; the input reads as it did. -/
def fnFairOneUptoRow : OpenClaim := { program := "ytnilnaabjpcfjaa", sum := "ebf1004d9d5e86373628c6d2b349ca10d6bc090c351d62b966c923a18baddc5a", func := "loop.example/deadlinescheduler/laws.FnFairOne", spec := "fnFairOne", unfollowed := true, recurses := true, apart := false, narrowed := true }
def FnFairOneUptoSaid : Prop := fnFairOneUptoRow.holds Try.pinned (OpenSpec.upto fnFairOneSpec)

/-- 'laws.FnFairWindows', WHERE WHAT IT READS IS OF BULK AT MOST 1048576: true; the input reads as it did. -/
def fnFairWindowsUptoRow : OpenClaim := { program := "ytnilnaabjpcfjaa", sum := "ebf1004d9d5e86373628c6d2b349ca10d6bc090c351d62b966c923a18baddc5a", func := "loop.example/deadlinescheduler/laws.FnFairWindows", spec := "fnFairWindows", unfollowed := true, recurses := true, apart := false, narrowed := true }
def FnFairWindowsUptoSaid : Prop := fnFairWindowsUptoRow.holds Try.pinned (OpenSpec.upto fnFairWindowsSpec)

/-- 'laws.FnFairRows', WHERE WHAT IT READS IS OF BULK AT MOST 1048576: true; the input reads as it did. -/
def fnFairRowsUptoRow : OpenClaim := { program := "ytnilnaabjpcfjaa", sum := "ebf1004d9d5e86373628c6d2b349ca10d6bc090c351d62b966c923a18baddc5a", func := "loop.example/deadlinescheduler/laws.FnFairRows", spec := "fnFairRows", unfollowed := true, recurses := true, apart := false, narrowed := true }
def FnFairRowsUptoSaid : Prop := fnFairRowsUptoRow.holds Try.pinned (OpenSpec.upto fnFairRowsSpec)

/-- 'laws.FnExactRunFair', WHERE WHAT IT READS IS OF BULK AT MOST 1048576: true; the input reads as it did. -/
def fnExactRunFairUptoRow : OpenClaim := { program := "ytnilnaabjpcfjaa", sum := "ebf1004d9d5e86373628c6d2b349ca10d6bc090c351d62b966c923a18baddc5a", func := "loop.example/deadlinescheduler/laws.FnExactRunFair", spec := "fnExactRunFair", unfollowed := true, recurses := true, apart := false, narrowed := true }
def FnExactRunFairUptoSaid : Prop := fnExactRunFairUptoRow.holds Try.pinned (OpenSpec.upto fnExactRunFairSpec)

/-- 'laws.FnFairFull', WHERE WHAT IT READS IS OF BULK AT MOST 1048576: true; the input reads as it did. -/
def fnFairFullUptoRow : OpenClaim := { program := "ytnilnaabjpcfjaa", sum := "ebf1004d9d5e86373628c6d2b349ca10d6bc090c351d62b966c923a18baddc5a", func := "loop.example/deadlinescheduler/laws.FnFairFull", spec := "fnFairFull", unfollowed := true, recurses := true, apart := false, narrowed := true }
def FnFairFullUptoSaid : Prop := fnFairFullUptoRow.holds Try.pinned (OpenSpec.upto fnFairFullSpec)

end Rows
end Go.Proofs.Ytnilnaabjpcfjaa
