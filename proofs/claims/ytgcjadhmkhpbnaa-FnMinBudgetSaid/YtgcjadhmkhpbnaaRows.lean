/-
  No cell of these rows narrows 'for every input' (looked for: loops, veiled, ifaces, maps, wideKeys, modest, calm, conditions, laid).
  DERIVED. THE GIVEN ROWS OF THIS SEAT. 12 by the template 'for every input the law returns true; each argument reads behind the call as it read before'; 0 by the template 'total and deterministic' (their statements: YtgcjadhmkhpbnaaTotals.lean).
  GIVEN WITH THE SEED: the statements are not yours to turn. If you find one false, say at which input.
  Laid BY PROGRAM, IN A SANDBOX (cutbox-rows.mjs): the forced cells as the released guide's own fill.sh prints them over the translation a05a3c4412d08354… (all of the seat's roots in one cut). By AI agents, Wed Nov 11 2026. No macro, syntax, notation, axiom, sorry.
-/
import Derived.Test.YtgcjadhmkhpbnaaChecked
import GoSem.Claim
import GoSem.ClaimJoined
import GoSem.ClaimMapViews
import Derived.JoinedTies
import Derived.KernelRfl
namespace Go.Proofs.Ytgcjadhmkhpbnaa
/- THE CELL 'sum', in the pinned program and in every row, IS THE sha256 OF THE DUMP (.gsa) THAT YtgcjadhmkhpbnaaProg.lean LOADS. Nothing in Lean hashes anything: it is a label: what it is worth is what the hold of that sum in a sandbox is worth. -/
noncomputable def Try.pinned : Pinned := { name := "ytgcjadhmkhpbnaa", sum := "a05a3c4412d08354c33b233e176d3a1d29b849e03f5bddd880c2575bb0c52280", checked := Try.checked }
namespace Rows
def none {H : Type} : Left H := { results := [], args := [] }

/-- 'laws.FnExactHarmonic': WHATEVER THE INPUT: true; the input reads as it did. -/
def fnExactHarmonicSpec : ChangeSpec := { name := "fnExactHarmonic", fn := fun _ => fun
  | [d] => { results := [.lit (.bool true)], args := [d] }
  | _ => none }
def fnExactHarmonicRow : OpenClaim := { program := "ytgcjadhmkhpbnaa", sum := "a05a3c4412d08354c33b233e176d3a1d29b849e03f5bddd880c2575bb0c52280", func := "loop.example/deadlinescheduler/laws.FnExactHarmonic", spec := "fnExactHarmonic", unfollowed := true, recurses := true, apart := false }
def FnExactHarmonicSaid : Prop := fnExactHarmonicRow.holds Try.pinned (OpenSpec.ofChange fnExactHarmonicSpec)

/-- ITS FALSE NEIGHBOUR: 'it returns false'. Refute it at one input. -/
def fnExactHarmonicWrong : ChangeSpec := { name := "fnExactHarmonic", fn := fun _ => fun
  | [d] => { results := [.lit (.bool false)], args := [d] }
  | _ => none }
def FnExactHarmonicWrongFalsely : Prop := fnExactHarmonicRow.holds Try.pinned (OpenSpec.ofChange fnExactHarmonicWrong)

/-- 'laws.FnExactHyperbolicBound': WHATEVER THE INPUT: true; the input reads as it did. -/
def fnExactHyperbolicBoundSpec : ChangeSpec := { name := "fnExactHyperbolicBound", fn := fun _ => fun
  | [d] => { results := [.lit (.bool true)], args := [d] }
  | _ => none }
def fnExactHyperbolicBoundRow : OpenClaim := { program := "ytgcjadhmkhpbnaa", sum := "a05a3c4412d08354c33b233e176d3a1d29b849e03f5bddd880c2575bb0c52280", func := "loop.example/deadlinescheduler/laws.FnExactHyperbolicBound", spec := "fnExactHyperbolicBound", unfollowed := true, recurses := true, apart := false }
def FnExactHyperbolicBoundSaid : Prop := fnExactHyperbolicBoundRow.holds Try.pinned (OpenSpec.ofChange fnExactHyperbolicBoundSpec)

/-- ITS FALSE NEIGHBOUR: 'it returns false'. Refute it at one input. -/
def fnExactHyperbolicBoundWrong : ChangeSpec := { name := "fnExactHyperbolicBound", fn := fun _ => fun
  | [d] => { results := [.lit (.bool false)], args := [d] }
  | _ => none }
def FnExactHyperbolicBoundWrongFalsely : Prop := fnExactHyperbolicBoundRow.holds Try.pinned (OpenSpec.ofChange fnExactHyperbolicBoundWrong)

/-- 'laws.FnExactBlockingTime': WHATEVER THE INPUT: true; the input reads as it did. -/
def fnExactBlockingTimeSpec : ChangeSpec := { name := "fnExactBlockingTime", fn := fun _ => fun
  | [d1, d2, d3] => { results := [.lit (.bool true)], args := [d1, d2, d3] }
  | _ => none }
def fnExactBlockingTimeRow : OpenClaim := { program := "ytgcjadhmkhpbnaa", sum := "a05a3c4412d08354c33b233e176d3a1d29b849e03f5bddd880c2575bb0c52280", func := "loop.example/deadlinescheduler/laws.FnExactBlockingTime", spec := "fnExactBlockingTime", unfollowed := true, recurses := true, apart := false }
def FnExactBlockingTimeSaid : Prop := fnExactBlockingTimeRow.holds Try.pinned (OpenSpec.ofChange fnExactBlockingTimeSpec)

/-- ITS FALSE NEIGHBOUR: 'it returns false'. Refute it at one input. -/
def fnExactBlockingTimeWrong : ChangeSpec := { name := "fnExactBlockingTime", fn := fun _ => fun
  | [d1, d2, d3] => { results := [.lit (.bool false)], args := [d1, d2, d3] }
  | _ => none }
def FnExactBlockingTimeWrongFalsely : Prop := fnExactBlockingTimeRow.holds Try.pinned (OpenSpec.ofChange fnExactBlockingTimeWrong)

/-- 'laws.FnBlockingTime': WHATEVER THE INPUT: true; the input reads as it did. -/
def fnBlockingTimeSpec : ChangeSpec := { name := "fnBlockingTime", fn := fun _ => fun
  | [d] => { results := [.lit (.bool true)], args := [d] }
  | _ => none }
def fnBlockingTimeRow : OpenClaim := { program := "ytgcjadhmkhpbnaa", sum := "a05a3c4412d08354c33b233e176d3a1d29b849e03f5bddd880c2575bb0c52280", func := "loop.example/deadlinescheduler/laws.FnBlockingTime", spec := "fnBlockingTime", unfollowed := true, recurses := true, apart := false }
def FnBlockingTimeSaid : Prop := fnBlockingTimeRow.holds Try.pinned (OpenSpec.ofChange fnBlockingTimeSpec)

/-- ITS FALSE NEIGHBOUR: 'it returns false'. Refute it at one input. -/
def fnBlockingTimeWrong : ChangeSpec := { name := "fnBlockingTime", fn := fun _ => fun
  | [d] => { results := [.lit (.bool false)], args := [d] }
  | _ => none }
def FnBlockingTimeWrongFalsely : Prop := fnBlockingTimeRow.holds Try.pinned (OpenSpec.ofChange fnBlockingTimeWrong)

/-- 'laws.FnExactNonPreemptiveFeasible': WHATEVER THE INPUT: true; the input reads as it did. -/
def fnExactNonPreemptiveFeasibleSpec : ChangeSpec := { name := "fnExactNonPreemptiveFeasible", fn := fun _ => fun
  | [d] => { results := [.lit (.bool true)], args := [d] }
  | _ => none }
def fnExactNonPreemptiveFeasibleRow : OpenClaim := { program := "ytgcjadhmkhpbnaa", sum := "a05a3c4412d08354c33b233e176d3a1d29b849e03f5bddd880c2575bb0c52280", func := "loop.example/deadlinescheduler/laws.FnExactNonPreemptiveFeasible", spec := "fnExactNonPreemptiveFeasible", unfollowed := true, recurses := true, apart := false }
def FnExactNonPreemptiveFeasibleSaid : Prop := fnExactNonPreemptiveFeasibleRow.holds Try.pinned (OpenSpec.ofChange fnExactNonPreemptiveFeasibleSpec)

/-- ITS FALSE NEIGHBOUR: 'it returns false'. Refute it at one input. -/
def fnExactNonPreemptiveFeasibleWrong : ChangeSpec := { name := "fnExactNonPreemptiveFeasible", fn := fun _ => fun
  | [d] => { results := [.lit (.bool false)], args := [d] }
  | _ => none }
def FnExactNonPreemptiveFeasibleWrongFalsely : Prop := fnExactNonPreemptiveFeasibleRow.holds Try.pinned (OpenSpec.ofChange fnExactNonPreemptiveFeasibleWrong)

/-- 'laws.FnExactSupplyFeasible': WHATEVER THE INPUT: true; the input reads as it did. -/
def fnExactSupplyFeasibleSpec : ChangeSpec := { name := "fnExactSupplyFeasible", fn := fun _ => fun
  | [d1, d2] => { results := [.lit (.bool true)], args := [d1, d2] }
  | _ => none }
def fnExactSupplyFeasibleRow : OpenClaim := { program := "ytgcjadhmkhpbnaa", sum := "a05a3c4412d08354c33b233e176d3a1d29b849e03f5bddd880c2575bb0c52280", func := "loop.example/deadlinescheduler/laws.FnExactSupplyFeasible", spec := "fnExactSupplyFeasible", unfollowed := true, recurses := true, apart := false }
def FnExactSupplyFeasibleSaid : Prop := fnExactSupplyFeasibleRow.holds Try.pinned (OpenSpec.ofChange fnExactSupplyFeasibleSpec)

/-- ITS FALSE NEIGHBOUR: 'it returns false'. Refute it at one input. -/
def fnExactSupplyFeasibleWrong : ChangeSpec := { name := "fnExactSupplyFeasible", fn := fun _ => fun
  | [d1, d2] => { results := [.lit (.bool false)], args := [d1, d2] }
  | _ => none }
def FnExactSupplyFeasibleWrongFalsely : Prop := fnExactSupplyFeasibleRow.holds Try.pinned (OpenSpec.ofChange fnExactSupplyFeasibleWrong)

/-- 'laws.FnExactMinBudget': WHATEVER THE INPUT: true; the input reads as it did. -/
def fnExactMinBudgetSpec : ChangeSpec := { name := "fnExactMinBudget", fn := fun _ => fun
  | [d1, d2] => { results := [.lit (.bool true)], args := [d1, d2] }
  | _ => none }
def fnExactMinBudgetRow : OpenClaim := { program := "ytgcjadhmkhpbnaa", sum := "a05a3c4412d08354c33b233e176d3a1d29b849e03f5bddd880c2575bb0c52280", func := "loop.example/deadlinescheduler/laws.FnExactMinBudget", spec := "fnExactMinBudget", unfollowed := true, recurses := true, apart := false }
def FnExactMinBudgetSaid : Prop := fnExactMinBudgetRow.holds Try.pinned (OpenSpec.ofChange fnExactMinBudgetSpec)

/-- ITS FALSE NEIGHBOUR: 'it returns false'. Refute it at one input. -/
def fnExactMinBudgetWrong : ChangeSpec := { name := "fnExactMinBudget", fn := fun _ => fun
  | [d1, d2] => { results := [.lit (.bool false)], args := [d1, d2] }
  | _ => none }
def FnExactMinBudgetWrongFalsely : Prop := fnExactMinBudgetRow.holds Try.pinned (OpenSpec.ofChange fnExactMinBudgetWrong)

/-- 'laws.FnSupplyFeasible': WHATEVER THE INPUT: true; the input reads as it did. -/
def fnSupplyFeasibleSpec : ChangeSpec := { name := "fnSupplyFeasible", fn := fun _ => fun
  | [d] => { results := [.lit (.bool true)], args := [d] }
  | _ => none }
def fnSupplyFeasibleRow : OpenClaim := { program := "ytgcjadhmkhpbnaa", sum := "a05a3c4412d08354c33b233e176d3a1d29b849e03f5bddd880c2575bb0c52280", func := "loop.example/deadlinescheduler/laws.FnSupplyFeasible", spec := "fnSupplyFeasible", unfollowed := true, recurses := true, apart := false }
def FnSupplyFeasibleSaid : Prop := fnSupplyFeasibleRow.holds Try.pinned (OpenSpec.ofChange fnSupplyFeasibleSpec)

/-- ITS FALSE NEIGHBOUR: 'it returns false'. Refute it at one input. -/
def fnSupplyFeasibleWrong : ChangeSpec := { name := "fnSupplyFeasible", fn := fun _ => fun
  | [d] => { results := [.lit (.bool false)], args := [d] }
  | _ => none }
def FnSupplyFeasibleWrongFalsely : Prop := fnSupplyFeasibleRow.holds Try.pinned (OpenSpec.ofChange fnSupplyFeasibleWrong)

/-- 'laws.FnMinBudget': WHATEVER THE INPUT: true; the input reads as it did. -/
def fnMinBudgetSpec : ChangeSpec := { name := "fnMinBudget", fn := fun _ => fun
  | [d] => { results := [.lit (.bool true)], args := [d] }
  | _ => none }
def fnMinBudgetRow : OpenClaim := { program := "ytgcjadhmkhpbnaa", sum := "a05a3c4412d08354c33b233e176d3a1d29b849e03f5bddd880c2575bb0c52280", func := "loop.example/deadlinescheduler/laws.FnMinBudget", spec := "fnMinBudget", unfollowed := true, recurses := true, apart := false }
def FnMinBudgetSaid : Prop := fnMinBudgetRow.holds Try.pinned (OpenSpec.ofChange fnMinBudgetSpec)

/-- ITS FALSE NEIGHBOUR: 'it returns false'. Refute it at one input. -/
def fnMinBudgetWrong : ChangeSpec := { name := "fnMinBudget", fn := fun _ => fun
  | [d] => { results := [.lit (.bool false)], args := [d] }
  | _ => none }
def FnMinBudgetWrongFalsely : Prop := fnMinBudgetRow.holds Try.pinned (OpenSpec.ofChange fnMinBudgetWrong)

/-- 'laws.FnHyperbolic': WHATEVER THE INPUT: true; the input reads as it did. -/
def fnHyperbolicSpec : ChangeSpec := { name := "fnHyperbolic", fn := fun _ => fun
  | [d] => { results := [.lit (.bool true)], args := [d] }
  | _ => none }
def fnHyperbolicRow : OpenClaim := { program := "ytgcjadhmkhpbnaa", sum := "a05a3c4412d08354c33b233e176d3a1d29b849e03f5bddd880c2575bb0c52280", func := "loop.example/deadlinescheduler/laws.FnHyperbolic", spec := "fnHyperbolic", unfollowed := true, recurses := true, apart := false }
def FnHyperbolicSaid : Prop := fnHyperbolicRow.holds Try.pinned (OpenSpec.ofChange fnHyperbolicSpec)

/-- ITS FALSE NEIGHBOUR: 'it returns false'. Refute it at one input. -/
def fnHyperbolicWrong : ChangeSpec := { name := "fnHyperbolic", fn := fun _ => fun
  | [d] => { results := [.lit (.bool false)], args := [d] }
  | _ => none }
def FnHyperbolicWrongFalsely : Prop := fnHyperbolicRow.holds Try.pinned (OpenSpec.ofChange fnHyperbolicWrong)

/-- 'laws.FnHarmonic': WHATEVER THE INPUT: true; the input reads as it did. -/
def fnHarmonicSpec : ChangeSpec := { name := "fnHarmonic", fn := fun _ => fun
  | [d] => { results := [.lit (.bool true)], args := [d] }
  | _ => none }
def fnHarmonicRow : OpenClaim := { program := "ytgcjadhmkhpbnaa", sum := "a05a3c4412d08354c33b233e176d3a1d29b849e03f5bddd880c2575bb0c52280", func := "loop.example/deadlinescheduler/laws.FnHarmonic", spec := "fnHarmonic", unfollowed := true, recurses := true, apart := false }
def FnHarmonicSaid : Prop := fnHarmonicRow.holds Try.pinned (OpenSpec.ofChange fnHarmonicSpec)

/-- ITS FALSE NEIGHBOUR: 'it returns false'. Refute it at one input. -/
def fnHarmonicWrong : ChangeSpec := { name := "fnHarmonic", fn := fun _ => fun
  | [d] => { results := [.lit (.bool false)], args := [d] }
  | _ => none }
def FnHarmonicWrongFalsely : Prop := fnHarmonicRow.holds Try.pinned (OpenSpec.ofChange fnHarmonicWrong)

/-- 'laws.FnRateLoses': WHATEVER THE INPUT: true; the input reads as it did. -/
def fnRateLosesSpec : ChangeSpec := { name := "fnRateLoses", fn := fun _ => fun
  | [d] => { results := [.lit (.bool true)], args := [d] }
  | _ => none }
def fnRateLosesRow : OpenClaim := { program := "ytgcjadhmkhpbnaa", sum := "a05a3c4412d08354c33b233e176d3a1d29b849e03f5bddd880c2575bb0c52280", func := "loop.example/deadlinescheduler/laws.FnRateLoses", spec := "fnRateLoses", unfollowed := true, recurses := true, apart := false }
def FnRateLosesSaid : Prop := fnRateLosesRow.holds Try.pinned (OpenSpec.ofChange fnRateLosesSpec)

/-- ITS FALSE NEIGHBOUR: 'it returns false'. Refute it at one input. -/
def fnRateLosesWrong : ChangeSpec := { name := "fnRateLoses", fn := fun _ => fun
  | [d] => { results := [.lit (.bool false)], args := [d] }
  | _ => none }
def FnRateLosesWrongFalsely : Prop := fnRateLosesRow.holds Try.pinned (OpenSpec.ofChange fnRateLosesWrong)

/- THE SECOND FORM. 'bulk': how many values and letters a reading holds, each counted each time it is reached (what is shared counts as often as it is met; a slice's spare places count too). A statement '..UptoSaid' is the law's where the arguments, and the package variables that the reading takes, are together of bulk at most 1048576: NARROWER than '..Said'. Prove '..Said' where nothing that the law and all that it calls make is longer than what came in: it says more and counts as full. Else prove '..UptoSaid'. A law counts once. -/
mutual
def uptoBulk {H : Type} : DataW H → Nat
  | .lit (.string bytes) => bytes.length + 1
  | .lit _ => 1
  | .nil => 1
  | .ptr d => uptoBulk d + 1
  | .slice elems spare => uptoBulkAll elems + uptoBulkAll spare + 1
  | .agg parts => uptoBulkAll parts + 1
  | .iface _ d => uptoBulk d + 1
  | .map entries => uptoBulkEntries entries + 1
  | .held _ => 1
def uptoBulkAll {H : Type} : List (DataW H) → Nat
  | [] => 0
  | d :: r => uptoBulk d + uptoBulkAll r
def uptoBulkEntries {H : Type} : List (Lit × DataW H) → Nat
  | [] => 0
  | x :: r => uptoBulkEntry x + uptoBulkEntries r
def uptoBulkEntry {H : Type} : Lit × DataW H → Nat
  | (.string bytes, d) => bytes.length + uptoBulk d + 1
  | (_, d) => uptoBulk d + 1
 end
def uptoSmall : (H : Type) → List (DataW H) → Bool := fun _ ds => decide (uptoBulkAll ds ≤ 1048576)
def OpenSpec.upto (s : _root_.Go.ChangeSpec) : _root_.Go.OpenSpec := { _root_.Go.OpenSpec.ofChange s with cond := some uptoSmall }

/-- 'laws.FnExactHarmonic', WHERE WHAT IT READS IS OF BULK AT MOST 1048576: true; the input reads as it did. -/
def fnExactHarmonicUptoRow : OpenClaim := { program := "ytgcjadhmkhpbnaa", sum := "a05a3c4412d08354c33b233e176d3a1d29b849e03f5bddd880c2575bb0c52280", func := "loop.example/deadlinescheduler/laws.FnExactHarmonic", spec := "fnExactHarmonic", unfollowed := true, recurses := true, apart := false, narrowed := true }
def FnExactHarmonicUptoSaid : Prop := fnExactHarmonicUptoRow.holds Try.pinned (OpenSpec.upto fnExactHarmonicSpec)

/-- 'laws.FnExactHyperbolicBound', WHERE WHAT IT READS IS OF BULK AT MOST 1048576: true; the input reads as it did. -/
def fnExactHyperbolicBoundUptoRow : OpenClaim := { program := "ytgcjadhmkhpbnaa", sum := "a05a3c4412d08354c33b233e176d3a1d29b849e03f5bddd880c2575bb0c52280", func := "loop.example/deadlinescheduler/laws.FnExactHyperbolicBound", spec := "fnExactHyperbolicBound", unfollowed := true, recurses := true, apart := false, narrowed := true }
def FnExactHyperbolicBoundUptoSaid : Prop := fnExactHyperbolicBoundUptoRow.holds Try.pinned (OpenSpec.upto fnExactHyperbolicBoundSpec)

/-- 'laws.FnExactBlockingTime', WHERE WHAT IT READS IS OF BULK AT MOST 1048576: true; the input reads as it did. -/
def fnExactBlockingTimeUptoRow : OpenClaim := { program := "ytgcjadhmkhpbnaa", sum := "a05a3c4412d08354c33b233e176d3a1d29b849e03f5bddd880c2575bb0c52280", func := "loop.example/deadlinescheduler/laws.FnExactBlockingTime", spec := "fnExactBlockingTime", unfollowed := true, recurses := true, apart := false, narrowed := true }
def FnExactBlockingTimeUptoSaid : Prop := fnExactBlockingTimeUptoRow.holds Try.pinned (OpenSpec.upto fnExactBlockingTimeSpec)

/-- 'laws.FnBlockingTime', WHERE WHAT IT READS IS OF BULK AT MOST 1048576: true; the input reads as it did. -/
def fnBlockingTimeUptoRow : OpenClaim := { program := "ytgcjadhmkhpbnaa", sum := "a05a3c4412d08354c33b233e176d3a1d29b849e03f5bddd880c2575bb0c52280", func := "loop.example/deadlinescheduler/laws.FnBlockingTime", spec := "fnBlockingTime", unfollowed := true, recurses := true, apart := false, narrowed := true }
def FnBlockingTimeUptoSaid : Prop := fnBlockingTimeUptoRow.holds Try.pinned (OpenSpec.upto fnBlockingTimeSpec)

/-- 'laws.FnExactNonPreemptiveFeasible', WHERE WHAT IT READS IS OF BULK AT MOST 1048576: true; the input reads as it did. -/
def fnExactNonPreemptiveFeasibleUptoRow : OpenClaim := { program := "ytgcjadhmkhpbnaa", sum := "a05a3c4412d08354c33b233e176d3a1d29b849e03f5bddd880c2575bb0c52280", func := "loop.example/deadlinescheduler/laws.FnExactNonPreemptiveFeasible", spec := "fnExactNonPreemptiveFeasible", unfollowed := true, recurses := true, apart := false, narrowed := true }
def FnExactNonPreemptiveFeasibleUptoSaid : Prop := fnExactNonPreemptiveFeasibleUptoRow.holds Try.pinned (OpenSpec.upto fnExactNonPreemptiveFeasibleSpec)

/-- 'laws.FnExactSupplyFeasible', WHERE WHAT IT READS IS OF BULK AT MOST 1048576: true; the input reads as it did. -/
def fnExactSupplyFeasibleUptoRow : OpenClaim := { program := "ytgcjadhmkhpbnaa", sum := "a05a3c4412d08354c33b233e176d3a1d29b849e03f5bddd880c2575bb0c52280", func := "loop.example/deadlinescheduler/laws.FnExactSupplyFeasible", spec := "fnExactSupplyFeasible", unfollowed := true, recurses := true, apart := false, narrowed := true }
def FnExactSupplyFeasibleUptoSaid : Prop := fnExactSupplyFeasibleUptoRow.holds Try.pinned (OpenSpec.upto fnExactSupplyFeasibleSpec)

/-- 'laws.FnExactMinBudget', WHERE WHAT IT READS IS OF BULK AT MOST 1048576: true; the input reads as it did. -/
def fnExactMinBudgetUptoRow : OpenClaim := { program := "ytgcjadhmkhpbnaa", sum := "a05a3c4412d08354c33b233e176d3a1d29b849e03f5bddd880c2575bb0c52280", func := "loop.example/deadlinescheduler/laws.FnExactMinBudget", spec := "fnExactMinBudget", unfollowed := true, recurses := true, apart := false, narrowed := true }
def FnExactMinBudgetUptoSaid : Prop := fnExactMinBudgetUptoRow.holds Try.pinned (OpenSpec.upto fnExactMinBudgetSpec)

/-- 'laws.FnSupplyFeasible', WHERE WHAT IT READS IS OF BULK AT MOST 1048576: true; the input reads as it did. -/
def fnSupplyFeasibleUptoRow : OpenClaim := { program := "ytgcjadhmkhpbnaa", sum := "a05a3c4412d08354c33b233e176d3a1d29b849e03f5bddd880c2575bb0c52280", func := "loop.example/deadlinescheduler/laws.FnSupplyFeasible", spec := "fnSupplyFeasible", unfollowed := true, recurses := true, apart := false, narrowed := true }
def FnSupplyFeasibleUptoSaid : Prop := fnSupplyFeasibleUptoRow.holds Try.pinned (OpenSpec.upto fnSupplyFeasibleSpec)

/-- 'laws.FnMinBudget', WHERE WHAT IT READS IS OF BULK AT MOST 1048576: true; the input reads as it did. -/
def fnMinBudgetUptoRow : OpenClaim := { program := "ytgcjadhmkhpbnaa", sum := "a05a3c4412d08354c33b233e176d3a1d29b849e03f5bddd880c2575bb0c52280", func := "loop.example/deadlinescheduler/laws.FnMinBudget", spec := "fnMinBudget", unfollowed := true, recurses := true, apart := false, narrowed := true }
def FnMinBudgetUptoSaid : Prop := fnMinBudgetUptoRow.holds Try.pinned (OpenSpec.upto fnMinBudgetSpec)

/-- 'laws.FnHyperbolic', WHERE WHAT IT READS IS OF BULK AT MOST 1048576: true; the input reads as it did. -/
def fnHyperbolicUptoRow : OpenClaim := { program := "ytgcjadhmkhpbnaa", sum := "a05a3c4412d08354c33b233e176d3a1d29b849e03f5bddd880c2575bb0c52280", func := "loop.example/deadlinescheduler/laws.FnHyperbolic", spec := "fnHyperbolic", unfollowed := true, recurses := true, apart := false, narrowed := true }
def FnHyperbolicUptoSaid : Prop := fnHyperbolicUptoRow.holds Try.pinned (OpenSpec.upto fnHyperbolicSpec)

/-- 'laws.FnHarmonic', WHERE WHAT IT READS IS OF BULK AT MOST 1048576: true; the input reads as it did. -/
def fnHarmonicUptoRow : OpenClaim := { program := "ytgcjadhmkhpbnaa", sum := "a05a3c4412d08354c33b233e176d3a1d29b849e03f5bddd880c2575bb0c52280", func := "loop.example/deadlinescheduler/laws.FnHarmonic", spec := "fnHarmonic", unfollowed := true, recurses := true, apart := false, narrowed := true }
def FnHarmonicUptoSaid : Prop := fnHarmonicUptoRow.holds Try.pinned (OpenSpec.upto fnHarmonicSpec)

/-- 'laws.FnRateLoses', WHERE WHAT IT READS IS OF BULK AT MOST 1048576: true; the input reads as it did. -/
def fnRateLosesUptoRow : OpenClaim := { program := "ytgcjadhmkhpbnaa", sum := "a05a3c4412d08354c33b233e176d3a1d29b849e03f5bddd880c2575bb0c52280", func := "loop.example/deadlinescheduler/laws.FnRateLoses", spec := "fnRateLoses", unfollowed := true, recurses := true, apart := false, narrowed := true }
def FnRateLosesUptoSaid : Prop := fnRateLosesUptoRow.holds Try.pinned (OpenSpec.upto fnRateLosesSpec)

end Rows
end Go.Proofs.Ytgcjadhmkhpbnaa
