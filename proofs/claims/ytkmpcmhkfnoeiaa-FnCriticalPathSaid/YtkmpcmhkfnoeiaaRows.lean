/-
  No cell of these rows narrows 'for every input' (looked for: loops, veiled, ifaces, maps, wideKeys, modest, calm, conditions, laid).
  DERIVED. THE GIVEN ROWS OF THIS SEAT. 14 by the template 'for every input the law returns true; each argument reads behind the call as it read before'; 0 by the template 'total and deterministic' (their statements: YtkmpcmhkfnoeiaaTotals.lean).
  GIVEN WITH THE SEED: the statements are not yours to turn. If you find one false, say at which input.
  Laid BY PROGRAM, IN A SANDBOX (cutbox-rows.mjs): the forced cells as the released guide's own fill.sh prints them over the translation 7e35385e77b4904c… (all of the seat's roots in one cut). By AI agents, Wed Nov 11 2026. No macro, syntax, notation, axiom, sorry.
-/
import Derived.Test.YtkmpcmhkfnoeiaaChecked
import GoSem.Claim
import GoSem.ClaimJoined
import GoSem.ClaimMapViews
import Derived.JoinedTies
import Derived.KernelRfl
namespace Go.Proofs.Ytkmpcmhkfnoeiaa
/- THE CELL 'sum', in the pinned program and in every row, IS THE sha256 OF THE DUMP (.gsa) THAT YtkmpcmhkfnoeiaaProg.lean LOADS. Nothing in Lean hashes anything: it is a label: what it is worth is what the hold of that sum in a sandbox is worth. -/
noncomputable def Try.pinned : Pinned := { name := "ytkmpcmhkfnoeiaa", sum := "7e35385e77b4904c560916926b89d1c9e64f32c376901db4337d54c8edcec966", checked := Try.checked }
namespace Rows
def none {H : Type} : Left H := { results := [], args := [] }

/-- 'laws.FnExactSubtaskWindow': WHATEVER THE INPUT: true; the input reads as it did. -/
def fnExactSubtaskWindowSpec : ChangeSpec := { name := "fnExactSubtaskWindow", fn := fun _ => fun
  | [d1, d2] => { results := [.lit (.bool true)], args := [d1, d2] }
  | _ => none }
def fnExactSubtaskWindowRow : OpenClaim := { program := "ytkmpcmhkfnoeiaa", sum := "7e35385e77b4904c560916926b89d1c9e64f32c376901db4337d54c8edcec966", func := "loop.example/deadlinescheduler/laws.FnExactSubtaskWindow", spec := "fnExactSubtaskWindow", unfollowed := true, recurses := true, apart := false }
def FnExactSubtaskWindowSaid : Prop := fnExactSubtaskWindowRow.holds Try.pinned (OpenSpec.ofChange fnExactSubtaskWindowSpec)

/-- ITS FALSE NEIGHBOUR: 'it returns false'. Refute it at one input. -/
def fnExactSubtaskWindowWrong : ChangeSpec := { name := "fnExactSubtaskWindow", fn := fun _ => fun
  | [d1, d2] => { results := [.lit (.bool false)], args := [d1, d2] }
  | _ => none }
def FnExactSubtaskWindowWrongFalsely : Prop := fnExactSubtaskWindowRow.holds Try.pinned (OpenSpec.ofChange fnExactSubtaskWindowWrong)

/-- 'laws.FnSubtaskWindow': WHATEVER THE INPUT: true; the input reads as it did. -/
def fnSubtaskWindowSpec : ChangeSpec := { name := "fnSubtaskWindow", fn := fun _ => fun
  | [d] => { results := [.lit (.bool true)], args := [d] }
  | _ => none }
def fnSubtaskWindowRow : OpenClaim := { program := "ytkmpcmhkfnoeiaa", sum := "7e35385e77b4904c560916926b89d1c9e64f32c376901db4337d54c8edcec966", func := "loop.example/deadlinescheduler/laws.FnSubtaskWindow", spec := "fnSubtaskWindow", unfollowed := true, recurses := true, apart := false }
def FnSubtaskWindowSaid : Prop := fnSubtaskWindowRow.holds Try.pinned (OpenSpec.ofChange fnSubtaskWindowSpec)

/-- ITS FALSE NEIGHBOUR: 'it returns false'. Refute it at one input. -/
def fnSubtaskWindowWrong : ChangeSpec := { name := "fnSubtaskWindow", fn := fun _ => fun
  | [d] => { results := [.lit (.bool false)], args := [d] }
  | _ => none }
def FnSubtaskWindowWrongFalsely : Prop := fnSubtaskWindowRow.holds Try.pinned (OpenSpec.ofChange fnSubtaskWindowWrong)

/-- 'laws.FnExactConforms': WHATEVER THE INPUT: true; the input reads as it did. -/
def fnExactConformsSpec : ChangeSpec := { name := "fnExactConforms", fn := fun _ => fun
  | [d1, d2] => { results := [.lit (.bool true)], args := [d1, d2] }
  | _ => none }
def fnExactConformsRow : OpenClaim := { program := "ytkmpcmhkfnoeiaa", sum := "7e35385e77b4904c560916926b89d1c9e64f32c376901db4337d54c8edcec966", func := "loop.example/deadlinescheduler/laws.FnExactConforms", spec := "fnExactConforms", unfollowed := true, recurses := true, apart := false }
def FnExactConformsSaid : Prop := fnExactConformsRow.holds Try.pinned (OpenSpec.ofChange fnExactConformsSpec)

/-- ITS FALSE NEIGHBOUR: 'it returns false'. Refute it at one input. -/
def fnExactConformsWrong : ChangeSpec := { name := "fnExactConforms", fn := fun _ => fun
  | [d1, d2] => { results := [.lit (.bool false)], args := [d1, d2] }
  | _ => none }
def FnExactConformsWrongFalsely : Prop := fnExactConformsRow.holds Try.pinned (OpenSpec.ofChange fnExactConformsWrong)

/-- 'laws.FnConforms': WHATEVER THE INPUT: true; the input reads as it did. -/
def fnConformsSpec : ChangeSpec := { name := "fnConforms", fn := fun _ => fun
  | [d] => { results := [.lit (.bool true)], args := [d] }
  | _ => none }
def fnConformsRow : OpenClaim := { program := "ytkmpcmhkfnoeiaa", sum := "7e35385e77b4904c560916926b89d1c9e64f32c376901db4337d54c8edcec966", func := "loop.example/deadlinescheduler/laws.FnConforms", spec := "fnConforms", unfollowed := true, recurses := true, apart := false }
def FnConformsSaid : Prop := fnConformsRow.holds Try.pinned (OpenSpec.ofChange fnConformsSpec)

/-- ITS FALSE NEIGHBOUR: 'it returns false'. Refute it at one input. -/
def fnConformsWrong : ChangeSpec := { name := "fnConforms", fn := fun _ => fun
  | [d] => { results := [.lit (.bool false)], args := [d] }
  | _ => none }
def FnConformsWrongFalsely : Prop := fnConformsRow.holds Try.pinned (OpenSpec.ofChange fnConformsWrong)

/-- 'laws.FnExactBacklogs': WHATEVER THE INPUT: true; the input reads as it did. -/
def fnExactBacklogsSpec : ChangeSpec := { name := "fnExactBacklogs", fn := fun _ => fun
  | [d1, d2] => { results := [.lit (.bool true)], args := [d1, d2] }
  | _ => none }
def fnExactBacklogsRow : OpenClaim := { program := "ytkmpcmhkfnoeiaa", sum := "7e35385e77b4904c560916926b89d1c9e64f32c376901db4337d54c8edcec966", func := "loop.example/deadlinescheduler/laws.FnExactBacklogs", spec := "fnExactBacklogs", unfollowed := true, recurses := true, apart := false }
def FnExactBacklogsSaid : Prop := fnExactBacklogsRow.holds Try.pinned (OpenSpec.ofChange fnExactBacklogsSpec)

/-- ITS FALSE NEIGHBOUR: 'it returns false'. Refute it at one input. -/
def fnExactBacklogsWrong : ChangeSpec := { name := "fnExactBacklogs", fn := fun _ => fun
  | [d1, d2] => { results := [.lit (.bool false)], args := [d1, d2] }
  | _ => none }
def FnExactBacklogsWrongFalsely : Prop := fnExactBacklogsRow.holds Try.pinned (OpenSpec.ofChange fnExactBacklogsWrong)

/-- 'laws.FnBacklogs': WHATEVER THE INPUT: true; the input reads as it did. -/
def fnBacklogsSpec : ChangeSpec := { name := "fnBacklogs", fn := fun _ => fun
  | [d] => { results := [.lit (.bool true)], args := [d] }
  | _ => none }
def fnBacklogsRow : OpenClaim := { program := "ytkmpcmhkfnoeiaa", sum := "7e35385e77b4904c560916926b89d1c9e64f32c376901db4337d54c8edcec966", func := "loop.example/deadlinescheduler/laws.FnBacklogs", spec := "fnBacklogs", unfollowed := true, recurses := true, apart := false }
def FnBacklogsSaid : Prop := fnBacklogsRow.holds Try.pinned (OpenSpec.ofChange fnBacklogsSpec)

/-- ITS FALSE NEIGHBOUR: 'it returns false'. Refute it at one input. -/
def fnBacklogsWrong : ChangeSpec := { name := "fnBacklogs", fn := fun _ => fun
  | [d] => { results := [.lit (.bool false)], args := [d] }
  | _ => none }
def FnBacklogsWrongFalsely : Prop := fnBacklogsRow.holds Try.pinned (OpenSpec.ofChange fnBacklogsWrong)

/-- 'laws.FnBacklogSafe': WHATEVER THE INPUT: true; the input reads as it did. -/
def fnBacklogSafeSpec : ChangeSpec := { name := "fnBacklogSafe", fn := fun _ => fun
  | [d] => { results := [.lit (.bool true)], args := [d] }
  | _ => none }
def fnBacklogSafeRow : OpenClaim := { program := "ytkmpcmhkfnoeiaa", sum := "7e35385e77b4904c560916926b89d1c9e64f32c376901db4337d54c8edcec966", func := "loop.example/deadlinescheduler/laws.FnBacklogSafe", spec := "fnBacklogSafe", unfollowed := true, recurses := true, apart := false }
def FnBacklogSafeSaid : Prop := fnBacklogSafeRow.holds Try.pinned (OpenSpec.ofChange fnBacklogSafeSpec)

/-- ITS FALSE NEIGHBOUR: 'it returns false'. Refute it at one input. -/
def fnBacklogSafeWrong : ChangeSpec := { name := "fnBacklogSafe", fn := fun _ => fun
  | [d] => { results := [.lit (.bool false)], args := [d] }
  | _ => none }
def FnBacklogSafeWrongFalsely : Prop := fnBacklogSafeRow.holds Try.pinned (OpenSpec.ofChange fnBacklogSafeWrong)

/-- 'laws.FnDelaySafe': WHATEVER THE INPUT: true; the input reads as it did. -/
def fnDelaySafeSpec : ChangeSpec := { name := "fnDelaySafe", fn := fun _ => fun
  | [d] => { results := [.lit (.bool true)], args := [d] }
  | _ => none }
def fnDelaySafeRow : OpenClaim := { program := "ytkmpcmhkfnoeiaa", sum := "7e35385e77b4904c560916926b89d1c9e64f32c376901db4337d54c8edcec966", func := "loop.example/deadlinescheduler/laws.FnDelaySafe", spec := "fnDelaySafe", unfollowed := true, recurses := true, apart := false }
def FnDelaySafeSaid : Prop := fnDelaySafeRow.holds Try.pinned (OpenSpec.ofChange fnDelaySafeSpec)

/-- ITS FALSE NEIGHBOUR: 'it returns false'. Refute it at one input. -/
def fnDelaySafeWrong : ChangeSpec := { name := "fnDelaySafe", fn := fun _ => fun
  | [d] => { results := [.lit (.bool false)], args := [d] }
  | _ => none }
def FnDelaySafeWrongFalsely : Prop := fnDelaySafeRow.holds Try.pinned (OpenSpec.ofChange fnDelaySafeWrong)

/-- 'laws.FnExactGraphValid': WHATEVER THE INPUT: true; the input reads as it did. -/
def fnExactGraphValidSpec : ChangeSpec := { name := "fnExactGraphValid", fn := fun _ => fun
  | [d1, d2] => { results := [.lit (.bool true)], args := [d1, d2] }
  | _ => none }
def fnExactGraphValidRow : OpenClaim := { program := "ytkmpcmhkfnoeiaa", sum := "7e35385e77b4904c560916926b89d1c9e64f32c376901db4337d54c8edcec966", func := "loop.example/deadlinescheduler/laws.FnExactGraphValid", spec := "fnExactGraphValid", unfollowed := true, recurses := true, apart := false }
def FnExactGraphValidSaid : Prop := fnExactGraphValidRow.holds Try.pinned (OpenSpec.ofChange fnExactGraphValidSpec)

/-- ITS FALSE NEIGHBOUR: 'it returns false'. Refute it at one input. -/
def fnExactGraphValidWrong : ChangeSpec := { name := "fnExactGraphValid", fn := fun _ => fun
  | [d1, d2] => { results := [.lit (.bool false)], args := [d1, d2] }
  | _ => none }
def FnExactGraphValidWrongFalsely : Prop := fnExactGraphValidRow.holds Try.pinned (OpenSpec.ofChange fnExactGraphValidWrong)

/-- 'laws.FnGraphValid': WHATEVER THE INPUT: true; the input reads as it did. -/
def fnGraphValidSpec : ChangeSpec := { name := "fnGraphValid", fn := fun _ => fun
  | [d] => { results := [.lit (.bool true)], args := [d] }
  | _ => none }
def fnGraphValidRow : OpenClaim := { program := "ytkmpcmhkfnoeiaa", sum := "7e35385e77b4904c560916926b89d1c9e64f32c376901db4337d54c8edcec966", func := "loop.example/deadlinescheduler/laws.FnGraphValid", spec := "fnGraphValid", unfollowed := true, recurses := true, apart := false }
def FnGraphValidSaid : Prop := fnGraphValidRow.holds Try.pinned (OpenSpec.ofChange fnGraphValidSpec)

/-- ITS FALSE NEIGHBOUR: 'it returns false'. Refute it at one input. -/
def fnGraphValidWrong : ChangeSpec := { name := "fnGraphValid", fn := fun _ => fun
  | [d] => { results := [.lit (.bool false)], args := [d] }
  | _ => none }
def FnGraphValidWrongFalsely : Prop := fnGraphValidRow.holds Try.pinned (OpenSpec.ofChange fnGraphValidWrong)

/-- 'laws.FnExactVolume': WHATEVER THE INPUT: true; the input reads as it did. -/
def fnExactVolumeSpec : ChangeSpec := { name := "fnExactVolume", fn := fun _ => fun
  | [d1, d2] => { results := [.lit (.bool true)], args := [d1, d2] }
  | _ => none }
def fnExactVolumeRow : OpenClaim := { program := "ytkmpcmhkfnoeiaa", sum := "7e35385e77b4904c560916926b89d1c9e64f32c376901db4337d54c8edcec966", func := "loop.example/deadlinescheduler/laws.FnExactVolume", spec := "fnExactVolume", unfollowed := true, recurses := true, apart := false }
def FnExactVolumeSaid : Prop := fnExactVolumeRow.holds Try.pinned (OpenSpec.ofChange fnExactVolumeSpec)

/-- ITS FALSE NEIGHBOUR: 'it returns false'. Refute it at one input. -/
def fnExactVolumeWrong : ChangeSpec := { name := "fnExactVolume", fn := fun _ => fun
  | [d1, d2] => { results := [.lit (.bool false)], args := [d1, d2] }
  | _ => none }
def FnExactVolumeWrongFalsely : Prop := fnExactVolumeRow.holds Try.pinned (OpenSpec.ofChange fnExactVolumeWrong)

/-- 'laws.FnExactCriticalPath': WHATEVER THE INPUT: true; the input reads as it did. -/
def fnExactCriticalPathSpec : ChangeSpec := { name := "fnExactCriticalPath", fn := fun _ => fun
  | [d1, d2] => { results := [.lit (.bool true)], args := [d1, d2] }
  | _ => none }
def fnExactCriticalPathRow : OpenClaim := { program := "ytkmpcmhkfnoeiaa", sum := "7e35385e77b4904c560916926b89d1c9e64f32c376901db4337d54c8edcec966", func := "loop.example/deadlinescheduler/laws.FnExactCriticalPath", spec := "fnExactCriticalPath", unfollowed := true, recurses := true, apart := false }
def FnExactCriticalPathSaid : Prop := fnExactCriticalPathRow.holds Try.pinned (OpenSpec.ofChange fnExactCriticalPathSpec)

/-- ITS FALSE NEIGHBOUR: 'it returns false'. Refute it at one input. -/
def fnExactCriticalPathWrong : ChangeSpec := { name := "fnExactCriticalPath", fn := fun _ => fun
  | [d1, d2] => { results := [.lit (.bool false)], args := [d1, d2] }
  | _ => none }
def FnExactCriticalPathWrongFalsely : Prop := fnExactCriticalPathRow.holds Try.pinned (OpenSpec.ofChange fnExactCriticalPathWrong)

/-- 'laws.FnCriticalPath': WHATEVER THE INPUT: true; the input reads as it did. -/
def fnCriticalPathSpec : ChangeSpec := { name := "fnCriticalPath", fn := fun _ => fun
  | [d] => { results := [.lit (.bool true)], args := [d] }
  | _ => none }
def fnCriticalPathRow : OpenClaim := { program := "ytkmpcmhkfnoeiaa", sum := "7e35385e77b4904c560916926b89d1c9e64f32c376901db4337d54c8edcec966", func := "loop.example/deadlinescheduler/laws.FnCriticalPath", spec := "fnCriticalPath", unfollowed := true, recurses := true, apart := false }
def FnCriticalPathSaid : Prop := fnCriticalPathRow.holds Try.pinned (OpenSpec.ofChange fnCriticalPathSpec)

/-- ITS FALSE NEIGHBOUR: 'it returns false'. Refute it at one input. -/
def fnCriticalPathWrong : ChangeSpec := { name := "fnCriticalPath", fn := fun _ => fun
  | [d] => { results := [.lit (.bool false)], args := [d] }
  | _ => none }
def FnCriticalPathWrongFalsely : Prop := fnCriticalPathRow.holds Try.pinned (OpenSpec.ofChange fnCriticalPathWrong)

/-- 'laws.FnExactMakespanBound': WHATEVER THE INPUT: true; the input reads as it did. -/
def fnExactMakespanBoundSpec : ChangeSpec := { name := "fnExactMakespanBound", fn := fun _ => fun
  | [d1, d2, d3] => { results := [.lit (.bool true)], args := [d1, d2, d3] }
  | _ => none }
def fnExactMakespanBoundRow : OpenClaim := { program := "ytkmpcmhkfnoeiaa", sum := "7e35385e77b4904c560916926b89d1c9e64f32c376901db4337d54c8edcec966", func := "loop.example/deadlinescheduler/laws.FnExactMakespanBound", spec := "fnExactMakespanBound", unfollowed := true, recurses := true, apart := false }
def FnExactMakespanBoundSaid : Prop := fnExactMakespanBoundRow.holds Try.pinned (OpenSpec.ofChange fnExactMakespanBoundSpec)

/-- ITS FALSE NEIGHBOUR: 'it returns false'. Refute it at one input. -/
def fnExactMakespanBoundWrong : ChangeSpec := { name := "fnExactMakespanBound", fn := fun _ => fun
  | [d1, d2, d3] => { results := [.lit (.bool false)], args := [d1, d2, d3] }
  | _ => none }
def FnExactMakespanBoundWrongFalsely : Prop := fnExactMakespanBoundRow.holds Try.pinned (OpenSpec.ofChange fnExactMakespanBoundWrong)

/- THE SECOND FORM. 'bulk': how many values and letters a reading holds, each counted each time it is reached (what is shared counts as often as it is met; a slice's spare places count too). A statement '..UptoSaid' is the law's where the arguments, and the package variables that the reading takes, are together of bulk at most 1048576: NARROWER than '..Said'. Prove '..Said' where nothing that the law and all that it calls make is longer than what came in: it says more and counts as full. Else prove '..UptoSaid'. A law counts once. -/
mutual
def uptoBulk {H : Type} : DataW H → Nat
  | .lit (.string bytes) => bytes.length + 1
  | .lit _ => 1
  | .nil => 1
  | .ptr d => uptoBulk d + 1
  | .slice elems spare => uptoBulkAll elems + uptoBulkAll spare + 1
  | .agg parts => uptoBulkAll parts + 1
  | .iface _ d => uptoBulk d + 1
  | .map entries => uptoBulkEntries entries + 1
  | .held _ => 1
def uptoBulkAll {H : Type} : List (DataW H) → Nat
  | [] => 0
  | d :: r => uptoBulk d + uptoBulkAll r
def uptoBulkEntries {H : Type} : List (Lit × DataW H) → Nat
  | [] => 0
  | x :: r => uptoBulkEntry x + uptoBulkEntries r
def uptoBulkEntry {H : Type} : Lit × DataW H → Nat
  | (.string bytes, d) => bytes.length + uptoBulk d + 1
  | (_, d) => uptoBulk d + 1
 end
def uptoSmall : (H : Type) → List (DataW H) → Bool := fun _ ds => decide (uptoBulkAll ds ≤ 1048576)
def OpenSpec.upto (s : _root_.Go.ChangeSpec) : _root_.Go.OpenSpec := { _root_.Go.OpenSpec.ofChange s with cond := some uptoSmall }

/-- 'laws.FnExactSubtaskWindow', WHERE WHAT IT READS IS OF BULK AT MOST 1048576: true; the input reads as it did. -/
def fnExactSubtaskWindowUptoRow : OpenClaim := { program := "ytkmpcmhkfnoeiaa", sum := "7e35385e77b4904c560916926b89d1c9e64f32c376901db4337d54c8edcec966", func := "loop.example/deadlinescheduler/laws.FnExactSubtaskWindow", spec := "fnExactSubtaskWindow", unfollowed := true, recurses := true, apart := false, narrowed := true }
def FnExactSubtaskWindowUptoSaid : Prop := fnExactSubtaskWindowUptoRow.holds Try.pinned (OpenSpec.upto fnExactSubtaskWindowSpec)

/-- 'laws.FnSubtaskWindow', WHERE WHAT IT READS IS OF BULK AT MOST 1048576: true; the input reads as it did. -/
def fnSubtaskWindowUptoRow : OpenClaim := { program := "ytkmpcmhkfnoeiaa", sum := "7e35385e77b4904c560916926b89d1c9e64f32c376901db4337d54c8edcec966", func := "loop.example/deadlinescheduler/laws.FnSubtaskWindow", spec := "fnSubtaskWindow", unfollowed := true, recurses := true, apart := false, narrowed := true }
def FnSubtaskWindowUptoSaid : Prop := fnSubtaskWindowUptoRow.holds Try.pinned (OpenSpec.upto fnSubtaskWindowSpec)

/-- 'laws.FnExactConforms', WHERE WHAT IT READS IS OF BULK AT MOST 1048576: true; the input reads as it did. -/
def fnExactConformsUptoRow : OpenClaim := { program := "ytkmpcmhkfnoeiaa", sum := "7e35385e77b4904c560916926b89d1c9e64f32c376901db4337d54c8edcec966", func := "loop.example/deadlinescheduler/laws.FnExactConforms", spec := "fnExactConforms", unfollowed := true, recurses := true, apart := false, narrowed := true }
def FnExactConformsUptoSaid : Prop := fnExactConformsUptoRow.holds Try.pinned (OpenSpec.upto fnExactConformsSpec)

/-- 'laws.FnConforms', WHERE WHAT IT READS IS OF BULK AT MOST 1048576: true; the input reads as it did. -/
def fnConformsUptoRow : OpenClaim := { program := "ytkmpcmhkfnoeiaa", sum := "7e35385e77b4904c560916926b89d1c9e64f32c376901db4337d54c8edcec966", func := "loop.example/deadlinescheduler/laws.FnConforms", spec := "fnConforms", unfollowed := true, recurses := true, apart := false, narrowed := true }
def FnConformsUptoSaid : Prop := fnConformsUptoRow.holds Try.pinned (OpenSpec.upto fnConformsSpec)

/-- 'laws.FnExactBacklogs', WHERE WHAT IT READS IS OF BULK AT MOST 1048576: true; the input reads as it did. -/
def fnExactBacklogsUptoRow : OpenClaim := { program := "ytkmpcmhkfnoeiaa", sum := "7e35385e77b4904c560916926b89d1c9e64f32c376901db4337d54c8edcec966", func := "loop.example/deadlinescheduler/laws.FnExactBacklogs", spec := "fnExactBacklogs", unfollowed := true, recurses := true, apart := false, narrowed := true }
def FnExactBacklogsUptoSaid : Prop := fnExactBacklogsUptoRow.holds Try.pinned (OpenSpec.upto fnExactBacklogsSpec)

/-- 'laws.FnBacklogs', WHERE WHAT IT READS IS OF BULK AT MOST 1048576: true; the input reads as it did. -/
def fnBacklogsUptoRow : OpenClaim := { program := "ytkmpcmhkfnoeiaa", sum := "7e35385e77b4904c560916926b89d1c9e64f32c376901db4337d54c8edcec966", func := "loop.example/deadlinescheduler/laws.FnBacklogs", spec := "fnBacklogs", unfollowed := true, recurses := true, apart := false, narrowed := true }
def FnBacklogsUptoSaid : Prop := fnBacklogsUptoRow.holds Try.pinned (OpenSpec.upto fnBacklogsSpec)

/-- 'laws.FnBacklogSafe', WHERE WHAT IT READS IS OF BULK AT MOST 1048576: true; the input reads as it did. -/
def fnBacklogSafeUptoRow : OpenClaim := { program := "ytkmpcmhkfnoeiaa", sum := "7e35385e77b4904c560916926b89d1c9e64f32c376901db4337d54c8edcec966", func := "loop.example/deadlinescheduler/laws.FnBacklogSafe", spec := "fnBacklogSafe", unfollowed := true, recurses := true, apart := false, narrowed := true }
def FnBacklogSafeUptoSaid : Prop := fnBacklogSafeUptoRow.holds Try.pinned (OpenSpec.upto fnBacklogSafeSpec)

/-- 'laws.FnDelaySafe', WHERE WHAT IT READS IS OF BULK AT MOST 1048576: true; the input reads as it did. -/
def fnDelaySafeUptoRow : OpenClaim := { program := "ytkmpcmhkfnoeiaa", sum := "7e35385e77b4904c560916926b89d1c9e64f32c376901db4337d54c8edcec966", func := "loop.example/deadlinescheduler/laws.FnDelaySafe", spec := "fnDelaySafe", unfollowed := true, recurses := true, apart := false, narrowed := true }
def FnDelaySafeUptoSaid : Prop := fnDelaySafeUptoRow.holds Try.pinned (OpenSpec.upto fnDelaySafeSpec)

/-- 'laws.FnExactGraphValid', WHERE WHAT IT READS IS OF BULK AT MOST 1048576: true; the input reads as it did. -/
def fnExactGraphValidUptoRow : OpenClaim := { program := "ytkmpcmhkfnoeiaa", sum := "7e35385e77b4904c560916926b89d1c9e64f32c376901db4337d54c8edcec966", func := "loop.example/deadlinescheduler/laws.FnExactGraphValid", spec := "fnExactGraphValid", unfollowed := true, recurses := true, apart := false, narrowed := true }
def FnExactGraphValidUptoSaid : Prop := fnExactGraphValidUptoRow.holds Try.pinned (OpenSpec.upto fnExactGraphValidSpec)

/-- 'laws.FnGraphValid', WHERE WHAT IT READS IS OF BULK AT MOST 1048576: true; the input reads as it did. -/
def fnGraphValidUptoRow : OpenClaim := { program := "ytkmpcmhkfnoeiaa", sum := "7e35385e77b4904c560916926b89d1c9e64f32c376901db4337d54c8edcec966", func := "loop.example/deadlinescheduler/laws.FnGraphValid", spec := "fnGraphValid", unfollowed := true, recurses := true, apart := false, narrowed := true }
def FnGraphValidUptoSaid : Prop := fnGraphValidUptoRow.holds Try.pinned (OpenSpec.upto fnGraphValidSpec)

/-- 'laws.FnExactVolume', WHERE WHAT IT READS IS OF BULK AT MOST 1048576: true; the input reads as it did. -/
def fnExactVolumeUptoRow : OpenClaim := { program := "ytkmpcmhkfnoeiaa", sum := "7e35385e77b4904c560916926b89d1c9e64f32c376901db4337d54c8edcec966", func := "loop.example/deadlinescheduler/laws.FnExactVolume", spec := "fnExactVolume", unfollowed := true, recurses := true, apart := false, narrowed := true }
def FnExactVolumeUptoSaid : Prop := fnExactVolumeUptoRow.holds Try.pinned (OpenSpec.upto fnExactVolumeSpec)

/-- 'laws.FnExactCriticalPath', WHERE WHAT IT READS IS OF BULK AT MOST 1048576: true; the input reads as it did. -/
def fnExactCriticalPathUptoRow : OpenClaim := { program := "ytkmpcmhkfnoeiaa", sum := "7e35385e77b4904c560916926b89d1c9e64f32c376901db4337d54c8edcec966", func := "loop.example/deadlinescheduler/laws.FnExactCriticalPath", spec := "fnExactCriticalPath", unfollowed := true, recurses := true, apart := false, narrowed := true }
def FnExactCriticalPathUptoSaid : Prop := fnExactCriticalPathUptoRow.holds Try.pinned (OpenSpec.upto fnExactCriticalPathSpec)

/-- 'laws.FnCriticalPath', WHERE WHAT IT READS IS OF BULK AT MOST 1048576: true; the input reads as it did. -/
def fnCriticalPathUptoRow : OpenClaim := { program := "ytkmpcmhkfnoeiaa", sum := "7e35385e77b4904c560916926b89d1c9e64f32c376901db4337d54c8edcec966", func := "loop.example/deadlinescheduler/laws.FnCriticalPath", spec := "fnCriticalPath", unfollowed := true, recurses := true, apart := false, narrowed := true }
def FnCriticalPathUptoSaid : Prop := fnCriticalPathUptoRow.holds Try.pinned (OpenSpec.upto fnCriticalPathSpec)

/-- 'laws.FnExactMakespanBound', WHERE WHAT IT READS IS OF BULK AT MOST 1048576: true; the input reads as it did. -/
def fnExactMakespanBoundUptoRow : OpenClaim := { program := "ytkmpcmhkfnoeiaa", sum := "7e35385e77b4904c560916926b89d1c9e64f32c376901db4337d54c8edcec966", func := "loop.example/deadlinescheduler/laws.FnExactMakespanBound", spec := "fnExactMakespanBound", unfollowed := true, recurses := true, apart := false, narrowed := true }
def FnExactMakespanBoundUptoSaid : Prop := fnExactMakespanBoundUptoRow.holds Try.pinned (OpenSpec.upto fnExactMakespanBoundSpec)

end Rows
end Go.Proofs.Ytkmpcmhkfnoeiaa
