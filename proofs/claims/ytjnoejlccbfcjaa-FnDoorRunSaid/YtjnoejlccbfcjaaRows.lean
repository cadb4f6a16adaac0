/-
  No cell of these rows narrows 'for every input' (looked for: loops, veiled, ifaces, maps, wideKeys, modest, calm, conditions, laid).
  DERIVED. THE GIVEN ROWS OF THIS SEAT. 12 by the template 'for every input the law returns true; each argument reads behind the call as it read before'; 0 by the template 'total and deterministic' (their statements: YtjnoejlccbfcjaaTotals.lean).
  GIVEN WITH THE SEED: the statements are not yours to turn. If you find one false, say at which input.
  Laid BY PROGRAM, IN A SANDBOX (cutbox-rows.mjs): the forced cells as the released guide's own fill.sh prints them over the translation 1307d57ee9d51c48… (all of the seat's roots in one cut). By AI agents, Wed Nov 11 2026. No macro, syntax, notation, axiom, sorry.
-/
import Derived.Test.YtjnoejlccbfcjaaChecked
import GoSem.Claim
import GoSem.ClaimJoined
import GoSem.ClaimMapViews
import Derived.JoinedTies
import Derived.KernelRfl
namespace Go.Proofs.Ytjnoejlccbfcjaa
/- THE CELL 'sum', in the pinned program and in every row, IS THE sha256 OF THE DUMP (.gsa) THAT YtjnoejlccbfcjaaProg.lean LOADS. Nothing in Lean hashes anything: it is a label: what it is worth is what the hold of that sum in a sandbox is worth. -/
noncomputable def Try.pinned : Pinned := { name := "ytjnoejlccbfcjaa", sum := "1307d57ee9d51c48042b7058fa43a84c6907de0122b1c98d6b8a2956562bc1de", checked := Try.checked }
namespace Rows
def none {H : Type} : Left H := { results := [], args := [] }

/-- 'laws.FnGovernorStep': WHATEVER THE INPUT: true; the input reads as it did. -/
def fnGovernorStepSpec : ChangeSpec := { name := "fnGovernorStep", fn := fun _ => fun
  | [d] => { results := [.lit (.bool true)], args := [d] }
  | _ => none }
def fnGovernorStepRow : OpenClaim := { program := "ytjnoejlccbfcjaa", sum := "1307d57ee9d51c48042b7058fa43a84c6907de0122b1c98d6b8a2956562bc1de", func := "loop.example/elevators/laws.FnGovernorStep", spec := "fnGovernorStep", apart := false }
def FnGovernorStepSaid : Prop := fnGovernorStepRow.holds Try.pinned (OpenSpec.ofChange fnGovernorStepSpec)

/-- ITS FALSE NEIGHBOUR: 'it returns false'. Refute it at one input. -/
def fnGovernorStepWrong : ChangeSpec := { name := "fnGovernorStep", fn := fun _ => fun
  | [d] => { results := [.lit (.bool false)], args := [d] }
  | _ => none }
def FnGovernorStepWrongFalsely : Prop := fnGovernorStepRow.holds Try.pinned (OpenSpec.ofChange fnGovernorStepWrong)

/-- 'laws.FnBrakeWay': WHATEVER THE INPUT: true; the input reads as it did. -/
def fnBrakeWaySpec : ChangeSpec := { name := "fnBrakeWay", fn := fun _ => fun
  | [d] => { results := [.lit (.bool true)], args := [d] }
  | _ => none }
def fnBrakeWayRow : OpenClaim := { program := "ytjnoejlccbfcjaa", sum := "1307d57ee9d51c48042b7058fa43a84c6907de0122b1c98d6b8a2956562bc1de", func := "loop.example/elevators/laws.FnBrakeWay", spec := "fnBrakeWay", recurses := true, apart := false }
def FnBrakeWaySaid : Prop := fnBrakeWayRow.holds Try.pinned (OpenSpec.ofChange fnBrakeWaySpec)

/-- ITS FALSE NEIGHBOUR: 'it returns false'. Refute it at one input. -/
def fnBrakeWayWrong : ChangeSpec := { name := "fnBrakeWay", fn := fun _ => fun
  | [d] => { results := [.lit (.bool false)], args := [d] }
  | _ => none }
def FnBrakeWayWrongFalsely : Prop := fnBrakeWayRow.holds Try.pinned (OpenSpec.ofChange fnBrakeWayWrong)

/-- 'laws.FnMotionValid': WHATEVER THE INPUT: true; the input reads as it did. -/
def fnMotionValidSpec : ChangeSpec := { name := "fnMotionValid", fn := fun _ => fun
  | [d] => { results := [.lit (.bool true)], args := [d] }
  | _ => none }
def fnMotionValidRow : OpenClaim := { program := "ytjnoejlccbfcjaa", sum := "1307d57ee9d51c48042b7058fa43a84c6907de0122b1c98d6b8a2956562bc1de", func := "loop.example/elevators/laws.FnMotionValid", spec := "fnMotionValid", apart := false }
def FnMotionValidSaid : Prop := fnMotionValidRow.holds Try.pinned (OpenSpec.ofChange fnMotionValidSpec)

/-- ITS FALSE NEIGHBOUR: 'it returns false'. Refute it at one input. -/
def fnMotionValidWrong : ChangeSpec := { name := "fnMotionValid", fn := fun _ => fun
  | [d] => { results := [.lit (.bool false)], args := [d] }
  | _ => none }
def FnMotionValidWrongFalsely : Prop := fnMotionValidRow.holds Try.pinned (OpenSpec.ofChange fnMotionValidWrong)

/-- 'laws.FnDoorValid': WHATEVER THE INPUT: true; the input reads as it did. -/
def fnDoorValidSpec : ChangeSpec := { name := "fnDoorValid", fn := fun _ => fun
  | [d] => { results := [.lit (.bool true)], args := [d] }
  | _ => none }
def fnDoorValidRow : OpenClaim := { program := "ytjnoejlccbfcjaa", sum := "1307d57ee9d51c48042b7058fa43a84c6907de0122b1c98d6b8a2956562bc1de", func := "loop.example/elevators/laws.FnDoorValid", spec := "fnDoorValid", apart := false }
def FnDoorValidSaid : Prop := fnDoorValidRow.holds Try.pinned (OpenSpec.ofChange fnDoorValidSpec)

/-- ITS FALSE NEIGHBOUR: 'it returns false'. Refute it at one input. -/
def fnDoorValidWrong : ChangeSpec := { name := "fnDoorValid", fn := fun _ => fun
  | [d] => { results := [.lit (.bool false)], args := [d] }
  | _ => none }
def FnDoorValidWrongFalsely : Prop := fnDoorValidRow.holds Try.pinned (OpenSpec.ofChange fnDoorValidWrong)

/-- 'laws.FnDoorStep': WHATEVER THE INPUT: true; the input reads as it did. -/
def fnDoorStepSpec : ChangeSpec := { name := "fnDoorStep", fn := fun _ => fun
  | [d] => { results := [.lit (.bool true)], args := [d] }
  | _ => none }
def fnDoorStepRow : OpenClaim := { program := "ytjnoejlccbfcjaa", sum := "1307d57ee9d51c48042b7058fa43a84c6907de0122b1c98d6b8a2956562bc1de", func := "loop.example/elevators/laws.FnDoorStep", spec := "fnDoorStep", apart := false }
def FnDoorStepSaid : Prop := fnDoorStepRow.holds Try.pinned (OpenSpec.ofChange fnDoorStepSpec)

/-- ITS FALSE NEIGHBOUR: 'it returns false'. Refute it at one input. -/
def fnDoorStepWrong : ChangeSpec := { name := "fnDoorStep", fn := fun _ => fun
  | [d] => { results := [.lit (.bool false)], args := [d] }
  | _ => none }
def FnDoorStepWrongFalsely : Prop := fnDoorStepRow.holds Try.pinned (OpenSpec.ofChange fnDoorStepWrong)

/-- 'laws.FnGovernorRun': WHATEVER THE INPUT: true; the input reads as it did. -/
def fnGovernorRunSpec : ChangeSpec := { name := "fnGovernorRun", fn := fun _ => fun
  | [d] => { results := [.lit (.bool true)], args := [d] }
  | _ => none }
def fnGovernorRunRow : OpenClaim := { program := "ytjnoejlccbfcjaa", sum := "1307d57ee9d51c48042b7058fa43a84c6907de0122b1c98d6b8a2956562bc1de", func := "loop.example/elevators/laws.FnGovernorRun", spec := "fnGovernorRun", apart := false }
def FnGovernorRunSaid : Prop := fnGovernorRunRow.holds Try.pinned (OpenSpec.ofChange fnGovernorRunSpec)

/-- ITS FALSE NEIGHBOUR: 'it returns false'. Refute it at one input. -/
def fnGovernorRunWrong : ChangeSpec := { name := "fnGovernorRun", fn := fun _ => fun
  | [d] => { results := [.lit (.bool false)], args := [d] }
  | _ => none }
def FnGovernorRunWrongFalsely : Prop := fnGovernorRunRow.holds Try.pinned (OpenSpec.ofChange fnGovernorRunWrong)

/-- 'laws.FnSpeedLimit': WHATEVER THE INPUT: true; the input reads as it did. -/
def fnSpeedLimitSpec : ChangeSpec := { name := "fnSpeedLimit", fn := fun _ => fun
  | [d] => { results := [.lit (.bool true)], args := [d] }
  | _ => none }
def fnSpeedLimitRow : OpenClaim := { program := "ytjnoejlccbfcjaa", sum := "1307d57ee9d51c48042b7058fa43a84c6907de0122b1c98d6b8a2956562bc1de", func := "loop.example/elevators/laws.FnSpeedLimit", spec := "fnSpeedLimit", recurses := true, apart := false }
def FnSpeedLimitSaid : Prop := fnSpeedLimitRow.holds Try.pinned (OpenSpec.ofChange fnSpeedLimitSpec)

/-- ITS FALSE NEIGHBOUR: 'it returns false'. Refute it at one input. -/
def fnSpeedLimitWrong : ChangeSpec := { name := "fnSpeedLimit", fn := fun _ => fun
  | [d] => { results := [.lit (.bool false)], args := [d] }
  | _ => none }
def FnSpeedLimitWrongFalsely : Prop := fnSpeedLimitRow.holds Try.pinned (OpenSpec.ofChange fnSpeedLimitWrong)

/-- 'laws.FnDoorTicks': WHATEVER THE INPUT: true; the input reads as it did. -/
def fnDoorTicksSpec : ChangeSpec := { name := "fnDoorTicks", fn := fun _ => fun
  | [d] => { results := [.lit (.bool true)], args := [d] }
  | _ => none }
def fnDoorTicksRow : OpenClaim := { program := "ytjnoejlccbfcjaa", sum := "1307d57ee9d51c48042b7058fa43a84c6907de0122b1c98d6b8a2956562bc1de", func := "loop.example/elevators/laws.FnDoorTicks", spec := "fnDoorTicks", apart := false }
def FnDoorTicksSaid : Prop := fnDoorTicksRow.holds Try.pinned (OpenSpec.ofChange fnDoorTicksSpec)

/-- ITS FALSE NEIGHBOUR: 'it returns false'. Refute it at one input. -/
def fnDoorTicksWrong : ChangeSpec := { name := "fnDoorTicks", fn := fun _ => fun
  | [d] => { results := [.lit (.bool false)], args := [d] }
  | _ => none }
def FnDoorTicksWrongFalsely : Prop := fnDoorTicksRow.holds Try.pinned (OpenSpec.ofChange fnDoorTicksWrong)

/-- 'laws.FnDoorRun': WHATEVER THE INPUT: true; the input reads as it did. -/
def fnDoorRunSpec : ChangeSpec := { name := "fnDoorRun", fn := fun _ => fun
  | [d] => { results := [.lit (.bool true)], args := [d] }
  | _ => none }
def fnDoorRunRow : OpenClaim := { program := "ytjnoejlccbfcjaa", sum := "1307d57ee9d51c48042b7058fa43a84c6907de0122b1c98d6b8a2956562bc1de", func := "loop.example/elevators/laws.FnDoorRun", spec := "fnDoorRun", apart := false }
def FnDoorRunSaid : Prop := fnDoorRunRow.holds Try.pinned (OpenSpec.ofChange fnDoorRunSpec)

/-- ITS FALSE NEIGHBOUR: 'it returns false'. Refute it at one input. -/
def fnDoorRunWrong : ChangeSpec := { name := "fnDoorRun", fn := fun _ => fun
  | [d] => { results := [.lit (.bool false)], args := [d] }
  | _ => none }
def FnDoorRunWrongFalsely : Prop := fnDoorRunRow.holds Try.pinned (OpenSpec.ofChange fnDoorRunWrong)

/-- 'laws.FnCanStop': WHATEVER THE INPUT: true; the input reads as it did. -/
def fnCanStopSpec : ChangeSpec := { name := "fnCanStop", fn := fun _ => fun
  | [d] => { results := [.lit (.bool true)], args := [d] }
  | _ => none }
def fnCanStopRow : OpenClaim := { program := "ytjnoejlccbfcjaa", sum := "1307d57ee9d51c48042b7058fa43a84c6907de0122b1c98d6b8a2956562bc1de", func := "loop.example/elevators/laws.FnCanStop", spec := "fnCanStop", recurses := true, apart := false }
def FnCanStopSaid : Prop := fnCanStopRow.holds Try.pinned (OpenSpec.ofChange fnCanStopSpec)

/-- ITS FALSE NEIGHBOUR: 'it returns false'. Refute it at one input. -/
def fnCanStopWrong : ChangeSpec := { name := "fnCanStop", fn := fun _ => fun
  | [d] => { results := [.lit (.bool false)], args := [d] }
  | _ => none }
def FnCanStopWrongFalsely : Prop := fnCanStopRow.holds Try.pinned (OpenSpec.ofChange fnCanStopWrong)

/-- 'laws.FnWithinLimit': WHATEVER THE INPUT: true; the input reads as it did. -/
def fnWithinLimitSpec : ChangeSpec := { name := "fnWithinLimit", fn := fun _ => fun
  | [d] => { results := [.lit (.bool true)], args := [d] }
  | _ => none }
def fnWithinLimitRow : OpenClaim := { program := "ytjnoejlccbfcjaa", sum := "1307d57ee9d51c48042b7058fa43a84c6907de0122b1c98d6b8a2956562bc1de", func := "loop.example/elevators/laws.FnWithinLimit", spec := "fnWithinLimit", recurses := true, apart := false }
def FnWithinLimitSaid : Prop := fnWithinLimitRow.holds Try.pinned (OpenSpec.ofChange fnWithinLimitSpec)

/-- ITS FALSE NEIGHBOUR: 'it returns false'. Refute it at one input. -/
def fnWithinLimitWrong : ChangeSpec := { name := "fnWithinLimit", fn := fun _ => fun
  | [d] => { results := [.lit (.bool false)], args := [d] }
  | _ => none }
def FnWithinLimitWrongFalsely : Prop := fnWithinLimitRow.holds Try.pinned (OpenSpec.ofChange fnWithinLimitWrong)

/-- 'laws.FnMotionStep': WHATEVER THE INPUT: true; the input reads as it did. -/
def fnMotionStepSpec : ChangeSpec := { name := "fnMotionStep", fn := fun _ => fun
  | [d] => { results := [.lit (.bool true)], args := [d] }
  | _ => none }
def fnMotionStepRow : OpenClaim := { program := "ytjnoejlccbfcjaa", sum := "1307d57ee9d51c48042b7058fa43a84c6907de0122b1c98d6b8a2956562bc1de", func := "loop.example/elevators/laws.FnMotionStep", spec := "fnMotionStep", recurses := true, apart := false }
def FnMotionStepSaid : Prop := fnMotionStepRow.holds Try.pinned (OpenSpec.ofChange fnMotionStepSpec)

/-- ITS FALSE NEIGHBOUR: 'it returns false'. Refute it at one input. -/
def fnMotionStepWrong : ChangeSpec := { name := "fnMotionStep", fn := fun _ => fun
  | [d] => { results := [.lit (.bool false)], args := [d] }
  | _ => none }
def FnMotionStepWrongFalsely : Prop := fnMotionStepRow.holds Try.pinned (OpenSpec.ofChange fnMotionStepWrong)

/- THE SECOND FORM. 'bulk': how many values and letters a reading holds, each counted each time it is reached (what is shared counts as often as it is met; a slice's spare places count too). A statement '..UptoSaid' is the law's where the arguments, and the package variables that the reading takes, are together of bulk at most 1048576: NARROWER than '..Said'. Prove '..Said' where nothing that the law and all that it calls make is longer than what came in: it says more and counts as full. Else prove '..UptoSaid'. A law counts once. -/
mutual
def uptoBulk {H : Type} : DataW H → Nat
  | .lit (.string bytes) => bytes.length + 1
  | .lit _ => 1
  | .nil => 1
  | .ptr d => uptoBulk d + 1
  | .slice elems spare => uptoBulkAll elems + uptoBulkAll spare + 1
  | .agg parts => uptoBulkAll parts + 1
  | .iface _ d => uptoBulk d + 1
  | .map entries => uptoBulkEntries entries + 1
  | .held _ => 1
def uptoBulkAll {H : Type} : List (DataW H) → Nat
  | [] => 0
  | d :: r => uptoBulk d + uptoBulkAll r
def uptoBulkEntries {H : Type} : List (Lit × DataW H) → Nat
  | [] => 0
  | x :: r => uptoBulkEntry x + uptoBulkEntries r
def uptoBulkEntry {H : Type} : Lit × DataW H → Nat
  | (.string bytes, d) => bytes.length + uptoBulk d + 1
  | (_, d) => uptoBulk d + 1
 end
def uptoSmall : (H : Type) → List (DataW H) → Bool := fun _ ds => decide (uptoBulkAll ds ≤ 1048576)
def OpenSpec.upto (s : _root_.Go.ChangeSpec) : _root_.Go.OpenSpec := { _root_.Go.OpenSpec.ofChange s with cond := some uptoSmall }

/-- 'laws.FnGovernorStep', WHERE WHAT IT READS IS OF BULK AT MOST 1048576: true; the input reads as it did. -/
def fnGovernorStepUptoRow : OpenClaim := { program := "ytjnoejlccbfcjaa", sum := "1307d57ee9d51c48042b7058fa43a84c6907de0122b1c98d6b8a2956562bc1de", func := "loop.example/elevators/laws.FnGovernorStep", spec := "fnGovernorStep", apart := false, narrowed := true }
def FnGovernorStepUptoSaid : Prop := fnGovernorStepUptoRow.holds Try.pinned (OpenSpec.upto fnGovernorStepSpec)

/-- 'laws.FnBrakeWay', WHERE WHAT IT READS IS OF BULK AT MOST 1048576: true; the input reads as it did. -/
def fnBrakeWayUptoRow : OpenClaim := { program := "ytjnoejlccbfcjaa", sum := "1307d57ee9d51c48042b7058fa43a84c6907de0122b1c98d6b8a2956562bc1de", func := "loop.example/elevators/laws.FnBrakeWay", spec := "fnBrakeWay", recurses := true, apart := false, narrowed := true }
def FnBrakeWayUptoSaid : Prop := fnBrakeWayUptoRow.holds Try.pinned (OpenSpec.upto fnBrakeWaySpec)

/-- 'laws.FnMotionValid', WHERE WHAT IT READS IS OF BULK AT MOST 1048576: true; the input reads as it did. -/
def fnMotionValidUptoRow : OpenClaim := { program := "ytjnoejlccbfcjaa", sum := "1307d57ee9d51c48042b7058fa43a84c6907de0122b1c98d6b8a2956562bc1de", func := "loop.example/elevators/laws.FnMotionValid", spec := "fnMotionValid", apart := false, narrowed := true }
def FnMotionValidUptoSaid : Prop := fnMotionValidUptoRow.holds Try.pinned (OpenSpec.upto fnMotionValidSpec)

/-- 'laws.FnDoorValid', WHERE WHAT IT READS IS OF BULK AT MOST 1048576: true; the input reads as it did. -/
def fnDoorValidUptoRow : OpenClaim := { program := "ytjnoejlccbfcjaa", sum := "1307d57ee9d51c48042b7058fa43a84c6907de0122b1c98d6b8a2956562bc1de", func := "loop.example/elevators/laws.FnDoorValid", spec := "fnDoorValid", apart := false, narrowed := true }
def FnDoorValidUptoSaid : Prop := fnDoorValidUptoRow.holds Try.pinned (OpenSpec.upto fnDoorValidSpec)

/-- 'laws.FnDoorStep', WHERE WHAT IT READS IS OF BULK AT MOST 1048576: true; the input reads as it did. -/
def fnDoorStepUptoRow : OpenClaim := { program := "ytjnoejlccbfcjaa", sum := "1307d57ee9d51c48042b7058fa43a84c6907de0122b1c98d6b8a2956562bc1de", func := "loop.example/elevators/laws.FnDoorStep", spec := "fnDoorStep", apart := false, narrowed := true }
def FnDoorStepUptoSaid : Prop := fnDoorStepUptoRow.holds Try.pinned (OpenSpec.upto fnDoorStepSpec)

/-- 'laws.FnGovernorRun', WHERE WHAT IT READS IS OF BULK AT MOST 1048576: true; the input reads as it did. -/
def fnGovernorRunUptoRow : OpenClaim := { program := "ytjnoejlccbfcjaa", sum := "1307d57ee9d51c48042b7058fa43a84c6907de0122b1c98d6b8a2956562bc1de", func := "loop.example/elevators/laws.FnGovernorRun", spec := "fnGovernorRun", apart := false, narrowed := true }
def FnGovernorRunUptoSaid : Prop := fnGovernorRunUptoRow.holds Try.pinned (OpenSpec.upto fnGovernorRunSpec)

/-- 'laws.FnSpeedLimit', WHERE WHAT IT READS IS OF BULK AT MOST 1048576: true; the input reads as it did. -/
def fnSpeedLimitUptoRow : OpenClaim := { program := "ytjnoejlccbfcjaa", sum := "1307d57ee9d51c48042b7058fa43a84c6907de0122b1c98d6b8a2956562bc1de", func := "loop.example/elevators/laws.FnSpeedLimit", spec := "fnSpeedLimit", recurses := true, apart := false, narrowed := true }
def FnSpeedLimitUptoSaid : Prop := fnSpeedLimitUptoRow.holds Try.pinned (OpenSpec.upto fnSpeedLimitSpec)

/-- 'laws.FnDoorTicks', WHERE WHAT IT READS IS OF BULK AT MOST 1048576: true; the input reads as it did. -/
def fnDoorTicksUptoRow : OpenClaim := { program := "ytjnoejlccbfcjaa", sum := "1307d57ee9d51c48042b7058fa43a84c6907de0122b1c98d6b8a2956562bc1de", func := "loop.example/elevators/laws.FnDoorTicks", spec := "fnDoorTicks", apart := false, narrowed := true }
def FnDoorTicksUptoSaid : Prop := fnDoorTicksUptoRow.holds Try.pinned (OpenSpec.upto fnDoorTicksSpec)

/-- 'laws.FnDoorRun', WHERE WHAT IT READS IS OF BULK AT MOST 1048576: true; the input reads as it did. -/
def fnDoorRunUptoRow : OpenClaim := { program := "ytjnoejlccbfcjaa", sum := "1307d57ee9d51c48042b7058fa43a84c6907de0122b1c98d6b8a2956562bc1de", func := "loop.example/elevators/laws.FnDoorRun", spec := "fnDoorRun", apart := false, narrowed := true }
def FnDoorRunUptoSaid : Prop := fnDoorRunUptoRow.holds Try.pinned (OpenSpec.upto fnDoorRunSpec)

/-- 'laws.FnCanStop', WHERE WHAT IT READS IS OF BULK AT MOST 1048576: true; the input reads as it did. -/
def fnCanStopUptoRow : OpenClaim := { program := "ytjnoejlccbfcjaa", sum := "1307d57ee9d51c48042b7058fa43a84c6907de0122b1c98d6b8a2956562bc1de", func := "loop.example/elevators/laws.FnCanStop", spec := "fnCanStop", recurses := true, apart := false, narrowed := true }
def FnCanStopUptoSaid : Prop := fnCanStopUptoRow.holds Try.pinned (OpenSpec.upto fnCanStopSpec)

/-- 'laws.FnWithinLimit', WHERE WHAT IT READS IS OF BULK AT MOST 1048576: true; the input reads as it did. -/
def fnWithinLimitUptoRow : OpenClaim := { program := "ytjnoejlccbfcjaa", sum := "1307d57ee9d51c48042b7058fa43a84c6907de0122b1c98d6b8a2956562bc1de", func := "loop.example/elevators/laws.FnWithinLimit", spec := "fnWithinLimit", recurses := true, apart := false, narrowed := true }
def FnWithinLimitUptoSaid : Prop := fnWithinLimitUptoRow.holds Try.pinned (OpenSpec.upto fnWithinLimitSpec)

/-- 'laws.FnMotionStep', WHERE WHAT IT READS IS OF BULK AT MOST 1048576: true; the input reads as it did. -/
def fnMotionStepUptoRow : OpenClaim := { program := "ytjnoejlccbfcjaa", sum := "1307d57ee9d51c48042b7058fa43a84c6907de0122b1c98d6b8a2956562bc1de", func := "loop.example/elevators/laws.FnMotionStep", spec := "fnMotionStep", recurses := true, apart := false, narrowed := true }
def FnMotionStepUptoSaid : Prop := fnMotionStepUptoRow.holds Try.pinned (OpenSpec.upto fnMotionStepSpec)

end Rows
end Go.Proofs.Ytjnoejlccbfcjaa
