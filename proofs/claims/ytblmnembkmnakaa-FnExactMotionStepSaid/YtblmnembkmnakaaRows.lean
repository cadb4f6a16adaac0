/-
  No cell of these rows narrows 'for every input' (looked for: loops, veiled, ifaces, maps, wideKeys, modest, calm, conditions, laid).
  DERIVED. THE GIVEN ROWS OF THIS SEAT. 12 by the template 'for every input the law returns true; each argument reads behind the call as it read before'; 0 by the template 'total and deterministic' (their statements: YtblmnembkmnakaaTotals.lean).
  GIVEN WITH THE SEED: the statements are not yours to turn. If you find one false, say at which input.
  Laid BY PROGRAM, IN A SANDBOX (cutbox-rows.mjs): the forced cells as the released guide's own fill.sh prints them over the translation d4bcd2f1f5b45f5f… (all of the seat's roots in one cut). By AI agents, Wed Nov 11 2026. No macro, syntax, notation, axiom, sorry.
-/
import Derived.Test.YtblmnembkmnakaaChecked
import GoSem.Claim
import GoSem.ClaimJoined
import GoSem.ClaimMapViews
import Derived.JoinedTies
import Derived.KernelRfl
namespace Go.Proofs.Ytblmnembkmnakaa
/- THE CELL 'sum', in the pinned program and in every row, IS THE sha256 OF THE DUMP (.gsa) THAT YtblmnembkmnakaaProg.lean LOADS. Nothing in Lean hashes anything: it is a label: what it is worth is what the hold of that sum in a sandbox is worth. -/
noncomputable def Try.pinned : Pinned := { name := "ytblmnembkmnakaa", sum := "d4bcd2f1f5b45f5fc319fbd6e69696cc99febdc9e66ceae93747da524362aad2", checked := Try.checked }
namespace Rows
def none {H : Type} : Left H := { results := [], args := [] }

/-- 'laws.FnExactConstants': WHATEVER THE INPUT: true; the input reads as it did. -/
def fnExactConstantsSpec : ChangeSpec := { name := "fnExactConstants", fn := fun _ => fun
  | [] => { results := [.lit (.bool true)], args := [] }
  | _ => none }
def fnExactConstantsRow : OpenClaim := { program := "ytblmnembkmnakaa", sum := "d4bcd2f1f5b45f5fc319fbd6e69696cc99febdc9e66ceae93747da524362aad2", func := "loop.example/elevators/laws.FnExactConstants", spec := "fnExactConstants", apart := false }
def FnExactConstantsSaid : Prop := fnExactConstantsRow.holds Try.pinned (OpenSpec.ofChange fnExactConstantsSpec)

/-- ITS FALSE NEIGHBOUR: 'it returns false'. Refute it at one input. -/
def fnExactConstantsWrong : ChangeSpec := { name := "fnExactConstants", fn := fun _ => fun
  | [] => { results := [.lit (.bool false)], args := [] }
  | _ => none }
def FnExactConstantsWrongFalsely : Prop := fnExactConstantsRow.holds Try.pinned (OpenSpec.ofChange fnExactConstantsWrong)

/-- 'laws.FnExactGovernorStep': WHATEVER THE INPUT: true; the input reads as it did. -/
def fnExactGovernorStepSpec : ChangeSpec := { name := "fnExactGovernorStep", fn := fun _ => fun
  | [d1, d2, d3] => { results := [.lit (.bool true)], args := [d1, d2, d3] }
  | _ => none }
def fnExactGovernorStepRow : OpenClaim := { program := "ytblmnembkmnakaa", sum := "d4bcd2f1f5b45f5fc319fbd6e69696cc99febdc9e66ceae93747da524362aad2", func := "loop.example/elevators/laws.FnExactGovernorStep", spec := "fnExactGovernorStep", apart := false }
def FnExactGovernorStepSaid : Prop := fnExactGovernorStepRow.holds Try.pinned (OpenSpec.ofChange fnExactGovernorStepSpec)

/-- ITS FALSE NEIGHBOUR: 'it returns false'. Refute it at one input. -/
def fnExactGovernorStepWrong : ChangeSpec := { name := "fnExactGovernorStep", fn := fun _ => fun
  | [d1, d2, d3] => { results := [.lit (.bool false)], args := [d1, d2, d3] }
  | _ => none }
def FnExactGovernorStepWrongFalsely : Prop := fnExactGovernorStepRow.holds Try.pinned (OpenSpec.ofChange fnExactGovernorStepWrong)

/-- 'laws.FnExactDoorValid': WHATEVER THE INPUT: true; the input reads as it did. -/
def fnExactDoorValidSpec : ChangeSpec := { name := "fnExactDoorValid", fn := fun _ => fun
  | [d] => { results := [.lit (.bool true)], args := [d] }
  | _ => none }
def fnExactDoorValidRow : OpenClaim := { program := "ytblmnembkmnakaa", sum := "d4bcd2f1f5b45f5fc319fbd6e69696cc99febdc9e66ceae93747da524362aad2", func := "loop.example/elevators/laws.FnExactDoorValid", spec := "fnExactDoorValid", apart := false }
def FnExactDoorValidSaid : Prop := fnExactDoorValidRow.holds Try.pinned (OpenSpec.ofChange fnExactDoorValidSpec)

/-- ITS FALSE NEIGHBOUR: 'it returns false'. Refute it at one input. -/
def fnExactDoorValidWrong : ChangeSpec := { name := "fnExactDoorValid", fn := fun _ => fun
  | [d] => { results := [.lit (.bool false)], args := [d] }
  | _ => none }
def FnExactDoorValidWrongFalsely : Prop := fnExactDoorValidRow.holds Try.pinned (OpenSpec.ofChange fnExactDoorValidWrong)

/-- 'laws.FnExactMotionValid': WHATEVER THE INPUT: true; the input reads as it did. -/
def fnExactMotionValidSpec : ChangeSpec := { name := "fnExactMotionValid", fn := fun _ => fun
  | [d] => { results := [.lit (.bool true)], args := [d] }
  | _ => none }
def fnExactMotionValidRow : OpenClaim := { program := "ytblmnembkmnakaa", sum := "d4bcd2f1f5b45f5fc319fbd6e69696cc99febdc9e66ceae93747da524362aad2", func := "loop.example/elevators/laws.FnExactMotionValid", spec := "fnExactMotionValid", apart := false }
def FnExactMotionValidSaid : Prop := fnExactMotionValidRow.holds Try.pinned (OpenSpec.ofChange fnExactMotionValidSpec)

/-- ITS FALSE NEIGHBOUR: 'it returns false'. Refute it at one input. -/
def fnExactMotionValidWrong : ChangeSpec := { name := "fnExactMotionValid", fn := fun _ => fun
  | [d] => { results := [.lit (.bool false)], args := [d] }
  | _ => none }
def FnExactMotionValidWrongFalsely : Prop := fnExactMotionValidRow.holds Try.pinned (OpenSpec.ofChange fnExactMotionValidWrong)

/-- 'laws.FnExactBrakeWay': WHATEVER THE INPUT: true; the input reads as it did. -/
def fnExactBrakeWaySpec : ChangeSpec := { name := "fnExactBrakeWay", fn := fun _ => fun
  | [d] => { results := [.lit (.bool true)], args := [d] }
  | _ => none }
def fnExactBrakeWayRow : OpenClaim := { program := "ytblmnembkmnakaa", sum := "d4bcd2f1f5b45f5fc319fbd6e69696cc99febdc9e66ceae93747da524362aad2", func := "loop.example/elevators/laws.FnExactBrakeWay", spec := "fnExactBrakeWay", recurses := true, apart := false }
def FnExactBrakeWaySaid : Prop := fnExactBrakeWayRow.holds Try.pinned (OpenSpec.ofChange fnExactBrakeWaySpec)

/-- ITS FALSE NEIGHBOUR: 'it returns false'. Refute it at one input. -/
def fnExactBrakeWayWrong : ChangeSpec := { name := "fnExactBrakeWay", fn := fun _ => fun
  | [d] => { results := [.lit (.bool false)], args := [d] }
  | _ => none }
def FnExactBrakeWayWrongFalsely : Prop := fnExactBrakeWayRow.holds Try.pinned (OpenSpec.ofChange fnExactBrakeWayWrong)

/-- 'laws.FnExactDoorTicks': WHATEVER THE INPUT: true; the input reads as it did. -/
def fnExactDoorTicksSpec : ChangeSpec := { name := "fnExactDoorTicks", fn := fun _ => fun
  | [d] => { results := [.lit (.bool true)], args := [d] }
  | _ => none }
def fnExactDoorTicksRow : OpenClaim := { program := "ytblmnembkmnakaa", sum := "d4bcd2f1f5b45f5fc319fbd6e69696cc99febdc9e66ceae93747da524362aad2", func := "loop.example/elevators/laws.FnExactDoorTicks", spec := "fnExactDoorTicks", apart := false }
def FnExactDoorTicksSaid : Prop := fnExactDoorTicksRow.holds Try.pinned (OpenSpec.ofChange fnExactDoorTicksSpec)

/-- ITS FALSE NEIGHBOUR: 'it returns false'. Refute it at one input. -/
def fnExactDoorTicksWrong : ChangeSpec := { name := "fnExactDoorTicks", fn := fun _ => fun
  | [d] => { results := [.lit (.bool false)], args := [d] }
  | _ => none }
def FnExactDoorTicksWrongFalsely : Prop := fnExactDoorTicksRow.holds Try.pinned (OpenSpec.ofChange fnExactDoorTicksWrong)

/-- 'laws.FnExactSpeedLimit': WHATEVER THE INPUT: true; the input reads as it did. -/
def fnExactSpeedLimitSpec : ChangeSpec := { name := "fnExactSpeedLimit", fn := fun _ => fun
  | [d1, d2] => { results := [.lit (.bool true)], args := [d1, d2] }
  | _ => none }
def fnExactSpeedLimitRow : OpenClaim := { program := "ytblmnembkmnakaa", sum := "d4bcd2f1f5b45f5fc319fbd6e69696cc99febdc9e66ceae93747da524362aad2", func := "loop.example/elevators/laws.FnExactSpeedLimit", spec := "fnExactSpeedLimit", recurses := true, apart := false }
def FnExactSpeedLimitSaid : Prop := fnExactSpeedLimitRow.holds Try.pinned (OpenSpec.ofChange fnExactSpeedLimitSpec)

/-- ITS FALSE NEIGHBOUR: 'it returns false'. Refute it at one input. -/
def fnExactSpeedLimitWrong : ChangeSpec := { name := "fnExactSpeedLimit", fn := fun _ => fun
  | [d1, d2] => { results := [.lit (.bool false)], args := [d1, d2] }
  | _ => none }
def FnExactSpeedLimitWrongFalsely : Prop := fnExactSpeedLimitRow.holds Try.pinned (OpenSpec.ofChange fnExactSpeedLimitWrong)

/-- 'laws.FnExactDoorStep': WHATEVER THE INPUT: true; the input reads as it did. -/
def fnExactDoorStepSpec : ChangeSpec := { name := "fnExactDoorStep", fn := fun _ => fun
  | [d1, d2, d3] => { results := [.lit (.bool true)], args := [d1, d2, d3] }
  | _ => none }
def fnExactDoorStepRow : OpenClaim := { program := "ytblmnembkmnakaa", sum := "d4bcd2f1f5b45f5fc319fbd6e69696cc99febdc9e66ceae93747da524362aad2", func := "loop.example/elevators/laws.FnExactDoorStep", spec := "fnExactDoorStep", apart := false }
def FnExactDoorStepSaid : Prop := fnExactDoorStepRow.holds Try.pinned (OpenSpec.ofChange fnExactDoorStepSpec)

/-- ITS FALSE NEIGHBOUR: 'it returns false'. Refute it at one input. -/
def fnExactDoorStepWrong : ChangeSpec := { name := "fnExactDoorStep", fn := fun _ => fun
  | [d1, d2, d3] => { results := [.lit (.bool false)], args := [d1, d2, d3] }
  | _ => none }
def FnExactDoorStepWrongFalsely : Prop := fnExactDoorStepRow.holds Try.pinned (OpenSpec.ofChange fnExactDoorStepWrong)

/-- 'laws.FnExactCanStop': WHATEVER THE INPUT: true; the input reads as it did. -/
def fnExactCanStopSpec : ChangeSpec := { name := "fnExactCanStop", fn := fun _ => fun
  | [d1, d2] => { results := [.lit (.bool true)], args := [d1, d2] }
  | _ => none }
def fnExactCanStopRow : OpenClaim := { program := "ytblmnembkmnakaa", sum := "d4bcd2f1f5b45f5fc319fbd6e69696cc99febdc9e66ceae93747da524362aad2", func := "loop.example/elevators/laws.FnExactCanStop", spec := "fnExactCanStop", recurses := true, apart := false }
def FnExactCanStopSaid : Prop := fnExactCanStopRow.holds Try.pinned (OpenSpec.ofChange fnExactCanStopSpec)

/-- ITS FALSE NEIGHBOUR: 'it returns false'. Refute it at one input. -/
def fnExactCanStopWrong : ChangeSpec := { name := "fnExactCanStop", fn := fun _ => fun
  | [d1, d2] => { results := [.lit (.bool false)], args := [d1, d2] }
  | _ => none }
def FnExactCanStopWrongFalsely : Prop := fnExactCanStopRow.holds Try.pinned (OpenSpec.ofChange fnExactCanStopWrong)

/-- 'laws.FnExactWithinLimit': WHATEVER THE INPUT: true; the input reads as it did. -/
def fnExactWithinLimitSpec : ChangeSpec := { name := "fnExactWithinLimit", fn := fun _ => fun
  | [d] => { results := [.lit (.bool true)], args := [d] }
  | _ => none }
def fnExactWithinLimitRow : OpenClaim := { program := "ytblmnembkmnakaa", sum := "d4bcd2f1f5b45f5fc319fbd6e69696cc99febdc9e66ceae93747da524362aad2", func := "loop.example/elevators/laws.FnExactWithinLimit", spec := "fnExactWithinLimit", recurses := true, apart := false }
def FnExactWithinLimitSaid : Prop := fnExactWithinLimitRow.holds Try.pinned (OpenSpec.ofChange fnExactWithinLimitSpec)

/-- ITS FALSE NEIGHBOUR: 'it returns false'. Refute it at one input. -/
def fnExactWithinLimitWrong : ChangeSpec := { name := "fnExactWithinLimit", fn := fun _ => fun
  | [d] => { results := [.lit (.bool false)], args := [d] }
  | _ => none }
def FnExactWithinLimitWrongFalsely : Prop := fnExactWithinLimitRow.holds Try.pinned (OpenSpec.ofChange fnExactWithinLimitWrong)

/-- 'laws.FnExactMotionStep': WHATEVER THE INPUT: true; the input reads as it did. -/
def fnExactMotionStepSpec : ChangeSpec := { name := "fnExactMotionStep", fn := fun _ => fun
  | [d1, d2] => { results := [.lit (.bool true)], args := [d1, d2] }
  | _ => none }
def fnExactMotionStepRow : OpenClaim := { program := "ytblmnembkmnakaa", sum := "d4bcd2f1f5b45f5fc319fbd6e69696cc99febdc9e66ceae93747da524362aad2", func := "loop.example/elevators/laws.FnExactMotionStep", spec := "fnExactMotionStep", recurses := true, apart := false }
def FnExactMotionStepSaid : Prop := fnExactMotionStepRow.holds Try.pinned (OpenSpec.ofChange fnExactMotionStepSpec)

/-- ITS FALSE NEIGHBOUR: 'it returns false'. Refute it at one input. -/
def fnExactMotionStepWrong : ChangeSpec := { name := "fnExactMotionStep", fn := fun _ => fun
  | [d1, d2] => { results := [.lit (.bool false)], args := [d1, d2] }
  | _ => none }
def FnExactMotionStepWrongFalsely : Prop := fnExactMotionStepRow.holds Try.pinned (OpenSpec.ofChange fnExactMotionStepWrong)

/-- 'laws.FnExactMotionTicks': WHATEVER THE INPUT: true; the input reads as it did. -/
def fnExactMotionTicksSpec : ChangeSpec := { name := "fnExactMotionTicks", fn := fun _ => fun
  | [d1, d2] => { results := [.lit (.bool true)], args := [d1, d2] }
  | _ => none }
def fnExactMotionTicksRow : OpenClaim := { program := "ytblmnembkmnakaa", sum := "d4bcd2f1f5b45f5fc319fbd6e69696cc99febdc9e66ceae93747da524362aad2", func := "loop.example/elevators/laws.FnExactMotionTicks", spec := "fnExactMotionTicks", recurses := true, apart := false }
def FnExactMotionTicksSaid : Prop := fnExactMotionTicksRow.holds Try.pinned (OpenSpec.ofChange fnExactMotionTicksSpec)

/-- ITS FALSE NEIGHBOUR: 'it returns false'. Refute it at one input. -/
def fnExactMotionTicksWrong : ChangeSpec := { name := "fnExactMotionTicks", fn := fun _ => fun
  | [d1, d2] => { results := [.lit (.bool false)], args := [d1, d2] }
  | _ => none }
def FnExactMotionTicksWrongFalsely : Prop := fnExactMotionTicksRow.holds Try.pinned (OpenSpec.ofChange fnExactMotionTicksWrong)

/- THE SECOND FORM. 'bulk': how many values and letters a reading holds, each counted each time it is reached (what is shared counts as often as it is met; a slice's spare places count too). A statement '..UptoSaid' is the law's where the arguments, and the package variables that the reading takes, are together of bulk at most 1048576: NARROWER than '..Said'. Prove '..Said' where nothing that the law and all that it calls make is longer than what came in: it says more and counts as full. Else prove '..UptoSaid'. A law counts once. -/
mutual
def uptoBulk {H : Type} : DataW H → Nat
  | .lit (.string bytes) => bytes.length + 1
  | .lit _ => 1
  | .nil => 1
  | .ptr d => uptoBulk d + 1
  | .slice elems spare => uptoBulkAll elems + uptoBulkAll spare + 1
  | .agg parts => uptoBulkAll parts + 1
  | .iface _ d => uptoBulk d + 1
  | .map entries => uptoBulkEntries entries + 1
  | .held _ => 1
def uptoBulkAll {H : Type} : List (DataW H) → Nat
  | [] => 0
  | d :: r => uptoBulk d + uptoBulkAll r
def uptoBulkEntries {H : Type} : List (Lit × DataW H) → Nat
  | [] => 0
  | x :: r => uptoBulkEntry x + uptoBulkEntries r
def uptoBulkEntry {H : Type} : Lit × DataW H → Nat
  | (.string bytes, d) => bytes.length + uptoBulk d + 1
  | (_, d) => uptoBulk d + 1
 end
def uptoSmall : (H : Type) → List (DataW H) → Bool := fun _ ds => decide (uptoBulkAll ds ≤ 1048576)
def OpenSpec.upto (s : _root_.Go.ChangeSpec) : _root_.Go.OpenSpec := { _root_.Go.OpenSpec.ofChange s with cond := some uptoSmall }

/-- 'laws.FnExactConstants', WHERE WHAT IT READS IS OF BULK AT MOST 1048576: true; the input reads as it did. -/
def fnExactConstantsUptoRow : OpenClaim := { program := "ytblmnembkmnakaa", sum := "d4bcd2f1f5b45f5fc319fbd6e69696cc99febdc9e66ceae93747da524362aad2", func := "loop.example/elevators/laws.FnExactConstants", spec := "fnExactConstants", apart := false, narrowed := true }
def FnExactConstantsUptoSaid : Prop := fnExactConstantsUptoRow.holds Try.pinned (OpenSpec.upto fnExactConstantsSpec)

/-- 'laws.FnExactGovernorStep', WHERE WHAT IT READS IS OF BULK AT MOST 1048576: true; the input reads as it did. -/
def fnExactGovernorStepUptoRow : OpenClaim := { program := "ytblmnembkmnakaa", sum := "d4bcd2f1f5b45f5fc319fbd6e69696cc99febdc9e66ceae93747da524362aad2", func := "loop.example/elevators/laws.FnExactGovernorStep", spec := "fnExactGovernorStep", apart := false, narrowed := true }
def FnExactGovernorStepUptoSaid : Prop := fnExactGovernorStepUptoRow.holds Try.pinned (OpenSpec.upto fnExactGovernorStepSpec)

/-- 'laws.FnExactDoorValid', WHERE WHAT IT READS IS OF BULK AT MOST 1048576: true; the input reads as it did. -/
def fnExactDoorValidUptoRow : OpenClaim := { program := "ytblmnembkmnakaa", sum := "d4bcd2f1f5b45f5fc319fbd6e69696cc99febdc9e66ceae93747da524362aad2", func := "loop.example/elevators/laws.FnExactDoorValid", spec := "fnExactDoorValid", apart := false, narrowed := true }
def FnExactDoorValidUptoSaid : Prop := fnExactDoorValidUptoRow.holds Try.pinned (OpenSpec.upto fnExactDoorValidSpec)

/-- 'laws.FnExactMotionValid', WHERE WHAT IT READS IS OF BULK AT MOST 1048576: true; the input reads as it did. -/
def fnExactMotionValidUptoRow : OpenClaim := { program := "ytblmnembkmnakaa", sum := "d4bcd2f1f5b45f5fc319fbd6e69696cc99febdc9e66ceae93747da524362aad2", func := "loop.example/elevators/laws.FnExactMotionValid", spec := "fnExactMotionValid", apart := false, narrowed := true }
def FnExactMotionValidUptoSaid : Prop := fnExactMotionValidUptoRow.holds Try.pinned (OpenSpec.upto fnExactMotionValidSpec)

/-- 'laws.FnExactBrakeWay', WHERE WHAT IT READS IS OF BULK AT MOST 1048576: true; the input reads as it did. -/
def fnExactBrakeWayUptoRow : OpenClaim := { program := "ytblmnembkmnakaa", sum := "d4bcd2f1f5b45f5fc319fbd6e69696cc99febdc9e66ceae93747da524362aad2", func := "loop.example/elevators/laws.FnExactBrakeWay", spec := "fnExactBrakeWay", recurses := true, apart := false, narrowed := true }
def FnExactBrakeWayUptoSaid : Prop := fnExactBrakeWayUptoRow.holds Try.pinned (OpenSpec.upto fnExactBrakeWaySpec)

/-- 'laws.FnExactDoorTicks', WHERE WHAT IT READS IS OF BULK AT MOST 1048576: true; the input reads as it did. -/
def fnExactDoorTicksUptoRow : OpenClaim := { program := "ytblmnembkmnakaa", sum := "d4bcd2f1f5b45f5fc319fbd6e69696cc99febdc9e66ceae93747da524362aad2", func := "loop.example/elevators/laws.FnExactDoorTicks", spec := "fnExactDoorTicks", apart := false, narrowed := true }
def FnExactDoorTicksUptoSaid : Prop := fnExactDoorTicksUptoRow.holds Try.pinned (OpenSpec.upto fnExactDoorTicksSpec)

/-- 'laws.FnExactSpeedLimit', WHERE WHAT IT READS IS OF BULK AT MOST 1048576: true; the input reads as it did. -/
def fnExactSpeedLimitUptoRow : OpenClaim := { program := "ytblmnembkmnakaa", sum := "d4bcd2f1f5b45f5fc319fbd6e69696cc99febdc9e66ceae93747da524362aad2", func := "loop.example/elevators/laws.FnExactSpeedLimit", spec := "fnExactSpeedLimit", recurses := true, apart := false, narrowed := true }
def FnExactSpeedLimitUptoSaid : Prop := fnExactSpeedLimitUptoRow.holds Try.pinned (OpenSpec.upto fnExactSpeedLimitSpec)

/-- 'laws.FnExactDoorStep', WHERE WHAT IT READS IS OF BULK AT MOST 1048576: true; the input reads as it did. -/
def fnExactDoorStepUptoRow : OpenClaim := { program := "ytblmnembkmnakaa", sum := "d4bcd2f1f5b45f5fc319fbd6e69696cc99febdc9e66ceae93747da524362aad2", func := "loop.example/elevators/laws.FnExactDoorStep", spec := "fnExactDoorStep", apart := false, narrowed := true }
def FnExactDoorStepUptoSaid : Prop := fnExactDoorStepUptoRow.holds Try.pinned (OpenSpec.upto fnExactDoorStepSpec)

/-- 'laws.FnExactCanStop', WHERE WHAT IT READS IS OF BULK AT MOST 1048576: true; the input reads as it did. -/
def fnExactCanStopUptoRow : OpenClaim := { program := "ytblmnembkmnakaa", sum := "d4bcd2f1f5b45f5fc319fbd6e69696cc99febdc9e66ceae93747da524362aad2", func := "loop.example/elevators/laws.FnExactCanStop", spec := "fnExactCanStop", recurses := true, apart := false, narrowed := true }
def FnExactCanStopUptoSaid : Prop := fnExactCanStopUptoRow.holds Try.pinned (OpenSpec.upto fnExactCanStopSpec)

/-- 'laws.FnExactWithinLimit', WHERE WHAT IT READS IS OF BULK AT MOST 1048576: true; the input reads as it did. -/
def fnExactWithinLimitUptoRow : OpenClaim := { program := "ytblmnembkmnakaa", sum := "d4bcd2f1f5b45f5fc319fbd6e69696cc99febdc9e66ceae93747da524362aad2", func := "loop.example/elevators/laws.FnExactWithinLimit", spec := "fnExactWithinLimit", recurses := true, apart := false, narrowed := true }
def FnExactWithinLimitUptoSaid : Prop := fnExactWithinLimitUptoRow.holds Try.pinned (OpenSpec.upto fnExactWithinLimitSpec)

/-- 'laws.FnExactMotionStep', WHERE WHAT IT READS IS OF BULK AT MOST 1048576: true; the input reads as it did. -/
def fnExactMotionStepUptoRow : OpenClaim := { program := "ytblmnembkmnakaa", sum := "d4bcd2f1f5b45f5fc319fbd6e69696cc99febdc9e66ceae93747da524362aad2", func := "loop.example/elevators/laws.FnExactMotionStep", spec := "fnExactMotionStep", recurses := true, apart := false, narrowed := true }
def FnExactMotionStepUptoSaid : Prop := fnExactMotionStepUptoRow.holds Try.pinned (OpenSpec.upto fnExactMotionStepSpec)

/-- 'laws.FnExactMotionTicks', WHERE WHAT IT READS IS OF BULK AT MOST 1048576: true; the input reads as it did. -/
def fnExactMotionTicksUptoRow : OpenClaim := { program := "ytblmnembkmnakaa", sum := "d4bcd2f1f5b45f5fc319fbd6e69696cc99febdc9e66ceae93747da524362aad2", func := "loop.example/elevators/laws.FnExactMotionTicks", spec := "fnExactMotionTicks", recurses := true, apart := false, narrowed := true }
def FnExactMotionTicksUptoSaid : Prop := fnExactMotionTicksUptoRow.holds Try.pinned (OpenSpec.upto fnExactMotionTicksSpec)

end Rows
end Go.Proofs.Ytblmnembkmnakaa
