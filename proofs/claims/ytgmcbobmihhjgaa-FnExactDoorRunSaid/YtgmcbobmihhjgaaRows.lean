/-
  No cell of these rows narrows 'for every input' (looked for: loops, veiled, ifaces, maps, wideKeys, modest, calm, conditions, laid).
  DERIVED. THE GIVEN ROWS OF THIS SEAT. 12 by the template 'for every input the law returns true; each argument reads behind the call as it read before'; 0 by the template 'total and deterministic' (their statements: YtgmcbobmihhjgaaTotals.lean).
  GIVEN WITH THE SEED: the statements are not yours to turn. If you find one false, say at which input.
  Laid BY PROGRAM, IN A SANDBOX (cutbox-rows.mjs): the forced cells as the released guide's own fill.sh prints them over the translation 6b45fadd5bceb715… (all of the seat's roots in one cut). By AI agents, Wed Nov 11 2026. No macro, syntax, notation, axiom, sorry.
-/
import Derived.Test.YtgmcbobmihhjgaaChecked
import GoSem.Claim
import GoSem.ClaimJoined
import GoSem.ClaimMapViews
import Derived.JoinedTies
import Derived.KernelRfl
namespace Go.Proofs.Ytgmcbobmihhjgaa
/- THE CELL 'sum', in the pinned program and in every row, IS THE sha256 OF THE DUMP (.gsa) THAT YtgmcbobmihhjgaaProg.lean LOADS. Nothing in Lean hashes anything: it is a label: what it is worth is what the hold of that sum in a sandbox is worth. -/
noncomputable def Try.pinned : Pinned := { name := "ytgmcbobmihhjgaa", sum := "6b45fadd5bceb715502173a62f51075582a7ef7be262afc7c71685ec40b5956e", checked := Try.checked }
namespace Rows
def none {H : Type} : Left H := { results := [], args := [] }

/-- 'laws.FnExactFloorsValid': WHATEVER THE INPUT: true; the input reads as it did. -/
def fnExactFloorsValidSpec : ChangeSpec := { name := "fnExactFloorsValid", fn := fun _ => fun
  | [d] => { results := [.lit (.bool true)], args := [d] }
  | _ => none }
def fnExactFloorsValidRow : OpenClaim := { program := "ytgmcbobmihhjgaa", sum := "6b45fadd5bceb715502173a62f51075582a7ef7be262afc7c71685ec40b5956e", func := "loop.example/elevators/laws.FnExactFloorsValid", spec := "fnExactFloorsValid", apart := false }
def FnExactFloorsValidSaid : Prop := fnExactFloorsValidRow.holds Try.pinned (OpenSpec.ofChange fnExactFloorsValidSpec)

/-- ITS FALSE NEIGHBOUR: 'it returns false'. Refute it at one input. -/
def fnExactFloorsValidWrong : ChangeSpec := { name := "fnExactFloorsValid", fn := fun _ => fun
  | [d] => { results := [.lit (.bool false)], args := [d] }
  | _ => none }
def FnExactFloorsValidWrongFalsely : Prop := fnExactFloorsValidRow.holds Try.pinned (OpenSpec.ofChange fnExactFloorsValidWrong)

/-- 'laws.FnExactLoadSum': WHATEVER THE INPUT: true; the input reads as it did. -/
def fnExactLoadSumSpec : ChangeSpec := { name := "fnExactLoadSum", fn := fun _ => fun
  | [d] => { results := [.lit (.bool true)], args := [d] }
  | _ => none }
def fnExactLoadSumRow : OpenClaim := { program := "ytgmcbobmihhjgaa", sum := "6b45fadd5bceb715502173a62f51075582a7ef7be262afc7c71685ec40b5956e", func := "loop.example/elevators/laws.FnExactLoadSum", spec := "fnExactLoadSum", apart := false }
def FnExactLoadSumSaid : Prop := fnExactLoadSumRow.holds Try.pinned (OpenSpec.ofChange fnExactLoadSumSpec)

/-- ITS FALSE NEIGHBOUR: 'it returns false'. Refute it at one input. -/
def fnExactLoadSumWrong : ChangeSpec := { name := "fnExactLoadSum", fn := fun _ => fun
  | [d] => { results := [.lit (.bool false)], args := [d] }
  | _ => none }
def FnExactLoadSumWrongFalsely : Prop := fnExactLoadSumRow.holds Try.pinned (OpenSpec.ofChange fnExactLoadSumWrong)

/-- 'laws.FnExactOverloaded': WHATEVER THE INPUT: true; the input reads as it did. -/
def fnExactOverloadedSpec : ChangeSpec := { name := "fnExactOverloaded", fn := fun _ => fun
  | [d] => { results := [.lit (.bool true)], args := [d] }
  | _ => none }
def fnExactOverloadedRow : OpenClaim := { program := "ytgmcbobmihhjgaa", sum := "6b45fadd5bceb715502173a62f51075582a7ef7be262afc7c71685ec40b5956e", func := "loop.example/elevators/laws.FnExactOverloaded", spec := "fnExactOverloaded", apart := false }
def FnExactOverloadedSaid : Prop := fnExactOverloadedRow.holds Try.pinned (OpenSpec.ofChange fnExactOverloadedSpec)

/-- ITS FALSE NEIGHBOUR: 'it returns false'. Refute it at one input. -/
def fnExactOverloadedWrong : ChangeSpec := { name := "fnExactOverloaded", fn := fun _ => fun
  | [d] => { results := [.lit (.bool false)], args := [d] }
  | _ => none }
def FnExactOverloadedWrongFalsely : Prop := fnExactOverloadedRow.holds Try.pinned (OpenSpec.ofChange fnExactOverloadedWrong)

/-- 'laws.FnExactFloorAt': WHATEVER THE INPUT: true; the input reads as it did. -/
def fnExactFloorAtSpec : ChangeSpec := { name := "fnExactFloorAt", fn := fun _ => fun
  | [d1, d2] => { results := [.lit (.bool true)], args := [d1, d2] }
  | _ => none }
def fnExactFloorAtRow : OpenClaim := { program := "ytgmcbobmihhjgaa", sum := "6b45fadd5bceb715502173a62f51075582a7ef7be262afc7c71685ec40b5956e", func := "loop.example/elevators/laws.FnExactFloorAt", spec := "fnExactFloorAt", apart := false }
def FnExactFloorAtSaid : Prop := fnExactFloorAtRow.holds Try.pinned (OpenSpec.ofChange fnExactFloorAtSpec)

/-- ITS FALSE NEIGHBOUR: 'it returns false'. Refute it at one input. -/
def fnExactFloorAtWrong : ChangeSpec := { name := "fnExactFloorAt", fn := fun _ => fun
  | [d1, d2] => { results := [.lit (.bool false)], args := [d1, d2] }
  | _ => none }
def FnExactFloorAtWrongFalsely : Prop := fnExactFloorAtRow.holds Try.pinned (OpenSpec.ofChange fnExactFloorAtWrong)

/-- 'laws.FnExactGovernorRun': WHATEVER THE INPUT: true; the input reads as it did. -/
def fnExactGovernorRunSpec : ChangeSpec := { name := "fnExactGovernorRun", fn := fun _ => fun
  | [d1, d2, d3] => { results := [.lit (.bool true)], args := [d1, d2, d3] }
  | _ => none }
def fnExactGovernorRunRow : OpenClaim := { program := "ytgmcbobmihhjgaa", sum := "6b45fadd5bceb715502173a62f51075582a7ef7be262afc7c71685ec40b5956e", func := "loop.example/elevators/laws.FnExactGovernorRun", spec := "fnExactGovernorRun", apart := false }
def FnExactGovernorRunSaid : Prop := fnExactGovernorRunRow.holds Try.pinned (OpenSpec.ofChange fnExactGovernorRunSpec)

/-- ITS FALSE NEIGHBOUR: 'it returns false'. Refute it at one input. -/
def fnExactGovernorRunWrong : ChangeSpec := { name := "fnExactGovernorRun", fn := fun _ => fun
  | [d1, d2, d3] => { results := [.lit (.bool false)], args := [d1, d2, d3] }
  | _ => none }
def FnExactGovernorRunWrongFalsely : Prop := fnExactGovernorRunRow.holds Try.pinned (OpenSpec.ofChange fnExactGovernorRunWrong)

/-- 'laws.FnExactFloorBelow': WHATEVER THE INPUT: true; the input reads as it did. -/
def fnExactFloorBelowSpec : ChangeSpec := { name := "fnExactFloorBelow", fn := fun _ => fun
  | [d1, d2] => { results := [.lit (.bool true)], args := [d1, d2] }
  | _ => none }
def fnExactFloorBelowRow : OpenClaim := { program := "ytgmcbobmihhjgaa", sum := "6b45fadd5bceb715502173a62f51075582a7ef7be262afc7c71685ec40b5956e", func := "loop.example/elevators/laws.FnExactFloorBelow", spec := "fnExactFloorBelow", apart := false }
def FnExactFloorBelowSaid : Prop := fnExactFloorBelowRow.holds Try.pinned (OpenSpec.ofChange fnExactFloorBelowSpec)

/-- ITS FALSE NEIGHBOUR: 'it returns false'. Refute it at one input. -/
def fnExactFloorBelowWrong : ChangeSpec := { name := "fnExactFloorBelow", fn := fun _ => fun
  | [d1, d2] => { results := [.lit (.bool false)], args := [d1, d2] }
  | _ => none }
def FnExactFloorBelowWrongFalsely : Prop := fnExactFloorBelowRow.holds Try.pinned (OpenSpec.ofChange fnExactFloorBelowWrong)

/-- 'laws.FnExactFloorWay': WHATEVER THE INPUT: true; the input reads as it did. -/
def fnExactFloorWaySpec : ChangeSpec := { name := "fnExactFloorWay", fn := fun _ => fun
  | [d1, d2, d3] => { results := [.lit (.bool true)], args := [d1, d2, d3] }
  | _ => none }
def fnExactFloorWayRow : OpenClaim := { program := "ytgmcbobmihhjgaa", sum := "6b45fadd5bceb715502173a62f51075582a7ef7be262afc7c71685ec40b5956e", func := "loop.example/elevators/laws.FnExactFloorWay", spec := "fnExactFloorWay", apart := false }
def FnExactFloorWaySaid : Prop := fnExactFloorWayRow.holds Try.pinned (OpenSpec.ofChange fnExactFloorWaySpec)

/-- ITS FALSE NEIGHBOUR: 'it returns false'. Refute it at one input. -/
def fnExactFloorWayWrong : ChangeSpec := { name := "fnExactFloorWay", fn := fun _ => fun
  | [d1, d2, d3] => { results := [.lit (.bool false)], args := [d1, d2, d3] }
  | _ => none }
def FnExactFloorWayWrongFalsely : Prop := fnExactFloorWayRow.holds Try.pinned (OpenSpec.ofChange fnExactFloorWayWrong)

/-- 'laws.FnExactTripWork': WHATEVER THE INPUT: true; the input reads as it did. -/
def fnExactTripWorkSpec : ChangeSpec := { name := "fnExactTripWork", fn := fun _ => fun
  | [d1, d2, d3, d4] => { results := [.lit (.bool true)], args := [d1, d2, d3, d4] }
  | _ => none }
def fnExactTripWorkRow : OpenClaim := { program := "ytgmcbobmihhjgaa", sum := "6b45fadd5bceb715502173a62f51075582a7ef7be262afc7c71685ec40b5956e", func := "loop.example/elevators/laws.FnExactTripWork", spec := "fnExactTripWork", apart := false }
def FnExactTripWorkSaid : Prop := fnExactTripWorkRow.holds Try.pinned (OpenSpec.ofChange fnExactTripWorkSpec)

/-- ITS FALSE NEIGHBOUR: 'it returns false'. Refute it at one input. -/
def fnExactTripWorkWrong : ChangeSpec := { name := "fnExactTripWork", fn := fun _ => fun
  | [d1, d2, d3, d4] => { results := [.lit (.bool false)], args := [d1, d2, d3, d4] }
  | _ => none }
def FnExactTripWorkWrongFalsely : Prop := fnExactTripWorkRow.holds Try.pinned (OpenSpec.ofChange fnExactTripWorkWrong)

/-- 'laws.FnExactLoadFirst': WHATEVER THE INPUT: true; the input reads as it did. -/
def fnExactLoadFirstSpec : ChangeSpec := { name := "fnExactLoadFirst", fn := fun _ => fun
  | [d] => { results := [.lit (.bool true)], args := [d] }
  | _ => none }
def fnExactLoadFirstRow : OpenClaim := { program := "ytgmcbobmihhjgaa", sum := "6b45fadd5bceb715502173a62f51075582a7ef7be262afc7c71685ec40b5956e", func := "loop.example/elevators/laws.FnExactLoadFirst", spec := "fnExactLoadFirst", apart := false }
def FnExactLoadFirstSaid : Prop := fnExactLoadFirstRow.holds Try.pinned (OpenSpec.ofChange fnExactLoadFirstSpec)

/-- ITS FALSE NEIGHBOUR: 'it returns false'. Refute it at one input. -/
def fnExactLoadFirstWrong : ChangeSpec := { name := "fnExactLoadFirst", fn := fun _ => fun
  | [d] => { results := [.lit (.bool false)], args := [d] }
  | _ => none }
def FnExactLoadFirstWrongFalsely : Prop := fnExactLoadFirstRow.holds Try.pinned (OpenSpec.ofChange fnExactLoadFirstWrong)

/-- 'laws.FnExactFloorNear': WHATEVER THE INPUT: true; the input reads as it did. -/
def fnExactFloorNearSpec : ChangeSpec := { name := "fnExactFloorNear", fn := fun _ => fun
  | [d1, d2] => { results := [.lit (.bool true)], args := [d1, d2] }
  | _ => none }
def fnExactFloorNearRow : OpenClaim := { program := "ytgmcbobmihhjgaa", sum := "6b45fadd5bceb715502173a62f51075582a7ef7be262afc7c71685ec40b5956e", func := "loop.example/elevators/laws.FnExactFloorNear", spec := "fnExactFloorNear", apart := false }
def FnExactFloorNearSaid : Prop := fnExactFloorNearRow.holds Try.pinned (OpenSpec.ofChange fnExactFloorNearSpec)

/-- ITS FALSE NEIGHBOUR: 'it returns false'. Refute it at one input. -/
def fnExactFloorNearWrong : ChangeSpec := { name := "fnExactFloorNear", fn := fun _ => fun
  | [d1, d2] => { results := [.lit (.bool false)], args := [d1, d2] }
  | _ => none }
def FnExactFloorNearWrongFalsely : Prop := fnExactFloorNearRow.holds Try.pinned (OpenSpec.ofChange fnExactFloorNearWrong)

/-- 'laws.FnExactTourWork': WHATEVER THE INPUT: true; the input reads as it did. -/
def fnExactTourWorkSpec : ChangeSpec := { name := "fnExactTourWork", fn := fun _ => fun
  | [d1, d2, d3] => { results := [.lit (.bool true)], args := [d1, d2, d3] }
  | _ => none }
def fnExactTourWorkRow : OpenClaim := { program := "ytgmcbobmihhjgaa", sum := "6b45fadd5bceb715502173a62f51075582a7ef7be262afc7c71685ec40b5956e", func := "loop.example/elevators/laws.FnExactTourWork", spec := "fnExactTourWork", apart := false }
def FnExactTourWorkSaid : Prop := fnExactTourWorkRow.holds Try.pinned (OpenSpec.ofChange fnExactTourWorkSpec)

/-- ITS FALSE NEIGHBOUR: 'it returns false'. Refute it at one input. -/
def fnExactTourWorkWrong : ChangeSpec := { name := "fnExactTourWork", fn := fun _ => fun
  | [d1, d2, d3] => { results := [.lit (.bool false)], args := [d1, d2, d3] }
  | _ => none }
def FnExactTourWorkWrongFalsely : Prop := fnExactTourWorkRow.holds Try.pinned (OpenSpec.ofChange fnExactTourWorkWrong)

/-- 'laws.FnExactDoorRun': WHATEVER THE INPUT: true; the input reads as it did. -/
def fnExactDoorRunSpec : ChangeSpec := { name := "fnExactDoorRun", fn := fun _ => fun
  | [d1, d2, d3, d4] => { results := [.lit (.bool true)], args := [d1, d2, d3, d4] }
  | _ => none }
def fnExactDoorRunRow : OpenClaim := { program := "ytgmcbobmihhjgaa", sum := "6b45fadd5bceb715502173a62f51075582a7ef7be262afc7c71685ec40b5956e", func := "loop.example/elevators/laws.FnExactDoorRun", spec := "fnExactDoorRun", apart := false }
def FnExactDoorRunSaid : Prop := fnExactDoorRunRow.holds Try.pinned (OpenSpec.ofChange fnExactDoorRunSpec)

/-- ITS FALSE NEIGHBOUR: 'it returns false'. Refute it at one input. -/
def fnExactDoorRunWrong : ChangeSpec := { name := "fnExactDoorRun", fn := fun _ => fun
  | [d1, d2, d3, d4] => { results := [.lit (.bool false)], args := [d1, d2, d3, d4] }
  | _ => none }
def FnExactDoorRunWrongFalsely : Prop := fnExactDoorRunRow.holds Try.pinned (OpenSpec.ofChange fnExactDoorRunWrong)

/- THE SECOND FORM. 'bulk': how many values and letters a reading holds, each counted each time it is reached (what is shared counts as often as it is met; a slice's spare places count too). A statement '..UptoSaid' is the law's where the arguments, and the package variables that the reading takes, are together of bulk at most 1048576: NARROWER than '..Said'. Prove '..Said' where nothing that the law and all that it calls make is longer than what came in: it says more and counts as full. Else prove '..UptoSaid'. A law counts once. -/
mutual
def uptoBulk {H : Type} : DataW H → Nat
  | .lit (.string bytes) => bytes.length + 1
  | .lit _ => 1
  | .nil => 1
  | .ptr d => uptoBulk d + 1
  | .slice elems spare => uptoBulkAll elems + uptoBulkAll spare + 1
  | .agg parts => uptoBulkAll parts + 1
  | .iface _ d => uptoBulk d + 1
  | .map entries => uptoBulkEntries entries + 1
  | .held _ => 1
def uptoBulkAll {H : Type} : List (DataW H) → Nat
  | [] => 0
  | d :: r => uptoBulk d + uptoBulkAll r
def uptoBulkEntries {H : Type} : List (Lit × DataW H) → Nat
  | [] => 0
  | x :: r => uptoBulkEntry x + uptoBulkEntries r
def uptoBulkEntry {H : Type} : Lit × DataW H → Nat
  | (.string bytes, d) => bytes.length + uptoBulk d + 1
  | (_, d) => uptoBulk d + 1
 end
def uptoSmall : (H : Type) → List (DataW H) → Bool := fun _ ds => decide (uptoBulkAll ds ≤ 1048576)
def OpenSpec.upto (s : _root_.Go.ChangeSpec) : _root_.Go.OpenSpec := { _root_.Go.OpenSpec.ofChange s with cond := some uptoSmall }

/-- 'laws.FnExactFloorsValid', WHERE WHAT IT READS IS OF BULK AT MOST 1048576: true; the input reads as it did. -/
def fnExactFloorsValidUptoRow : OpenClaim := { program := "ytgmcbobmihhjgaa", sum := "6b45fadd5bceb715502173a62f51075582a7ef7be262afc7c71685ec40b5956e", func := "loop.example/elevators/laws.FnExactFloorsValid", spec := "fnExactFloorsValid", apart := false, narrowed := true }
def FnExactFloorsValidUptoSaid : Prop := fnExactFloorsValidUptoRow.holds Try.pinned (OpenSpec.upto fnExactFloorsValidSpec)

/-- 'laws.FnExactLoadSum', WHERE WHAT IT READS IS OF BULK AT MOST 1048576: true; the input reads as it did. -/
def fnExactLoadSumUptoRow : OpenClaim := { program := "ytgmcbobmihhjgaa", sum := "6b45fadd5bceb715502173a62f51075582a7ef7be262afc7c71685ec40b5956e", func := "loop.example/elevators/laws.FnExactLoadSum", spec := "fnExactLoadSum", apart := false, narrowed := true }
def FnExactLoadSumUptoSaid : Prop := fnExactLoadSumUptoRow.holds Try.pinned (OpenSpec.upto fnExactLoadSumSpec)

/-- 'laws.FnExactOverloaded', WHERE WHAT IT READS IS OF BULK AT MOST 1048576: true; the input reads as it did. -/
def fnExactOverloadedUptoRow : OpenClaim := { program := "ytgmcbobmihhjgaa", sum := "6b45fadd5bceb715502173a62f51075582a7ef7be262afc7c71685ec40b5956e", func := "loop.example/elevators/laws.FnExactOverloaded", spec := "fnExactOverloaded", apart := false, narrowed := true }
def FnExactOverloadedUptoSaid : Prop := fnExactOverloadedUptoRow.holds Try.pinned (OpenSpec.upto fnExactOverloadedSpec)

/-- 'laws.FnExactFloorAt', WHERE WHAT IT READS IS OF BULK AT MOST 1048576: true; the input reads as it did. -/
def fnExactFloorAtUptoRow : OpenClaim := { program := "ytgmcbobmihhjgaa", sum := "6b45fadd5bceb715502173a62f51075582a7ef7be262afc7c71685ec40b5956e", func := "loop.example/elevators/laws.FnExactFloorAt", spec := "fnExactFloorAt", apart := false, narrowed := true }
def FnExactFloorAtUptoSaid : Prop := fnExactFloorAtUptoRow.holds Try.pinned (OpenSpec.upto fnExactFloorAtSpec)

/-- 'laws.FnExactGovernorRun', WHERE WHAT IT READS IS OF BULK AT MOST 1048576: true; the input reads as it did. -/
def fnExactGovernorRunUptoRow : OpenClaim := { program := "ytgmcbobmihhjgaa", sum := "6b45fadd5bceb715502173a62f51075582a7ef7be262afc7c71685ec40b5956e", func := "loop.example/elevators/laws.FnExactGovernorRun", spec := "fnExactGovernorRun", apart := false, narrowed := true }
def FnExactGovernorRunUptoSaid : Prop := fnExactGovernorRunUptoRow.holds Try.pinned (OpenSpec.upto fnExactGovernorRunSpec)

/-- 'laws.FnExactFloorBelow', WHERE WHAT IT READS IS OF BULK AT MOST 1048576: true; the input reads as it did. -/
def fnExactFloorBelowUptoRow : OpenClaim := { program := "ytgmcbobmihhjgaa", sum := "6b45fadd5bceb715502173a62f51075582a7ef7be262afc7c71685ec40b5956e", func := "loop.example/elevators/laws.FnExactFloorBelow", spec := "fnExactFloorBelow", apart := false, narrowed := true }
def FnExactFloorBelowUptoSaid : Prop := fnExactFloorBelowUptoRow.holds Try.pinned (OpenSpec.upto fnExactFloorBelowSpec)

/-- 'laws.FnExactFloorWay', WHERE WHAT IT READS IS OF BULK AT MOST 1048576: true; the input reads as it did. -/
def fnExactFloorWayUptoRow : OpenClaim := { program := "ytgmcbobmihhjgaa", sum := "6b45fadd5bceb715502173a62f51075582a7ef7be262afc7c71685ec40b5956e", func := "loop.example/elevators/laws.FnExactFloorWay", spec := "fnExactFloorWay", apart := false, narrowed := true }
def FnExactFloorWayUptoSaid : Prop := fnExactFloorWayUptoRow.holds Try.pinned (OpenSpec.upto fnExactFloorWaySpec)

/-- 'laws.FnExactTripWork', WHERE WHAT IT READS IS OF BULK AT MOST 1048576: true; the input reads as it did. -/
def fnExactTripWorkUptoRow : OpenClaim := { program := "ytgmcbobmihhjgaa", sum := "6b45fadd5bceb715502173a62f51075582a7ef7be262afc7c71685ec40b5956e", func := "loop.example/elevators/laws.FnExactTripWork", spec := "fnExactTripWork", apart := false, narrowed := true }
def FnExactTripWorkUptoSaid : Prop := fnExactTripWorkUptoRow.holds Try.pinned (OpenSpec.upto fnExactTripWorkSpec)

/-- 'laws.FnExactLoadFirst', WHERE WHAT IT READS IS OF BULK AT MOST 1048576: true; the input reads as it did. -/
def fnExactLoadFirstUptoRow : OpenClaim := { program := "ytgmcbobmihhjgaa", sum := "6b45fadd5bceb715502173a62f51075582a7ef7be262afc7c71685ec40b5956e", func := "loop.example/elevators/laws.FnExactLoadFirst", spec := "fnExactLoadFirst", apart := false, narrowed := true }
def FnExactLoadFirstUptoSaid : Prop := fnExactLoadFirstUptoRow.holds Try.pinned (OpenSpec.upto fnExactLoadFirstSpec)

/-- 'laws.FnExactFloorNear', WHERE WHAT IT READS IS OF BULK AT MOST 1048576: true; the input reads as it did. -/
def fnExactFloorNearUptoRow : OpenClaim := { program := "ytgmcbobmihhjgaa", sum := "6b45fadd5bceb715502173a62f51075582a7ef7be262afc7c71685ec40b5956e", func := "loop.example/elevators/laws.FnExactFloorNear", spec := "fnExactFloorNear", apart := false, narrowed := true }
def FnExactFloorNearUptoSaid : Prop := fnExactFloorNearUptoRow.holds Try.pinned (OpenSpec.upto fnExactFloorNearSpec)

/-- 'laws.FnExactTourWork', WHERE WHAT IT READS IS OF BULK AT MOST 1048576: true; the input reads as it did. -/
def fnExactTourWorkUptoRow : OpenClaim := { program := "ytgmcbobmihhjgaa", sum := "6b45fadd5bceb715502173a62f51075582a7ef7be262afc7c71685ec40b5956e", func := "loop.example/elevators/laws.FnExactTourWork", spec := "fnExactTourWork", apart := false, narrowed := true }
def FnExactTourWorkUptoSaid : Prop := fnExactTourWorkUptoRow.holds Try.pinned (OpenSpec.upto fnExactTourWorkSpec)

/-- 'laws.FnExactDoorRun', WHERE WHAT IT READS IS OF BULK AT MOST 1048576: true; the input reads as it did. -/
def fnExactDoorRunUptoRow : OpenClaim := { program := "ytgmcbobmihhjgaa", sum := "6b45fadd5bceb715502173a62f51075582a7ef7be262afc7c71685ec40b5956e", func := "loop.example/elevators/laws.FnExactDoorRun", spec := "fnExactDoorRun", apart := false, narrowed := true }
def FnExactDoorRunUptoSaid : Prop := fnExactDoorRunUptoRow.holds Try.pinned (OpenSpec.upto fnExactDoorRunSpec)

end Rows
end Go.Proofs.Ytgmcbobmihhjgaa
