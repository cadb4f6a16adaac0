/-
  No cell of these rows narrows 'for every input' (looked for: loops, veiled, ifaces, maps, wideKeys, modest, calm, conditions, laid).
  DERIVED. THE GIVEN ROWS OF THIS SEAT. 8 by the template 'for every input the law returns true; each argument reads behind the call as it read before'; 0 by the template 'total and deterministic' (their statements: YtkigpogamjgngaaTotals.lean).
  GIVEN WITH THE SEED: the statements are not yours to turn. If you find one false, say at which input.
  Laid BY PROGRAM, IN A SANDBOX (cutbox-rows.mjs): the forced cells as the released guide's own fill.sh prints them over the translation b93186e6358c2f18… (all of the seat's roots in one cut). By AI agents, Wed Nov 11 2026. No macro, syntax, notation, axiom, sorry.
-/
import Derived.Test.YtkigpogamjgngaaChecked
import GoSem.Claim
import GoSem.ClaimJoined
import GoSem.ClaimMapViews
import Derived.JoinedTies
import Derived.KernelRfl
namespace Go.Proofs.Ytkigpogamjgngaa
/- THE CELL 'sum', in the pinned program and in every row, IS THE sha256 OF THE DUMP (.gsa) THAT YtkigpogamjgngaaProg.lean LOADS. Nothing in Lean hashes anything: it is a label: what it is worth is what the hold of that sum in a sandbox is worth. -/
noncomputable def Try.pinned : Pinned := { name := "ytkigpogamjgngaa", sum := "b93186e6358c2f187e48d4ae8d0c68738afbbfbcc0cbfaf480615d5a92c6a2bf", checked := Try.checked }
namespace Rows
def none {H : Type} : Left H := { results := [], args := [] }

/-- 'laws.FnFloorsValid': WHATEVER THE INPUT: true; the input reads as it did. -/
def fnFloorsValidSpec : ChangeSpec := { name := "fnFloorsValid", fn := fun _ => fun
  | [d] => { results := [.lit (.bool true)], args := [d] }
  | _ => none }
def fnFloorsValidRow : OpenClaim := { program := "ytkigpogamjgngaa", sum := "b93186e6358c2f187e48d4ae8d0c68738afbbfbcc0cbfaf480615d5a92c6a2bf", func := "loop.example/elevators/laws.FnFloorsValid", spec := "fnFloorsValid", apart := false }
def FnFloorsValidSaid : Prop := fnFloorsValidRow.holds Try.pinned (OpenSpec.ofChange fnFloorsValidSpec)

/-- ITS FALSE NEIGHBOUR: 'it returns false'. Refute it at one input. -/
def fnFloorsValidWrong : ChangeSpec := { name := "fnFloorsValid", fn := fun _ => fun
  | [d] => { results := [.lit (.bool false)], args := [d] }
  | _ => none }
def FnFloorsValidWrongFalsely : Prop := fnFloorsValidRow.holds Try.pinned (OpenSpec.ofChange fnFloorsValidWrong)

/-- 'laws.FnFloorAt': WHATEVER THE INPUT: true; the input reads as it did. -/
def fnFloorAtSpec : ChangeSpec := { name := "fnFloorAt", fn := fun _ => fun
  | [d] => { results := [.lit (.bool true)], args := [d] }
  | _ => none }
def fnFloorAtRow : OpenClaim := { program := "ytkigpogamjgngaa", sum := "b93186e6358c2f187e48d4ae8d0c68738afbbfbcc0cbfaf480615d5a92c6a2bf", func := "loop.example/elevators/laws.FnFloorAt", spec := "fnFloorAt", apart := false }
def FnFloorAtSaid : Prop := fnFloorAtRow.holds Try.pinned (OpenSpec.ofChange fnFloorAtSpec)

/-- ITS FALSE NEIGHBOUR: 'it returns false'. Refute it at one input. -/
def fnFloorAtWrong : ChangeSpec := { name := "fnFloorAt", fn := fun _ => fun
  | [d] => { results := [.lit (.bool false)], args := [d] }
  | _ => none }
def FnFloorAtWrongFalsely : Prop := fnFloorAtRow.holds Try.pinned (OpenSpec.ofChange fnFloorAtWrong)

/-- 'laws.FnOverloaded': WHATEVER THE INPUT: true; the input reads as it did. -/
def fnOverloadedSpec : ChangeSpec := { name := "fnOverloaded", fn := fun _ => fun
  | [d] => { results := [.lit (.bool true)], args := [d] }
  | _ => none }
def fnOverloadedRow : OpenClaim := { program := "ytkigpogamjgngaa", sum := "b93186e6358c2f187e48d4ae8d0c68738afbbfbcc0cbfaf480615d5a92c6a2bf", func := "loop.example/elevators/laws.FnOverloaded", spec := "fnOverloaded", apart := false }
def FnOverloadedSaid : Prop := fnOverloadedRow.holds Try.pinned (OpenSpec.ofChange fnOverloadedSpec)

/-- ITS FALSE NEIGHBOUR: 'it returns false'. Refute it at one input. -/
def fnOverloadedWrong : ChangeSpec := { name := "fnOverloaded", fn := fun _ => fun
  | [d] => { results := [.lit (.bool false)], args := [d] }
  | _ => none }
def FnOverloadedWrongFalsely : Prop := fnOverloadedRow.holds Try.pinned (OpenSpec.ofChange fnOverloadedWrong)

/-- 'laws.FnLoadSum': WHATEVER THE INPUT: true; the input reads as it did. -/
def fnLoadSumSpec : ChangeSpec := { name := "fnLoadSum", fn := fun _ => fun
  | [d] => { results := [.lit (.bool true)], args := [d] }
  | _ => none }
def fnLoadSumRow : OpenClaim := { program := "ytkigpogamjgngaa", sum := "b93186e6358c2f187e48d4ae8d0c68738afbbfbcc0cbfaf480615d5a92c6a2bf", func := "loop.example/elevators/laws.FnLoadSum", spec := "fnLoadSum", apart := false }
def FnLoadSumSaid : Prop := fnLoadSumRow.holds Try.pinned (OpenSpec.ofChange fnLoadSumSpec)

/-- ITS FALSE NEIGHBOUR: 'it returns false'. Refute it at one input. -/
def fnLoadSumWrong : ChangeSpec := { name := "fnLoadSum", fn := fun _ => fun
  | [d] => { results := [.lit (.bool false)], args := [d] }
  | _ => none }
def FnLoadSumWrongFalsely : Prop := fnLoadSumRow.holds Try.pinned (OpenSpec.ofChange fnLoadSumWrong)

/-- 'laws.FnFloorWay': WHATEVER THE INPUT: true; the input reads as it did. -/
def fnFloorWaySpec : ChangeSpec := { name := "fnFloorWay", fn := fun _ => fun
  | [d] => { results := [.lit (.bool true)], args := [d] }
  | _ => none }
def fnFloorWayRow : OpenClaim := { program := "ytkigpogamjgngaa", sum := "b93186e6358c2f187e48d4ae8d0c68738afbbfbcc0cbfaf480615d5a92c6a2bf", func := "loop.example/elevators/laws.FnFloorWay", spec := "fnFloorWay", apart := false }
def FnFloorWaySaid : Prop := fnFloorWayRow.holds Try.pinned (OpenSpec.ofChange fnFloorWaySpec)

/-- ITS FALSE NEIGHBOUR: 'it returns false'. Refute it at one input. -/
def fnFloorWayWrong : ChangeSpec := { name := "fnFloorWay", fn := fun _ => fun
  | [d] => { results := [.lit (.bool false)], args := [d] }
  | _ => none }
def FnFloorWayWrongFalsely : Prop := fnFloorWayRow.holds Try.pinned (OpenSpec.ofChange fnFloorWayWrong)

/-- 'laws.FnFloorBelow': WHATEVER THE INPUT: true; the input reads as it did. -/
def fnFloorBelowSpec : ChangeSpec := { name := "fnFloorBelow", fn := fun _ => fun
  | [d] => { results := [.lit (.bool true)], args := [d] }
  | _ => none }
def fnFloorBelowRow : OpenClaim := { program := "ytkigpogamjgngaa", sum := "b93186e6358c2f187e48d4ae8d0c68738afbbfbcc0cbfaf480615d5a92c6a2bf", func := "loop.example/elevators/laws.FnFloorBelow", spec := "fnFloorBelow", apart := false }
def FnFloorBelowSaid : Prop := fnFloorBelowRow.holds Try.pinned (OpenSpec.ofChange fnFloorBelowSpec)

/-- ITS FALSE NEIGHBOUR: 'it returns false'. Refute it at one input. -/
def fnFloorBelowWrong : ChangeSpec := { name := "fnFloorBelow", fn := fun _ => fun
  | [d] => { results := [.lit (.bool false)], args := [d] }
  | _ => none }
def FnFloorBelowWrongFalsely : Prop := fnFloorBelowRow.holds Try.pinned (OpenSpec.ofChange fnFloorBelowWrong)

/-- 'laws.FnFloorNear': WHATEVER THE INPUT: true; the input reads as it did. -/
def fnFloorNearSpec : ChangeSpec := { name := "fnFloorNear", fn := fun _ => fun
  | [d] => { results := [.lit (.bool true)], args := [d] }
  | _ => none }
def fnFloorNearRow : OpenClaim := { program := "ytkigpogamjgngaa", sum := "b93186e6358c2f187e48d4ae8d0c68738afbbfbcc0cbfaf480615d5a92c6a2bf", func := "loop.example/elevators/laws.FnFloorNear", spec := "fnFloorNear", apart := false }
def FnFloorNearSaid : Prop := fnFloorNearRow.holds Try.pinned (OpenSpec.ofChange fnFloorNearSpec)

/-- ITS FALSE NEIGHBOUR: 'it returns false'. Refute it at one input. -/
def fnFloorNearWrong : ChangeSpec := { name := "fnFloorNear", fn := fun _ => fun
  | [d] => { results := [.lit (.bool false)], args := [d] }
  | _ => none }
def FnFloorNearWrongFalsely : Prop := fnFloorNearRow.holds Try.pinned (OpenSpec.ofChange fnFloorNearWrong)

/-- 'laws.FnMotionTicks': WHATEVER THE INPUT: true; the input reads as it did. -/
def fnMotionTicksSpec : ChangeSpec := { name := "fnMotionTicks", fn := fun _ => fun
  | [d] => { results := [.lit (.bool true)], args := [d] }
  | _ => none }
def fnMotionTicksRow : OpenClaim := { program := "ytkigpogamjgngaa", sum := "b93186e6358c2f187e48d4ae8d0c68738afbbfbcc0cbfaf480615d5a92c6a2bf", func := "loop.example/elevators/laws.FnMotionTicks", spec := "fnMotionTicks", recurses := true, apart := false }
def FnMotionTicksSaid : Prop := fnMotionTicksRow.holds Try.pinned (OpenSpec.ofChange fnMotionTicksSpec)

/-- ITS FALSE NEIGHBOUR: 'it returns false'. Refute it at one input. -/
def fnMotionTicksWrong : ChangeSpec := { name := "fnMotionTicks", fn := fun _ => fun
  | [d] => { results := [.lit (.bool false)], args := [d] }
  | _ => none }
def FnMotionTicksWrongFalsely : Prop := fnMotionTicksRow.holds Try.pinned (OpenSpec.ofChange fnMotionTicksWrong)

/- THE SECOND FORM. 'bulk': how many values and letters a reading holds, each counted each time it is reached (what is shared counts as often as it is met; a slice's spare places count too). A statement '..UptoSaid' is the law's where the arguments, and the package variables that the reading takes, are together of bulk at most 1048576: NARROWER than '..Said'. Prove '..Said' where nothing that the law and all that it calls make is longer than what came in: it says more and counts as full. Else prove '..UptoSaid'. A law counts once. -/
mutual
def uptoBulk {H : Type} : DataW H → Nat
  | .lit (.string bytes) => bytes.length + 1
  | .lit _ => 1
  | .nil => 1
  | .ptr d => uptoBulk d + 1
  | .slice elems spare => uptoBulkAll elems + uptoBulkAll spare + 1
  | .agg parts => uptoBulkAll parts + 1
  | .iface _ d => uptoBulk d + 1
  | .map entries => uptoBulkEntries entries + 1
  | .held _ => 1
def uptoBulkAll {H : Type} : List (DataW H) → Nat
  | [] => 0
  | d :: r => uptoBulk d + uptoBulkAll r
def uptoBulkEntries {H : Type} : List (Lit × DataW H) → Nat
  | [] => 0
  | x :: r => uptoBulkEntry x + uptoBulkEntries r
def uptoBulkEntry {H : Type} : Lit × DataW H → Nat
  | (.string bytes, d) => bytes.length + uptoBulk d + 1
  | (_, d) => uptoBulk d + 1
 end
def uptoSmall : (H : Type) → List (DataW H) → Bool := fun _ ds => decide (uptoBulkAll ds ≤ 1048576)
def OpenSpec.upto (s : _root_.Go.ChangeSpec) : _root_.Go.OpenSpec := { _root_.Go.OpenSpec.ofChange s with cond := some uptoSmall }

/-- 'laws.FnFloorsValid', WHERE WHAT IT READS IS OF BULK AT MOST 1048576: true; the input reads as it did. -/
def fnFloorsValidUptoRow : OpenClaim := { program := "ytkigpogamjgngaa", sum := "b93186e6358c2f187e48d4ae8d0c68738afbbfbcc0cbfaf480615d5a92c6a2bf", func := "loop.example/elevators/laws.FnFloorsValid", spec := "fnFloorsValid", apart := false, narrowed := true }
def FnFloorsValidUptoSaid : Prop := fnFloorsValidUptoRow.holds Try.pinned (OpenSpec.upto fnFloorsValidSpec)

/-- 'laws.FnFloorAt', WHERE WHAT IT READS IS OF BULK AT MOST 1048576: true; the input reads as it did. -/
def fnFloorAtUptoRow : OpenClaim := { program := "ytkigpogamjgngaa", sum := "b93186e6358c2f187e48d4ae8d0c68738afbbfbcc0cbfaf480615d5a92c6a2bf", func := "loop.example/elevators/laws.FnFloorAt", spec := "fnFloorAt", apart := false, narrowed := true }
def FnFloorAtUptoSaid : Prop := fnFloorAtUptoRow.holds Try.pinned (OpenSpec.upto fnFloorAtSpec)

/-- 'laws.FnOverloaded', WHERE WHAT IT READS IS OF BULK AT MOST 1048576: true; the input reads as it did. -/
def fnOverloadedUptoRow : OpenClaim := { program := "ytkigpogamjgngaa", sum := "b93186e6358c2f187e48d4ae8d0c68738afbbfbcc0cbfaf480615d5a92c6a2bf", func := "loop.example/elevators/laws.FnOverloaded", spec := "fnOverloaded", apart := false, narrowed := true }
def FnOverloadedUptoSaid : Prop := fnOverloadedUptoRow.holds Try.pinned (OpenSpec.upto fnOverloadedSpec)

/-- 'laws.FnLoadSum', WHERE WHAT IT READS IS OF BULK AT MOST 1048576: true; the input reads as it did. -/
def fnLoadSumUptoRow : OpenClaim := { program := "ytkigpogamjgngaa", sum := "b93186e6358c2f187e48d4ae8d0c68738afbbfbcc0cbfaf480615d5a92c6a2bf", func := "loop.example/elevators/laws.FnLoadSum", spec := "fnLoadSum", apart := false, narrowed := true }
def FnLoadSumUptoSaid : Prop := fnLoadSumUptoRow.holds Try.pinned (OpenSpec.upto fnLoadSumSpec)

/-- 'laws.FnFloorWay', WHERE WHAT IT READS IS OF BULK AT MOST 1048576: true; the input reads as it did. -/
def fnFloorWayUptoRow : OpenClaim := { program := "ytkigpogamjgngaa", sum := "b93186e6358c2f187e48d4ae8d0c68738afbbfbcc0cbfaf480615d5a92c6a2bf", func := "loop.example/elevators/laws.FnFloorWay", spec := "fnFloorWay", apart := false, narrowed := true }
def FnFloorWayUptoSaid : Prop := fnFloorWayUptoRow.holds Try.pinned (OpenSpec.upto fnFloorWaySpec)

/-- 'laws.FnFloorBelow', WHERE WHAT IT READS IS OF BULK AT MOST 1048576: true; the input reads as it did. -/
def fnFloorBelowUptoRow : OpenClaim := { program := "ytkigpogamjgngaa", sum := "b93186e6358c2f187e48d4ae8d0c68738afbbfbcc0cbfaf480615d5a92c6a2bf", func := "loop.example/elevators/laws.FnFloorBelow", spec := "fnFloorBelow", apart := false, narrowed := true }
def FnFloorBelowUptoSaid : Prop := fnFloorBelowUptoRow.holds Try.pinned (OpenSpec.upto fnFloorBelowSpec)

/-- 'laws.FnFloorNear', WHERE WHAT IT READS IS OF BULK AT MOST 1048576: true; the input reads as it did. -/
def fnFloorNearUptoRow : OpenClaim := { program := "ytkigpogamjgngaa", sum := "b93186e6358c2f187e48d4ae8d0c68738afbbfbcc0cbfaf480615d5a92c6a2bf", func := "loop.example/elevators/laws.FnFloorNear", spec := "fnFloorNear", apart := false, narrowed := true }
def FnFloorNearUptoSaid : Prop := fnFloorNearUptoRow.holds Try.pinned (OpenSpec.upto fnFloorNearSpec)

/-- 'laws.FnMotionTicks', WHERE WHAT IT READS IS OF BULK AT MOST 1048576: true; the input reads as it did. -/
def fnMotionTicksUptoRow : OpenClaim := { program := "ytkigpogamjgngaa", sum := "b93186e6358c2f187e48d4ae8d0c68738afbbfbcc0cbfaf480615d5a92c6a2bf", func := "loop.example/elevators/laws.FnMotionTicks", spec := "fnMotionTicks", recurses := true, apart := false, narrowed := true }
def FnMotionTicksUptoSaid : Prop := fnMotionTicksUptoRow.holds Try.pinned (OpenSpec.upto fnMotionTicksSpec)

end Rows
end Go.Proofs.Ytkigpogamjgngaa
