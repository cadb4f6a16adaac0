/-
  No cell of these rows narrows 'for every input' (looked for: loops, veiled, ifaces, maps, wideKeys, modest, calm, conditions, laid).
  DERIVED. THE GIVEN ROWS OF THIS SEAT. 8 by the template 'for every input the law returns true; each argument reads behind the call as it read before'; 0 by the template 'total and deterministic' (their statements: YthmjmlblnikmaaaTotals.lean).
  GIVEN WITH THE SEED: the statements are not yours to turn. If you find one false, say at which input.
  Laid BY PROGRAM, IN A SANDBOX (cutbox-rows.mjs): the forced cells as the released guide's own fill.sh prints them over the translation a2d1976bb1a0dddd… (all of the seat's roots in one cut). By AI agents, Wed Nov 11 2026. No macro, syntax, notation, axiom, sorry.
-/
import Derived.Test.YthmjmlblnikmaaaChecked
import GoSem.Claim
import GoSem.ClaimJoined
import GoSem.ClaimMapViews
import Derived.JoinedTies
import Derived.KernelRfl
namespace Go.Proofs.Ythmjmlblnikmaaa
/- THE CELL 'sum', in the pinned program and in every row, IS THE sha256 OF THE DUMP (.gsa) THAT YthmjmlblnikmaaaProg.lean LOADS. Nothing in Lean hashes anything: it is a label: what it is worth is what the hold of that sum in a sandbox is worth. -/
noncomputable def Try.pinned : Pinned := { name := "ythmjmlblnikmaaa", sum := "a2d1976bb1a0ddddb1bbf0a131daa58202f221352bd53b37e1edfde0ec744ff5", checked := Try.checked }
namespace Rows
def none {H : Type} : Left H := { results := [], args := [] }

/-- 'laws.FnLiftStep': WHATEVER THE INPUT: true; the input reads as it did. -/
def fnLiftStepSpec : ChangeSpec := { name := "fnLiftStep", fn := fun _ => fun
  | [d] => { results := [.lit (.bool true)], args := [d] }
  | _ => none }
def fnLiftStepRow : OpenClaim := { program := "ythmjmlblnikmaaa", sum := "a2d1976bb1a0ddddb1bbf0a131daa58202f221352bd53b37e1edfde0ec744ff5", func := "loop.example/elevators/laws.FnLiftStep", spec := "fnLiftStep", recurses := true, apart := false }
def FnLiftStepSaid : Prop := fnLiftStepRow.holds Try.pinned (OpenSpec.ofChange fnLiftStepSpec)

/-- ITS FALSE NEIGHBOUR: 'it returns false'. Refute it at one input. -/
def fnLiftStepWrong : ChangeSpec := { name := "fnLiftStep", fn := fun _ => fun
  | [d] => { results := [.lit (.bool false)], args := [d] }
  | _ => none }
def FnLiftStepWrongFalsely : Prop := fnLiftStepRow.holds Try.pinned (OpenSpec.ofChange fnLiftStepWrong)

/-- 'laws.FnLiftGo': WHATEVER THE INPUT: true; the input reads as it did. -/
def fnLiftGoSpec : ChangeSpec := { name := "fnLiftGo", fn := fun _ => fun
  | [d] => { results := [.lit (.bool true)], args := [d] }
  | _ => none }
def fnLiftGoRow : OpenClaim := { program := "ythmjmlblnikmaaa", sum := "a2d1976bb1a0ddddb1bbf0a131daa58202f221352bd53b37e1edfde0ec744ff5", func := "loop.example/elevators/laws.FnLiftGo", spec := "fnLiftGo", recurses := true, apart := false }
def FnLiftGoSaid : Prop := fnLiftGoRow.holds Try.pinned (OpenSpec.ofChange fnLiftGoSpec)

/-- ITS FALSE NEIGHBOUR: 'it returns false'. Refute it at one input. -/
def fnLiftGoWrong : ChangeSpec := { name := "fnLiftGo", fn := fun _ => fun
  | [d] => { results := [.lit (.bool false)], args := [d] }
  | _ => none }
def FnLiftGoWrongFalsely : Prop := fnLiftGoRow.holds Try.pinned (OpenSpec.ofChange fnLiftGoWrong)

/-- 'laws.FnLiftVisit': WHATEVER THE INPUT: true; the input reads as it did. -/
def fnLiftVisitSpec : ChangeSpec := { name := "fnLiftVisit", fn := fun _ => fun
  | [d] => { results := [.lit (.bool true)], args := [d] }
  | _ => none }
def fnLiftVisitRow : OpenClaim := { program := "ythmjmlblnikmaaa", sum := "a2d1976bb1a0ddddb1bbf0a131daa58202f221352bd53b37e1edfde0ec744ff5", func := "loop.example/elevators/laws.FnLiftVisit", spec := "fnLiftVisit", recurses := true, apart := false }
def FnLiftVisitSaid : Prop := fnLiftVisitRow.holds Try.pinned (OpenSpec.ofChange fnLiftVisitSpec)

/-- ITS FALSE NEIGHBOUR: 'it returns false'. Refute it at one input. -/
def fnLiftVisitWrong : ChangeSpec := { name := "fnLiftVisit", fn := fun _ => fun
  | [d] => { results := [.lit (.bool false)], args := [d] }
  | _ => none }
def FnLiftVisitWrongFalsely : Prop := fnLiftVisitRow.holds Try.pinned (OpenSpec.ofChange fnLiftVisitWrong)

/-- 'laws.FnLiftValid': WHATEVER THE INPUT: true; the input reads as it did. -/
def fnLiftValidSpec : ChangeSpec := { name := "fnLiftValid", fn := fun _ => fun
  | [d] => { results := [.lit (.bool true)], args := [d] }
  | _ => none }
def fnLiftValidRow : OpenClaim := { program := "ythmjmlblnikmaaa", sum := "a2d1976bb1a0ddddb1bbf0a131daa58202f221352bd53b37e1edfde0ec744ff5", func := "loop.example/elevators/laws.FnLiftValid", spec := "fnLiftValid", apart := false }
def FnLiftValidSaid : Prop := fnLiftValidRow.holds Try.pinned (OpenSpec.ofChange fnLiftValidSpec)

/-- ITS FALSE NEIGHBOUR: 'it returns false'. Refute it at one input. -/
def fnLiftValidWrong : ChangeSpec := { name := "fnLiftValid", fn := fun _ => fun
  | [d] => { results := [.lit (.bool false)], args := [d] }
  | _ => none }
def FnLiftValidWrongFalsely : Prop := fnLiftValidRow.holds Try.pinned (OpenSpec.ofChange fnLiftValidWrong)

/-- 'laws.FnExactLiftValid': WHATEVER THE INPUT: true; the input reads as it did. -/
def fnExactLiftValidSpec : ChangeSpec := { name := "fnExactLiftValid", fn := fun _ => fun
  | [d1, d2] => { results := [.lit (.bool true)], args := [d1, d2] }
  | _ => none }
def fnExactLiftValidRow : OpenClaim := { program := "ythmjmlblnikmaaa", sum := "a2d1976bb1a0ddddb1bbf0a131daa58202f221352bd53b37e1edfde0ec744ff5", func := "loop.example/elevators/laws.FnExactLiftValid", spec := "fnExactLiftValid", apart := false }
def FnExactLiftValidSaid : Prop := fnExactLiftValidRow.holds Try.pinned (OpenSpec.ofChange fnExactLiftValidSpec)

/-- ITS FALSE NEIGHBOUR: 'it returns false'. Refute it at one input. -/
def fnExactLiftValidWrong : ChangeSpec := { name := "fnExactLiftValid", fn := fun _ => fun
  | [d1, d2] => { results := [.lit (.bool false)], args := [d1, d2] }
  | _ => none }
def FnExactLiftValidWrongFalsely : Prop := fnExactLiftValidRow.holds Try.pinned (OpenSpec.ofChange fnExactLiftValidWrong)

/-- 'laws.FnExactLiftGo': WHATEVER THE INPUT: true; the input reads as it did. -/
def fnExactLiftGoSpec : ChangeSpec := { name := "fnExactLiftGo", fn := fun _ => fun
  | [d1, d2, d3] => { results := [.lit (.bool true)], args := [d1, d2, d3] }
  | _ => none }
def fnExactLiftGoRow : OpenClaim := { program := "ythmjmlblnikmaaa", sum := "a2d1976bb1a0ddddb1bbf0a131daa58202f221352bd53b37e1edfde0ec744ff5", func := "loop.example/elevators/laws.FnExactLiftGo", spec := "fnExactLiftGo", recurses := true, apart := false }
def FnExactLiftGoSaid : Prop := fnExactLiftGoRow.holds Try.pinned (OpenSpec.ofChange fnExactLiftGoSpec)

/-- ITS FALSE NEIGHBOUR: 'it returns false'. Refute it at one input. -/
def fnExactLiftGoWrong : ChangeSpec := { name := "fnExactLiftGo", fn := fun _ => fun
  | [d1, d2, d3] => { results := [.lit (.bool false)], args := [d1, d2, d3] }
  | _ => none }
def FnExactLiftGoWrongFalsely : Prop := fnExactLiftGoRow.holds Try.pinned (OpenSpec.ofChange fnExactLiftGoWrong)

/-- 'laws.FnExactLiftStep': WHATEVER THE INPUT: true; the input reads as it did. -/
def fnExactLiftStepSpec : ChangeSpec := { name := "fnExactLiftStep", fn := fun _ => fun
  | [d1, d2, d3, d4, d5] => { results := [.lit (.bool true)], args := [d1, d2, d3, d4, d5] }
  | _ => none }
def fnExactLiftStepRow : OpenClaim := { program := "ythmjmlblnikmaaa", sum := "a2d1976bb1a0ddddb1bbf0a131daa58202f221352bd53b37e1edfde0ec744ff5", func := "loop.example/elevators/laws.FnExactLiftStep", spec := "fnExactLiftStep", recurses := true, apart := false }
def FnExactLiftStepSaid : Prop := fnExactLiftStepRow.holds Try.pinned (OpenSpec.ofChange fnExactLiftStepSpec)

/-- ITS FALSE NEIGHBOUR: 'it returns false'. Refute it at one input. -/
def fnExactLiftStepWrong : ChangeSpec := { name := "fnExactLiftStep", fn := fun _ => fun
  | [d1, d2, d3, d4, d5] => { results := [.lit (.bool false)], args := [d1, d2, d3, d4, d5] }
  | _ => none }
def FnExactLiftStepWrongFalsely : Prop := fnExactLiftStepRow.holds Try.pinned (OpenSpec.ofChange fnExactLiftStepWrong)

/-- 'laws.FnExactLiftVisit': WHATEVER THE INPUT: true; the input reads as it did. -/
def fnExactLiftVisitSpec : ChangeSpec := { name := "fnExactLiftVisit", fn := fun _ => fun
  | [d1, d2, d3] => { results := [.lit (.bool true)], args := [d1, d2, d3] }
  | _ => none }
def fnExactLiftVisitRow : OpenClaim := { program := "ythmjmlblnikmaaa", sum := "a2d1976bb1a0ddddb1bbf0a131daa58202f221352bd53b37e1edfde0ec744ff5", func := "loop.example/elevators/laws.FnExactLiftVisit", spec := "fnExactLiftVisit", recurses := true, apart := false }
def FnExactLiftVisitSaid : Prop := fnExactLiftVisitRow.holds Try.pinned (OpenSpec.ofChange fnExactLiftVisitSpec)

/-- ITS FALSE NEIGHBOUR: 'it returns false'. Refute it at one input. -/
def fnExactLiftVisitWrong : ChangeSpec := { name := "fnExactLiftVisit", fn := fun _ => fun
  | [d1, d2, d3] => { results := [.lit (.bool false)], args := [d1, d2, d3] }
  | _ => none }
def FnExactLiftVisitWrongFalsely : Prop := fnExactLiftVisitRow.holds Try.pinned (OpenSpec.ofChange fnExactLiftVisitWrong)

/- THE SECOND FORM. 'bulk': how many values and letters a reading holds, each counted each time it is reached (what is shared counts as often as it is met; a slice's spare places count too). A statement '..UptoSaid' is the law's where the arguments, and the package variables that the reading takes, are together of bulk at most 1048576: NARROWER than '..Said'. Prove '..Said' where nothing that the law and all that it calls make is longer than what came in: it says more and counts as full. Else prove '..UptoSaid'. A law counts once. -/
mutual
def uptoBulk {H : Type} : DataW H → Nat
  | .lit (.string bytes) => bytes.length + 1
  | .lit _ => 1
  | .nil => 1
  | .ptr d => uptoBulk d + 1
  | .slice elems spare => uptoBulkAll elems + uptoBulkAll spare + 1
  | .agg parts => uptoBulkAll parts + 1
  | .iface _ d => uptoBulk d + 1
  | .map entries => uptoBulkEntries entries + 1
  | .held _ => 1
def uptoBulkAll {H : Type} : List (DataW H) → Nat
  | [] => 0
  | d :: r => uptoBulk d + uptoBulkAll r
def uptoBulkEntries {H : Type} : List (Lit × DataW H) → Nat
  | [] => 0
  | x :: r => uptoBulkEntry x + uptoBulkEntries r
def uptoBulkEntry {H : Type} : Lit × DataW H → Nat
  | (.string bytes, d) => bytes.length + uptoBulk d + 1
  | (_, d) => uptoBulk d + 1
 end
def uptoSmall : (H : Type) → List (DataW H) → Bool := fun _ ds => decide (uptoBulkAll ds ≤ 1048576)
def OpenSpec.upto (s : _root_.Go.ChangeSpec) : _root_.Go.OpenSpec := { _root_.Go.OpenSpec.ofChange s with cond := some uptoSmall }

/-- 'laws.FnLiftStep', WHERE WHAT IT READS IS OF BULK AT MOST 1048576: true; the input reads as it did. -/
def fnLiftStepUptoRow : OpenClaim := { program := "ythmjmlblnikmaaa", sum := "a2d1976bb1a0ddddb1bbf0a131daa58202f221352bd53b37e1edfde0ec744ff5", func := "loop.example/elevators/laws.FnLiftStep", spec := "fnLiftStep", recurses := true, apart := false, narrowed := true }
def FnLiftStepUptoSaid : Prop := fnLiftStepUptoRow.holds Try.pinned (OpenSpec.upto fnLiftStepSpec)

/-- 'laws.FnLiftGo', WHERE WHAT IT READS IS OF BULK AT MOST 1048576: true; the input reads as it did. -/
def fnLiftGoUptoRow : OpenClaim := { program := "ythmjmlblnikmaaa", sum := "a2d1976bb1a0ddddb1bbf0a131daa58202f221352bd53b37e1edfde0ec744ff5", func := "loop.example/elevators/laws.FnLiftGo", spec := "fnLiftGo", recurses := true, apart := false, narrowed := true }
def FnLiftGoUptoSaid : Prop := fnLiftGoUptoRow.holds Try.pinned (OpenSpec.upto fnLiftGoSpec)

/-- 'laws.FnLiftVisit', WHERE WHAT IT READS IS OF BULK AT MOST 1048576: true; the input reads as it did. -/
def fnLiftVisitUptoRow : OpenClaim := { program := "ythmjmlblnikmaaa", sum := "a2d1976bb1a0ddddb1bbf0a131daa58202f221352bd53b37e1edfde0ec744ff5", func := "loop.example/elevators/laws.FnLiftVisit", spec := "fnLiftVisit", recurses := true, apart := false, narrowed := true }
def FnLiftVisitUptoSaid : Prop := fnLiftVisitUptoRow.holds Try.pinned (OpenSpec.upto fnLiftVisitSpec)

/-- 'laws.FnLiftValid', WHERE WHAT IT READS IS OF BULK AT MOST 1048576: true; the input reads as it did. -/
def fnLiftValidUptoRow : OpenClaim := { program := "ythmjmlblnikmaaa", sum := "a2d1976bb1a0ddddb1bbf0a131daa58202f221352bd53b37e1edfde0ec744ff5", func := "loop.example/elevators/laws.FnLiftValid", spec := "fnLiftValid", apart := false, narrowed := true }
def FnLiftValidUptoSaid : Prop := fnLiftValidUptoRow.holds Try.pinned (OpenSpec.upto fnLiftValidSpec)

/-- 'laws.FnExactLiftValid', WHERE WHAT IT READS IS OF BULK AT MOST 1048576: true; the input reads as it did. -/
def fnExactLiftValidUptoRow : OpenClaim := { program := "ythmjmlblnikmaaa", sum := "a2d1976bb1a0ddddb1bbf0a131daa58202f221352bd53b37e1edfde0ec744ff5", func := "loop.example/elevators/laws.FnExactLiftValid", spec := "fnExactLiftValid", apart := false, narrowed := true }
def FnExactLiftValidUptoSaid : Prop := fnExactLiftValidUptoRow.holds Try.pinned (OpenSpec.upto fnExactLiftValidSpec)

/-- 'laws.FnExactLiftGo', WHERE WHAT IT READS IS OF BULK AT MOST 1048576: true; the input reads as it did. -/
def fnExactLiftGoUptoRow : OpenClaim := { program := "ythmjmlblnikmaaa", sum := "a2d1976bb1a0ddddb1bbf0a131daa58202f221352bd53b37e1edfde0ec744ff5", func := "loop.example/elevators/laws.FnExactLiftGo", spec := "fnExactLiftGo", recurses := true, apart := false, narrowed := true }
def FnExactLiftGoUptoSaid : Prop := fnExactLiftGoUptoRow.holds Try.pinned (OpenSpec.upto fnExactLiftGoSpec)

/-- 'laws.FnExactLiftStep', WHERE WHAT IT READS IS OF BULK AT MOST 1048576: true; the input reads as it did. -/
def fnExactLiftStepUptoRow : OpenClaim := { program := "ythmjmlblnikmaaa", sum := "a2d1976bb1a0ddddb1bbf0a131daa58202f221352bd53b37e1edfde0ec744ff5", func := "loop.example/elevators/laws.FnExactLiftStep", spec := "fnExactLiftStep", recurses := true, apart := false, narrowed := true }
def FnExactLiftStepUptoSaid : Prop := fnExactLiftStepUptoRow.holds Try.pinned (OpenSpec.upto fnExactLiftStepSpec)

/-- 'laws.FnExactLiftVisit', WHERE WHAT IT READS IS OF BULK AT MOST 1048576: true; the input reads as it did. -/
def fnExactLiftVisitUptoRow : OpenClaim := { program := "ythmjmlblnikmaaa", sum := "a2d1976bb1a0ddddb1bbf0a131daa58202f221352bd53b37e1edfde0ec744ff5", func := "loop.example/elevators/laws.FnExactLiftVisit", spec := "fnExactLiftVisit", recurses := true, apart := false, narrowed := true }
def FnExactLiftVisitUptoSaid : Prop := fnExactLiftVisitUptoRow.holds Try.pinned (OpenSpec.upto fnExactLiftVisitSpec)

end Rows
end Go.Proofs.Ythmjmlblnikmaaa
