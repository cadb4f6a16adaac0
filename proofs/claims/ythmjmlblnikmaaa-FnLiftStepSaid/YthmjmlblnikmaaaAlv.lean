/- Contract of the laws' alive: it returns true. No conditions. -/
import Derived.Test.YthmjmlblnikmaaaFlo
namespace Go.Proofs.Ythmjmlblnikmaaa
open Go.RowKit Pl
theorem sl_new3 (w : World) (a b c : Int) (t : TypeId) : Sl (w.alloc (.cells #[.int .i64 a, .int .i64 b, .int .i64 c] t)) (some ⟨w.heap.size, 0, none⟩) 3 [a, b, c] := by
  have h := heap_new w (.cells #[.int .i64 a, .int .i64 b, .int .i64 c] t)
  refine ⟨rfl, fun _ => ⟨_, 0, rfl, by simp, fun j hj => ?_⟩⟩
  have hj' : j = 0 ∨ j = 1 ∨ j = 2 := by omega
  rw [cell_of_row _ _ _ _ _ _ h]
  rcases hj' with rfl | rfl | rfl <;> rfl
theorem alive1 : floorAt [0, 4, 9] 4 = 1 := by decide
theorem alive2 : floorAt [] 0 = -1 := by decide
set_option maxHeartbeats 1000000 in
theorem c_alive (w : World) : Calls Try.prog 15 #[] w fun e w' => e = .returned (.bool true) ∧ Below w.heap.size w w' := by
  have s0 := sl_new3 w 0 4 9 3
  have B0 : Below w.heap.size w (w.alloc (.cells #[.int .i64 0, .int .i64 4, .int .i64 9] 3)) := (Below.refl _ _).alloc (Nat.le_refl _) _
  go_enter Try.func15, Try.ntmps15
  go_wp2_with fail
  refine (c_faI _ _ _ _ _ _ s0 (by omega)).mono ?_
  rintro e w1 ⟨rfl, d1⟩
  rw [alive1]
  go_wp2_with fail
  refine (c_faI _ _ _ _ _ _ (Sl.nil _ _) (by omega)).mono ?_
  rintro e w2 ⟨rfl, d2⟩
  rw [alive2]
  go_wp2
  go_ret
  exact ⟨rfl, stepB (stepB B0 d1.below) d2.below⟩
end Go.Proofs.Ythmjmlblnikmaaa
