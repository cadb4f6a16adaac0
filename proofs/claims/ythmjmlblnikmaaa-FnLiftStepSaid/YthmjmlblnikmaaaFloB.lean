/- Contracts of FloorNear and FloorWay: each returns what its plain function gives, and only draws. No conditions but those that stand at each. -/
import Derived.Test.YthmjmlblnikmaaaFlo
namespace Go.Proofs.Ythmjmlblnikmaaa
open Go.RowKit Pl

theorem c_isFloor (a : Int) (n : Nat) (b : Bool) (h : inB a 0 ((n : Int) - 1) = b) (w : World) :
    Calls Try.prog 32 #[.int .i64 a, .int .i64 (n : Int)] w fun e w' => e = .returned (.bool b) ∧ w = w' := by
  have hz : b = (decide (0 ≤ a) && decide (a < (n : Int))) := by
    rw [← h, Bool.eq_iff_iff, inB_iff]; simp; omega
  have HZ := Lib.hid hz; clear hz h
  by_cases h0 : 0 ≤ a
  · go_enter Try.func32, Try.ntmps32
    go_wp2
    go_ret
    exact ⟨ret_bool (by rw [HZ.out]; simp [h0]), rfl⟩
  · have d0 : decide (0 ≤ a) = false := by simpa using h0
    have D0 := Lib.hid d0
    go_enter Try.func32, Try.ntmps32
    go_wp2
    go_ret
    exact ⟨ret_bool (by rw [HZ.out, D0.out]; rfl), rfl⟩
end Go.Proofs.Ythmjmlblnikmaaa
