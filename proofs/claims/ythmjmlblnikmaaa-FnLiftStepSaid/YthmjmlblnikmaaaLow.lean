/- Contracts of the small functions of the elevators program (integers and bools in, one number or bool out): each returns what its plain function gives, and the world is as it was. No conditions but those that stand at each. -/
import Derived.Test.YthmjmlblnikmaaaProg
import Derived.Test.YthmjmlblnikmaaaPlain
import Derived.WalkKit
import Derived.WalkSpells
import Derived.WalkLawsBesides
import Derived.Lib.Hide
import Derived.Deep.QuietTactic
import Derived.BigQuiet
namespace Go.Proofs.Ythmjmlblnikmaaa
open Go.RowKit Pl

theorem ret_int {k : IntKind} {a b : Int} (h : a = b) : Ending.returned (.int k a) = .returned (.int k b) := by rw [h]
theorem ret_bool {a b : Bool} (h : a = b) : Ending.returned (.bool a) = .returned (.bool b) := by rw [h]

theorem c_l1In (n lo hi : Int) (w : World) :
    Calls Try.prog 36 #[.int .i64 n, .int .i64 lo, .int .i64 hi] w fun e w' => e = .returned (.bool (inB n lo hi)) ∧ w = w' := by
  by_cases h1 : lo ≤ n
  · by_cases h2 : n ≤ hi
    · have hz := inB_mk h1 h2
      have HZ := Lib.hid hz; clear hz
      go_enter Try.func36, Try.ntmps36
      go_wp2
      go_ret
      exact ⟨ret_bool (by rw [HZ.out]), rfl⟩
    · have hz := inB_hi (n := n) (lo := lo) (hi := hi) (by omega)
      have HZ := Lib.hid hz; clear hz
      have hd : decide (n ≤ hi) = false := by simp; omega
      go_enter Try.func36, Try.ntmps36
      go_wp2
      go_ret
      exact ⟨ret_bool (by rw [HZ.out]), rfl⟩
  · have hz := inB_lo (n := n) (lo := lo) (hi := hi) (by omega)
    have HZ := Lib.hid hz; clear hz
    have hd : decide (lo ≤ n) = false := by simp; omega
    go_enter Try.func36, Try.ntmps36
    go_wp2
    go_ret
    exact ⟨ret_bool (by rw [HZ.out]), rfl⟩
theorem c_stepValid (n : Int) (w : World) :
    Calls Try.prog 56 #[.int .i64 n] w fun e w' => e = .returned (.bool (inB n 0 60)) ∧ w = w' := by
  by_cases h1 : 0 ≤ n
  · by_cases h2 : n ≤ 60
    · have hz := inB_mk h1 h2
      have HZ := Lib.hid hz; clear hz
      go_enter Try.func56, Try.ntmps56
      go_wp2
      go_ret
      exact ⟨ret_bool (by rw [HZ.out]), rfl⟩
    · have hz := inB_hi (n := n) (lo := 0) (hi := 60) (by omega)
      have HZ := Lib.hid hz; clear hz
      have hd : decide (n ≤ 60) = false := by simp; omega
      go_enter Try.func56, Try.ntmps56
      go_wp2
      go_ret
      exact ⟨ret_bool (by rw [HZ.out]), rfl⟩
  · have hz := inB_lo (n := n) (lo := 0) (hi := 60) (by omega)
    have HZ := Lib.hid hz; clear hz
    have hd : decide (0 ≤ n) = false := by simp; omega
    go_enter Try.func56, Try.ntmps56
    go_wp2
    go_ret
    exact ⟨ret_bool (by rw [HZ.out]), rfl⟩
theorem c_stepsBetween (a b : Int) (w : World) (ha : -1000000 ≤ a) (ha' : a ≤ 1000000) (hb : -1000000 ≤ b) (hb' : b ≤ 1000000) :
    Calls Try.prog 62 #[.int .i64 a, .int .i64 b] w fun e w' => e = .returned (.int .i64 (dist a b)) ∧ w = w' := by
  by_cases h1 : a < b
  · have hz : dist a b = b - a := if_pos h1
    have HZ := Lib.hid hz; clear hz
    go_enter Try.func62, Try.ntmps62
    go_wp2
    go_ret
    exact ⟨ret_int (by rw [HZ.out]), rfl⟩
  · have hz : dist a b = a - b := if_neg h1
    have HZ := Lib.hid hz; clear hz
    go_enter Try.func62, Try.ntmps62
    go_wp2
    go_ret
    exact ⟨ret_int (by rw [HZ.out]), rfl⟩
theorem c_brakeI (v : Int) (w : World) :
    Calls Try.prog 61 #[.int .i64 v] w fun e w' => e = .returned (.int .i64 (brake v)) ∧ w = w' := by
  by_cases h1 : v < -5
  · have hz : brake v = 0 := by unfold brake; rw [inB_lo h1]; rfl
    have HZ := Lib.hid hz; clear hz
    go_enter Try.func61, Try.ntmps61
    go_wp2
    go_ret
    exact ⟨ret_int (by rw [HZ.out]), rfl⟩
  · have hd1 : decide (v < -5) = false := by simp; omega
    by_cases h2 : 5 < v
    · have hz : brake v = 0 := by unfold brake; rw [inB_hi h2]; rfl
      have HZ := Lib.hid hz; clear hz
      go_enter Try.func61, Try.ntmps61
      go_wp2
      go_ret
      exact ⟨ret_int (by rw [HZ.out]), rfl⟩
    · clear hd1
      rcases five (by omega) (by omega : v ≤ 5) with h | h | h | h | h | h | h | h | h | h | h
      all_goals
        subst h
        clear h1 h2
        go_enter Try.func61, Try.ntmps61
        go_wp2
        go_ret
        exact ⟨ret_int (by decide), rfl⟩
theorem c_brakeS0 (v : Int) (h0 : 0 ≤ v) (h5 : v ≤ 5) (w : World) :
    Calls Try.prog 63 #[.int .i64 v] w fun e w' => e = .returned (.int .i64 (brake v)) ∧ w = w' := by
  have hv : v = 0 ∨ v = 1 ∨ v = 2 ∨ v = 3 ∨ v = 4 ∨ v = 5 := by omega
  rcases hv with h | h | h | h | h | h
  all_goals
    subst h
    clear h0 h5
    go_enter Try.func63, Try.ntmps63
    go_wp2_with (go_at_call 36; refine (c_l1In _ _ _ _).mono ?_; rintro e w' ⟨rfl, rfl⟩)
    go_ret
    exact ⟨ret_int (by decide), rfl⟩
theorem b1 : brake 1 = 0 := by decide
theorem b2 : brake 2 = 1 := by decide
theorem b3 : brake 3 = 3 := by decide
theorem b4 : brake 4 = 6 := by decide
theorem b5 : brake 5 = 10 := by decide
theorem c_brakeS (v : Int) (w : World) :
    Calls Try.prog 63 #[.int .i64 v] w fun e w' => e = .returned (.int .i64 (brake v)) ∧ w = w' := by
  by_cases h1 : inB v (-5) 5 = true
  · have hb := inB_iff.1 h1
    by_cases h0 : 0 ≤ v
    · exact c_brakeS0 v h0 hb.2 w
    · have hv : v = -5 ∨ v = -4 ∨ v = -3 ∨ v = -2 ∨ v = -1 := by omega
      rcases hv with h | h | h | h | h
      all_goals
        subst h
        clear h0 hb h1
        go_enter Try.func63, Try.ntmps63
        go_wp2_with (first | (go_at_call 36; refine (c_l1In _ _ _ _).mono ?_; rintro e w' ⟨rfl, rfl⟩) | (go_at_call 63; refine (c_brakeS0 _ (by decide) (by decide) _).mono ?_; rintro e w' ⟨rfl, rfl⟩; simp only [b1, b2, b3, b4, b5]))
        go_ret
        exact ⟨ret_int (by decide), rfl⟩
  · have hz : brake v = 0 := by unfold brake; rw [if_neg h1]
    have HZ := Lib.hid hz; clear hz
    have h1' : inB v (-5) 5 = false := by simpa using h1
    clear h1
    go_enter Try.func63, Try.ntmps63
    go_wp2_with (go_at_call 36; refine (c_l1In _ _ _ _).mono ?_; rintro e w' ⟨rfl, rfl⟩)
    go_ret
    exact ⟨ret_int (by rw [HZ.out]), rfl⟩
end Go.Proofs.Ythmjmlblnikmaaa
