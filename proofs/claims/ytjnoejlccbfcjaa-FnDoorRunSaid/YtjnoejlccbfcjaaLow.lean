/- Contracts of the small functions of the elevators program (integers and bools in, one number or bool out): each returns what its plain function gives, and the world is as it was. No conditions but those that stand at each. -/
import Derived.Test.YtjnoejlccbfcjaaProg
import Derived.Test.YtjnoejlccbfcjaaPlain
import Derived.WalkKit
import Derived.WalkSpells
import Derived.WalkLawsBesides
import Derived.Lib.Hide
import Derived.Deep.QuietTactic
import Derived.BigQuiet
namespace Go.Proofs.Ytjnoejlccbfcjaa
open Go.RowKit Pl

theorem ret_int {k : IntKind} {a b : Int} (h : a = b) : Ending.returned (.int k a) = .returned (.int k b) := by rw [h]
theorem ret_bool {a b : Bool} (h : a = b) : Ending.returned (.bool a) = .returned (.bool b) := by rw [h]

theorem c_l1In (n lo hi : Int) (w : World) :
    Calls Try.prog 56 #[.int .i64 n, .int .i64 lo, .int .i64 hi] w fun e w' => e = .returned (.bool (inB n lo hi)) ∧ w = w' := by
  by_cases h1 : lo ≤ n
  · by_cases h2 : n ≤ hi
    · have hz := inB_mk h1 h2
      have HZ := Lib.hid hz; clear hz
      go_enter Try.func56, Try.ntmps56
      go_wp2
      go_ret
      exact ⟨ret_bool (by rw [HZ.out]), rfl⟩
    · have hz := inB_hi (n := n) (lo := lo) (hi := hi) (by omega)
      have HZ := Lib.hid hz; clear hz
      have hd : decide (n ≤ hi) = false := by simp; omega
      go_enter Try.func56, Try.ntmps56
      go_wp2
      go_ret
      exact ⟨ret_bool (by rw [HZ.out]), rfl⟩
  · have hz := inB_lo (n := n) (lo := lo) (hi := hi) (by omega)
    have HZ := Lib.hid hz; clear hz
    have hd : decide (lo ≤ n) = false := by simp; omega
    go_enter Try.func56, Try.ntmps56
    go_wp2
    go_ret
    exact ⟨ret_bool (by rw [HZ.out]), rfl⟩
theorem c_stepValid (n : Int) (w : World) :
    Calls Try.prog 58 #[.int .i64 n] w fun e w' => e = .returned (.bool (inB n 0 60)) ∧ w = w' := by
  by_cases h1 : 0 ≤ n
  · by_cases h2 : n ≤ 60
    · have hz := inB_mk h1 h2
      have HZ := Lib.hid hz; clear hz
      go_enter Try.func58, Try.ntmps58
      go_wp2
      go_ret
      exact ⟨ret_bool (by rw [HZ.out]), rfl⟩
    · have hz := inB_hi (n := n) (lo := 0) (hi := 60) (by omega)
      have HZ := Lib.hid hz; clear hz
      have hd : decide (n ≤ 60) = false := by simp; omega
      go_enter Try.func58, Try.ntmps58
      go_wp2
      go_ret
      exact ⟨ret_bool (by rw [HZ.out]), rfl⟩
  · have hz := inB_lo (n := n) (lo := 0) (hi := 60) (by omega)
    have HZ := Lib.hid hz; clear hz
    have hd : decide (0 ≤ n) = false := by simp; omega
    go_enter Try.func58, Try.ntmps58
    go_wp2
    go_ret
    exact ⟨ret_bool (by rw [HZ.out]), rfl⟩
theorem c_stepsBetween (a b : Int) (w : World) (ha : -1000000 ≤ a) (ha' : a ≤ 1000000) (hb : -1000000 ≤ b) (hb' : b ≤ 1000000) :
    Calls Try.prog 71 #[.int .i64 a, .int .i64 b] w fun e w' => e = .returned (.int .i64 (dist a b)) ∧ w = w' := by
  by_cases h1 : a < b
  · have hz : dist a b = b - a := if_pos h1
    have HZ := Lib.hid hz; clear hz
    go_enter Try.func71, Try.ntmps71
    go_wp2
    go_ret
    exact ⟨ret_int (by rw [HZ.out]), rfl⟩
  · have hz : dist a b = a - b := if_neg h1
    have HZ := Lib.hid hz; clear hz
    go_enter Try.func71, Try.ntmps71
    go_wp2
    go_ret
    exact ⟨ret_int (by rw [HZ.out]), rfl⟩
theorem c_l1Far (a b : Int) (w : World) (ha : -1000000 ≤ a) (ha' : a ≤ 1000000) (hb : -1000000 ≤ b) (hb' : b ≤ 1000000) :
    Calls Try.prog 66 #[.int .i64 a, .int .i64 b] w fun e w' => e = .returned (.int .i64 (dist a b)) ∧ w = w' := by
  go_enter Try.func66, Try.ntmps66
  go_wp2
  all_goals
    go_ret
    exact ⟨ret_int (by unfold dist; split <;> omega), rfl⟩
theorem c_govI (tr : Bool) (sp : Int) (rs : Bool) (w : World) :
    Calls Try.prog 16 #[.bool tr, .int .i64 sp, .bool rs] w fun e w' => e = .returned (.bool (govStep tr sp rs)) ∧ w = w' := by
  by_cases h1 : 7 ≤ sp
  · have hz : govStep tr sp rs = true := if_pos (Or.inl h1)
    have HZ := Lib.hid hz; clear hz
    go_enter Try.func16, Try.ntmps16
    go_wp2
    go_ret
    exact ⟨ret_bool (by rw [HZ.out]), rfl⟩
  · have hd1 : decide (7 ≤ sp) = false := by simp; omega
    by_cases h2 : sp ≤ -7
    · have hz : govStep tr sp rs = true := if_pos (Or.inr h2)
      have HZ := Lib.hid hz; clear hz
      go_enter Try.func16, Try.ntmps16
      go_wp2
      go_ret
      exact ⟨ret_bool (by rw [HZ.out]), rfl⟩
    · have hd2 : decide (sp ≤ -7) = false := by simp; omega
      have hz : govStep tr sp rs = (tr && !(rs && sp == 0)) := if_neg (by omega)
      have HZ := Lib.hid hz; clear hz
      by_cases h3 : sp = 0
      · subst h3
        cases tr <;> cases rs
        all_goals
          go_enter Try.func16, Try.ntmps16
          go_wp2
          go_ret
          exact ⟨ret_bool (by rw [HZ.out]; rfl), rfl⟩
      · have hd3 : (sp == 0) = false := by simpa using h3
        have H3 := Lib.hid hd3
        cases tr <;> cases rs
        all_goals
          go_enter Try.func16, Try.ntmps16
          go_wp2
          go_ret
          exact ⟨ret_bool (by rw [HZ.out, H3.out]; rfl), rfl⟩
theorem c_govS (tr : Bool) (sp : Int) (rs : Bool) (w : World) :
    Calls Try.prog 17 #[.bool tr, .int .i64 sp, .bool rs] w fun e w' => e = .returned (.bool (govStep tr sp rs)) ∧ w = w' := by
  by_cases h1 : 7 ≤ sp
  · have hz : govStep tr sp rs = true := if_pos (Or.inl h1)
    have HZ := Lib.hid hz; clear hz
    go_enter Try.func17, Try.ntmps17
    go_wp2
    go_ret
    exact ⟨ret_bool (by rw [HZ.out]), rfl⟩
  · have hd1 : decide (7 ≤ sp) = false := by simp; omega
    by_cases h2 : sp ≤ -7
    · have hz : govStep tr sp rs = true := if_pos (Or.inr h2)
      have HZ := Lib.hid hz; clear hz
      go_enter Try.func17, Try.ntmps17
      go_wp2
      go_ret
      exact ⟨ret_bool (by rw [HZ.out]), rfl⟩
    · have hd2 : decide (sp ≤ -7) = false := by simp; omega
      have hz : govStep tr sp rs = (tr && !(rs && sp == 0)) := if_neg (by omega)
      have HZ := Lib.hid hz; clear hz
      by_cases h3 : sp = 0
      · subst h3
        cases tr <;> cases rs
        all_goals
          go_enter Try.func17, Try.ntmps17
          go_wp2
          go_ret
          exact ⟨ret_bool (by rw [HZ.out]; rfl), rfl⟩
      · have hd3 : (sp == 0) = false := by simpa using h3
        have H3 := Lib.hid hd3
        cases tr <;> cases rs
        all_goals
          go_enter Try.func17, Try.ntmps17
          go_wp2
          go_ret
          exact ⟨ret_bool (by rw [HZ.out, H3.out]; rfl), rfl⟩
theorem c_brakeI (v : Int) (w : World) :
    Calls Try.prog 20 #[.int .i64 v] w fun e w' => e = .returned (.int .i64 (brake v)) ∧ w = w' := by
  by_cases h1 : v < -5
  · have hz : brake v = 0 := by unfold brake; rw [inB_lo h1]; rfl
    have HZ := Lib.hid hz; clear hz
    go_enter Try.func20, Try.ntmps20
    go_wp2
    go_ret
    exact ⟨ret_int (by rw [HZ.out]), rfl⟩
  · have hd1 : decide (v < -5) = false := by simp; omega
    by_cases h2 : 5 < v
    · have hz : brake v = 0 := by unfold brake; rw [inB_hi h2]; rfl
      have HZ := Lib.hid hz; clear hz
      go_enter Try.func20, Try.ntmps20
      go_wp2
      go_ret
      exact ⟨ret_int (by rw [HZ.out]), rfl⟩
    · clear hd1
      rcases five (by omega) (by omega : v ≤ 5) with h | h | h | h | h | h | h | h | h | h | h
      all_goals
        subst h
        clear h1 h2
        go_enter Try.func20, Try.ntmps20
        go_wp2
        go_ret
        exact ⟨ret_int (by decide), rfl⟩
theorem c_brakeS0 (v : Int) (h0 : 0 ≤ v) (h5 : v ≤ 5) (w : World) :
    Calls Try.prog 21 #[.int .i64 v] w fun e w' => e = .returned (.int .i64 (brake v)) ∧ w = w' := by
  have hv : v = 0 ∨ v = 1 ∨ v = 2 ∨ v = 3 ∨ v = 4 ∨ v = 5 := by omega
  rcases hv with h | h | h | h | h | h
  all_goals
    subst h
    clear h0 h5
    go_enter Try.func21, Try.ntmps21
    go_wp2_with (go_at_call 56; refine (c_l1In _ _ _ _).mono ?_; rintro e w' ⟨rfl, rfl⟩)
    go_ret
    exact ⟨ret_int (by decide), rfl⟩
theorem b1 : brake 1 = 0 := by decide
theorem b2 : brake 2 = 1 := by decide
theorem b3 : brake 3 = 3 := by decide
theorem b4 : brake 4 = 6 := by decide
theorem b5 : brake 5 = 10 := by decide
theorem c_brakeS (v : Int) (w : World) :
    Calls Try.prog 21 #[.int .i64 v] w fun e w' => e = .returned (.int .i64 (brake v)) ∧ w = w' := by
  by_cases h1 : inB v (-5) 5 = true
  · have hb := inB_iff.1 h1
    by_cases h0 : 0 ≤ v
    · exact c_brakeS0 v h0 hb.2 w
    · have hv : v = -5 ∨ v = -4 ∨ v = -3 ∨ v = -2 ∨ v = -1 := by omega
      rcases hv with h | h | h | h | h
      all_goals
        subst h
        clear h0 hb h1
        go_enter Try.func21, Try.ntmps21
        go_wp2_with (first | (go_at_call 56; refine (c_l1In _ _ _ _).mono ?_; rintro e w' ⟨rfl, rfl⟩) | (go_at_call 21; refine (c_brakeS0 _ (by decide) (by decide) _).mono ?_; rintro e w' ⟨rfl, rfl⟩; simp only [b1, b2, b3, b4, b5]))
        go_ret
        exact ⟨ret_int (by decide), rfl⟩
  · have hz : brake v = 0 := by unfold brake; rw [if_neg h1]
    have HZ := Lib.hid hz; clear hz
    have h1' : inB v (-5) 5 = false := by simpa using h1
    clear h1
    go_enter Try.func21, Try.ntmps21
    go_wp2_with (go_at_call 56; refine (c_l1In _ _ _ _).mono ?_; rintro e w' ⟨rfl, rfl⟩)
    go_ret
    exact ⟨ret_int (by rw [HZ.out]), rfl⟩
end Go.Proofs.Ytjnoejlccbfcjaa
