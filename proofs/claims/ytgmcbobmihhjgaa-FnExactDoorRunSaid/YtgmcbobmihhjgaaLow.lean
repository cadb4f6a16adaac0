/- Contracts of the small functions of the elevators program (integers and bools in, one number or bool out): each returns what its plain function gives, and the world is as it was. No conditions but those that stand at each. -/
import Derived.Test.YtgmcbobmihhjgaaProg
import Derived.Test.YtgmcbobmihhjgaaPlain
import Derived.WalkKit
import Derived.WalkSpells
import Derived.WalkLawsBesides
import Derived.Lib.Hide
import Derived.Deep.QuietTactic
import Derived.BigQuiet
namespace Go.Proofs.Ytgmcbobmihhjgaa
open Go.RowKit Pl

theorem ret_int {k : IntKind} {a b : Int} (h : a = b) : Ending.returned (.int k a) = .returned (.int k b) := by rw [h]
theorem ret_bool {a b : Bool} (h : a = b) : Ending.returned (.bool a) = .returned (.bool b) := by rw [h]

theorem c_l1In (n lo hi : Int) (w : World) :
    Calls Try.prog 43 #[.int .i64 n, .int .i64 lo, .int .i64 hi] w fun e w' => e = .returned (.bool (inB n lo hi)) ∧ w = w' := by
  by_cases h1 : lo ≤ n
  · by_cases h2 : n ≤ hi
    · have hz := inB_mk h1 h2
      have HZ := Lib.hid hz; clear hz
      go_enter Try.func43, Try.ntmps43
      go_wp2
      go_ret
      exact ⟨ret_bool (by rw [HZ.out]), rfl⟩
    · have hz := inB_hi (n := n) (lo := lo) (hi := hi) (by omega)
      have HZ := Lib.hid hz; clear hz
      have hd : decide (n ≤ hi) = false := by simp; omega
      go_enter Try.func43, Try.ntmps43
      go_wp2
      go_ret
      exact ⟨ret_bool (by rw [HZ.out]), rfl⟩
  · have hz := inB_lo (n := n) (lo := lo) (hi := hi) (by omega)
    have HZ := Lib.hid hz; clear hz
    have hd : decide (lo ≤ n) = false := by simp; omega
    go_enter Try.func43, Try.ntmps43
    go_wp2
    go_ret
    exact ⟨ret_bool (by rw [HZ.out]), rfl⟩
theorem c_stepValid (n : Int) (w : World) :
    Calls Try.prog 48 #[.int .i64 n] w fun e w' => e = .returned (.bool (inB n 0 60)) ∧ w = w' := by
  by_cases h1 : 0 ≤ n
  · by_cases h2 : n ≤ 60
    · have hz := inB_mk h1 h2
      have HZ := Lib.hid hz; clear hz
      go_enter Try.func48, Try.ntmps48
      go_wp2
      go_ret
      exact ⟨ret_bool (by rw [HZ.out]), rfl⟩
    · have hz := inB_hi (n := n) (lo := 0) (hi := 60) (by omega)
      have HZ := Lib.hid hz; clear hz
      have hd : decide (n ≤ 60) = false := by simp; omega
      go_enter Try.func48, Try.ntmps48
      go_wp2
      go_ret
      exact ⟨ret_bool (by rw [HZ.out]), rfl⟩
  · have hz := inB_lo (n := n) (lo := 0) (hi := 60) (by omega)
    have HZ := Lib.hid hz; clear hz
    have hd : decide (0 ≤ n) = false := by simp; omega
    go_enter Try.func48, Try.ntmps48
    go_wp2
    go_ret
    exact ⟨ret_bool (by rw [HZ.out]), rfl⟩
theorem c_stepsBetween (a b : Int) (w : World) (ha : -1000000 ≤ a) (ha' : a ≤ 1000000) (hb : -1000000 ≤ b) (hb' : b ≤ 1000000) :
    Calls Try.prog 51 #[.int .i64 a, .int .i64 b] w fun e w' => e = .returned (.int .i64 (dist a b)) ∧ w = w' := by
  by_cases h1 : a < b
  · have hz : dist a b = b - a := if_pos h1
    have HZ := Lib.hid hz; clear hz
    go_enter Try.func51, Try.ntmps51
    go_wp2
    go_ret
    exact ⟨ret_int (by rw [HZ.out]), rfl⟩
  · have hz : dist a b = a - b := if_neg h1
    have HZ := Lib.hid hz; clear hz
    go_enter Try.func51, Try.ntmps51
    go_wp2
    go_ret
    exact ⟨ret_int (by rw [HZ.out]), rfl⟩
theorem c_l1Far (a b : Int) (w : World) (ha : -1000000 ≤ a) (ha' : a ≤ 1000000) (hb : -1000000 ≤ b) (hb' : b ≤ 1000000) :
    Calls Try.prog 49 #[.int .i64 a, .int .i64 b] w fun e w' => e = .returned (.int .i64 (dist a b)) ∧ w = w' := by
  go_enter Try.func49, Try.ntmps49
  go_wp2
  all_goals
    go_ret
    exact ⟨ret_int (by unfold dist; split <;> omega), rfl⟩
theorem c_govI (tr : Bool) (sp : Int) (rs : Bool) (w : World) :
    Calls Try.prog 46 #[.bool tr, .int .i64 sp, .bool rs] w fun e w' => e = .returned (.bool (govStep tr sp rs)) ∧ w = w' := by
  by_cases h1 : 7 ≤ sp
  · have hz : govStep tr sp rs = true := if_pos (Or.inl h1)
    have HZ := Lib.hid hz; clear hz
    go_enter Try.func46, Try.ntmps46
    go_wp2
    go_ret
    exact ⟨ret_bool (by rw [HZ.out]), rfl⟩
  · have hd1 : decide (7 ≤ sp) = false := by simp; omega
    by_cases h2 : sp ≤ -7
    · have hz : govStep tr sp rs = true := if_pos (Or.inr h2)
      have HZ := Lib.hid hz; clear hz
      go_enter Try.func46, Try.ntmps46
      go_wp2
      go_ret
      exact ⟨ret_bool (by rw [HZ.out]), rfl⟩
    · have hd2 : decide (sp ≤ -7) = false := by simp; omega
      have hz : govStep tr sp rs = (tr && !(rs && sp == 0)) := if_neg (by omega)
      have HZ := Lib.hid hz; clear hz
      by_cases h3 : sp = 0
      · subst h3
        cases tr <;> cases rs
        all_goals
          go_enter Try.func46, Try.ntmps46
          go_wp2
          go_ret
          exact ⟨ret_bool (by rw [HZ.out]; rfl), rfl⟩
      · have hd3 : (sp == 0) = false := by simpa using h3
        have H3 := Lib.hid hd3
        cases tr <;> cases rs
        all_goals
          go_enter Try.func46, Try.ntmps46
          go_wp2
          go_ret
          exact ⟨ret_bool (by rw [HZ.out, H3.out]; rfl), rfl⟩
theorem c_govS (tr : Bool) (sp : Int) (rs : Bool) (w : World) :
    Calls Try.prog 44 #[.bool tr, .int .i64 sp, .bool rs] w fun e w' => e = .returned (.bool (govStep tr sp rs)) ∧ w = w' := by
  by_cases h1 : 7 ≤ sp
  · have hz : govStep tr sp rs = true := if_pos (Or.inl h1)
    have HZ := Lib.hid hz; clear hz
    go_enter Try.func44, Try.ntmps44
    go_wp2
    go_ret
    exact ⟨ret_bool (by rw [HZ.out]), rfl⟩
  · have hd1 : decide (7 ≤ sp) = false := by simp; omega
    by_cases h2 : sp ≤ -7
    · have hz : govStep tr sp rs = true := if_pos (Or.inr h2)
      have HZ := Lib.hid hz; clear hz
      go_enter Try.func44, Try.ntmps44
      go_wp2
      go_ret
      exact ⟨ret_bool (by rw [HZ.out]), rfl⟩
    · have hd2 : decide (sp ≤ -7) = false := by simp; omega
      have hz : govStep tr sp rs = (tr && !(rs && sp == 0)) := if_neg (by omega)
      have HZ := Lib.hid hz; clear hz
      by_cases h3 : sp = 0
      · subst h3
        cases tr <;> cases rs
        all_goals
          go_enter Try.func44, Try.ntmps44
          go_wp2
          go_ret
          exact ⟨ret_bool (by rw [HZ.out]; rfl), rfl⟩
      · have hd3 : (sp == 0) = false := by simpa using h3
        have H3 := Lib.hid hd3
        cases tr <;> cases rs
        all_goals
          go_enter Try.func44, Try.ntmps44
          go_wp2
          go_ret
          exact ⟨ret_bool (by rw [HZ.out, H3.out]; rfl), rfl⟩
end Go.Proofs.Ytgmcbobmihhjgaa
