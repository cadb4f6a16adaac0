/- Contracts of MotionTicks, SpeedLimit and WithinLimit: each returns what its plain function gives, and leaves all memory that was there as it was. No conditions. -/
import Derived.Test.YthmjmlblnikmaaaDrive
import Derived.Deep.RegionHeld3
import Derived.Deep.Light
namespace Go.Proofs.Ythmjmlblnikmaaa
open Go.RowKit Go.Joins Pl

theorem rest_cases (a v t : Int) : (a = t ∧ v = 0 ∧ (a != t) = false ∧ (v != 0) = false) ∨ (¬ (a = t ∧ v = 0) ∧ (a != t) = true ∧ True) ∨ (a = t ∧ ¬ (a = t ∧ v = 0) ∧ (a != t) = false ∧ (v != 0) = true) := by
  by_cases h : a = t
  · by_cases h' : v = 0
    · exact .inl ⟨h, h', by simp [h], by simp [h']⟩
    · exact .inr (.inr ⟨h, fun e => h' e.2, by simp [h], by simp [h']⟩)
  · exact .inr (.inl ⟨fun e => h e.1, by simp [h], trivial⟩)
set_option maxHeartbeats 4000000 in
theorem c_ticksS (a v t : Int) (w : World) :
    Calls Try.prog 47 #[.agg #[.int .i64 a, .int .i64 v], .int .i64 t] w fun e w' => e = .returned (.int .i64 (tickT a v t)) ∧ Below w.heap.size w w' := by
  obtain ⟨B, own⟩ := start1 w (.int .i64 a) (.int .i64 v) 25
  have c0 : True := trivial
  have c1 : True := trivial
  have f0 : True := trivial
  have f1 : True := trivial
  rcases tickT_cases a v t with ⟨hm, hz⟩ | ⟨hm, ht, hz⟩ | ⟨hm, ht, hz⟩
  · have HZ := Lib.hid hz; clear hz
    have HM := Lib.hid hm; clear hm
    go_enter Try.func47, Try.ntmps47
    go_wp2_with (go_at_call 41; refine (c_motVS _ _ _).mono ?_; rintro e w1 ⟨rfl, hb⟩; rw [HM.out]; have B := stepB B hb; have own := own.call hb; clear c0 c1 f0 f1; have c0 := own.c0; have c1 := own.c1; have f0 := own.f0; have f1 := own.f1)
    go_ret
    exact ⟨ret_int (by rw [HZ.out]), B⟩
  · have HZ := Lib.hid hz; clear hz
    have HM := Lib.hid hm; clear hm
    have HT := Lib.hid ht; clear ht
    go_enter Try.func47, Try.ntmps47
    go_wp2_with (first | (go_at_call 41; refine (c_motVS _ _ _).mono ?_; rintro e w1 ⟨rfl, hb⟩; rw [HM.out]; have B := stepB B hb; have own := own.call hb; clear c0 c1 f0 f1; have c0 := own.c0; have c1 := own.c1; have f0 := own.f0; have f1 := own.f1) | (go_at_call 36; refine (c_l1In _ _ _ _).mono ?_; rintro e w' ⟨rfl, rfl⟩; rw [HT.out]))
    go_ret
    exact ⟨ret_int (by rw [HZ.out]), B⟩
  · have HZ := Lib.hid hz; clear hz
    have HM := Lib.hid hm
    have HT := Lib.hid ht
    clear hm ht
    go_enter Try.func47, Try.ntmps47
    go_wp2_with (first | (go_at_call 41; refine (c_motVS _ _ _).mono ?_; rintro e w1 ⟨rfl, hb⟩; rw [HM.out]; have B := stepB B hb; have own := own.call hb; clear c0 c1 f0 f1; have c0 := own.c0; have c1 := own.c1; have f0 := own.f0; have f1 := own.f1) | (go_at_call 36; refine (c_l1In _ _ _ _).mono ?_; rintro e w' ⟨rfl, rfl⟩; rw [HT.out]))
    clear c0 c1 f0 f1
    have hle := ticksM_le HM.out HT.out
    go_loopg [5] (ticksM a v t) (fun g s5 wr => ∃ (a' v' : Int) (k : Nat), s5 = .int .i64 (k : Int) ∧ g = ticksM a' v' t ∧ k + g = ticksM a v t ∧ motV a' v' = true ∧ Below w.heap.size w wr ∧ Own2 wr w.heap.size (.int .i64 a') (.int .i64 v'))
    case atStart => exact ⟨a, v, 0, rfl, rfl, by omega, HM.out, B, own⟩
    case round =>
      clear B own
      obtain ⟨a', v', k, rfl, rfl, hk, hm', B, own⟩ := hrel
      have c0 := own.c0
      have c1 := own.c1
      have f0 := own.f0
      have f1 := own.f1
      have k1 : k ≤ 1005 := by omega
      have HK := Lib.hid hk; clear hk hle
      have HM' := Lib.hid hm'; clear hm'
      rcases rest_cases a' v' t with ⟨rfl, rfl, e1, e2⟩ | ⟨hn, e1, e2⟩ | ⟨rfl, hn, e1, e2⟩
      · go_wp2
        go_ret
        exact ⟨ret_int (by rw [HZ.out]; have := HK.out; rw [ticksM_rest] at this; omega), B⟩
      · have HN := Lib.hid hn; clear hn
        go_wp2_with (go_at_call 39; refine (c_stepS _ _ _ _).mono ?_; rintro e w1 ⟨rfl, hb⟩; have B := stepB B hb; have own := own.call hb; clear c0 c1 f0 f1; have c0 := own.c0; have c1 := own.c1; have f0 := own.f0; have f1 := own.f1)
        go_roundg (ticksM (stepM a' v' t).1 (stepM a' v' t).2 t)
        case measure => have := ticksM_step HM'.out HT.out HN.out; omega
        case rel => exact ⟨_, _, k + 1, by go_num, rfl, by have := ticksM_step HM'.out HT.out HN.out; have := HK.out; omega, stepM_valid HM'.out HT.out, (by (repeat (first | exact B | refine Below.setCell ?_ (by simp) _))), (own.set0 _).set1 _⟩
      · have HN := Lib.hid hn; clear hn
        go_wp2_with (go_at_call 39; refine (c_stepS _ _ _ _).mono ?_; rintro e w1 ⟨rfl, hb⟩; have B := stepB B hb; have own := own.call hb; clear c0 c1 f0 f1; have c0 := own.c0; have c1 := own.c1; have f0 := own.f0; have f1 := own.f1)
        have hn' : ¬ (a' = a' ∧ v' = 0) := by simpa using HN.out
        go_roundg (ticksM (stepM a' v' a').1 (stepM a' v' a').2 a')
        case measure => have := ticksM_step HM'.out HT.out hn'; omega
        case rel => exact ⟨_, _, k + 1, by go_num, rfl, by have := ticksM_step HM'.out HT.out hn'; have := HK.out; omega, stepM_valid HM'.out HT.out, (by (repeat (first | exact B | refine Below.setCell ?_ (by simp) _))), (own.set0 _).set1 _⟩
end Go.Proofs.Ythmjmlblnikmaaa
