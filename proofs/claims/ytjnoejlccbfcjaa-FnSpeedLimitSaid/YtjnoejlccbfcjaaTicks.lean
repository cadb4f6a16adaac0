/- Contracts of MotionTicks, SpeedLimit and WithinLimit: each returns what its plain function gives, and leaves all memory that was there as it was. No conditions. -/
import Derived.Test.YtjnoejlccbfcjaaDrive
import Derived.Deep.RegionHeld3
import Derived.Deep.Light
namespace Go.Proofs.Ytjnoejlccbfcjaa
open Go.RowKit Go.Joins Pl

theorem rest_cases (a v t : Int) : (a = t ∧ v = 0 ∧ (a != t) = false ∧ (v != 0) = false) ∨ (¬ (a = t ∧ v = 0) ∧ (a != t) = true ∧ True) ∨ (a = t ∧ ¬ (a = t ∧ v = 0) ∧ (a != t) = false ∧ (v != 0) = true) := by
  by_cases h : a = t
  · by_cases h' : v = 0
    · exact .inl ⟨h, h', by simp [h], by simp [h']⟩
    · exact .inr (.inr ⟨h, fun e => h' e.2, by simp [h], by simp [h']⟩)
  · exact .inr (.inl ⟨fun e => h e.1, by simp [h], trivial⟩)
set_option maxHeartbeats 1000000 in
theorem c_limI (a : Int) (up : Bool) (w : World) :
    Calls Try.prog 36 #[.int .i64 a, .bool up] w fun e w' => e = .returned (.int .i64 (speedLimit a up)) ∧ w = w' := by
  rcases speedLimit_cases a up with ⟨ha, hz⟩ | ⟨ha, rfl, hz⟩ | ⟨ha, rfl, hz⟩
  · have HZ := Lib.hid hz; clear hz
    have HA := Lib.hid ha; clear ha
    go_enter Try.func36, Try.ntmps36
    go_wp2_with (go_at_call 58; refine (c_stepValid _ _).mono ?_; rintro e w' ⟨rfl, rfl⟩; rw [HA.out])
    go_ret
    exact ⟨ret_int (by rw [HZ.out]), rfl⟩
  all_goals
    have HZ := Lib.hid hz; clear hz
    obtain ⟨a1, a2⟩ := inB_iff.1 ha
    have HA := Lib.hid ha; clear ha
    go_enter Try.func36, Try.ntmps36
    go_wp2_with (go_at_call 58; refine (c_stepValid _ _).mono ?_; rintro e w' ⟨rfl, rfl⟩; rw [HA.out])
  · go_loop [6, 7] (fun s6 s7 => ∃ j : Nat, j ≤ 5 ∧ s6 = .int .i64 (limF j (60 - a)) ∧ s7 = .int .i64 ((j : Int) + 1)) (fun _ s7 => (6 - intOf s7).toNat)
    case atStart => exact ⟨0, by omega, rfl, by simp⟩
    case round =>
      obtain ⟨j, hj, rfl, rfl⟩ := hrel
      by_cases hlt : j < 5
      · by_cases hb : brake ((j : Int) + 1) ≤ 60 - a
        · have hl : limF (j + 1) (60 - a) = (j : Int) + 1 := by simp [limF, hb]
          have HL := Lib.hid hl; clear hl
          go_wp2_with (go_at_call 20; refine (c_brakeI _ _).mono ?_; rintro e w' ⟨rfl, rfl⟩)
          go_round
          case rel => exact ⟨j + 1, by omega, by rw [HL.out], by go_num⟩
          case measure => simp [intOf]; omega
        · have hl : limF (j + 1) (60 - a) = limF j (60 - a) := by simp [limF, hb]
          have HL := Lib.hid hl; clear hl
          go_wp2_with (go_at_call 20; refine (c_brakeI _ _).mono ?_; rintro e w' ⟨rfl, rfl⟩)
          go_round
          case rel => exact ⟨j + 1, by omega, by rw [HL.out], by go_num⟩
          case measure => simp [intOf]; omega
      · obtain rfl : j = 5 := by omega
        go_wp2
        go_ret
        exact ⟨ret_int (by rw [HZ.out]), rfl⟩
  · go_loop [6, 7] (fun s6 s7 => ∃ j : Nat, j ≤ 5 ∧ s6 = .int .i64 (limF j a) ∧ s7 = .int .i64 ((j : Int) + 1)) (fun _ s7 => (6 - intOf s7).toNat)
    case atStart => exact ⟨0, by omega, rfl, by simp⟩
    case round =>
      obtain ⟨j, hj, rfl, rfl⟩ := hrel
      by_cases hlt : j < 5
      · by_cases hb : brake ((j : Int) + 1) ≤ a
        · have hl : limF (j + 1) a = (j : Int) + 1 := by simp [limF, hb]
          have HL := Lib.hid hl; clear hl
          go_wp2_with (go_at_call 20; refine (c_brakeI _ _).mono ?_; rintro e w' ⟨rfl, rfl⟩)
          go_round
          case rel => exact ⟨j + 1, by omega, by rw [HL.out], by go_num⟩
          case measure => simp [intOf]; omega
        · have hl : limF (j + 1) a = limF j a := by simp [limF, hb]
          have HL := Lib.hid hl; clear hl
          go_wp2_with (go_at_call 20; refine (c_brakeI _ _).mono ?_; rintro e w' ⟨rfl, rfl⟩)
          go_round
          case rel => exact ⟨j + 1, by omega, by rw [HL.out], by go_num⟩
          case measure => simp [intOf]; omega
      · obtain rfl : j = 5 := by omega
        go_wp2
        go_ret
        exact ⟨ret_int (by rw [HZ.out]), rfl⟩
set_option maxHeartbeats 1000000 in
theorem c_limS (a : Int) (up : Bool) (w : World) :
    Calls Try.prog 37 #[.int .i64 a, .bool up] w fun e w' => e = .returned (.int .i64 (speedLimit a up)) ∧ w = w' := by
  rcases speedLimit_cases a up with ⟨ha, hz⟩ | ⟨ha, rfl, hz⟩ | ⟨ha, rfl, hz⟩
  · have HZ := Lib.hid hz; clear hz
    have HA := Lib.hid ha; clear ha
    go_enter Try.func37, Try.ntmps37
    go_wp2_with (go_at_call 56; refine (c_l1In _ _ _ _).mono ?_; rintro e w' ⟨rfl, rfl⟩; rw [HA.out])
    go_ret
    exact ⟨ret_int (by rw [HZ.out]), rfl⟩
  all_goals
    have HZ := Lib.hid hz; clear hz
    obtain ⟨a1, a2⟩ := inB_iff.1 ha
    have HA := Lib.hid ha; clear ha
    go_enter Try.func37, Try.ntmps37
    go_wp2_with (go_at_call 56; refine (c_l1In _ _ _ _).mono ?_; rintro e w' ⟨rfl, rfl⟩; rw [HA.out])
  · go_loop [6] (fun s6 => ∃ j : Nat, j ≤ 5 ∧ (j = 0 ∨ brake (j : Int) ≤ 60 - a) ∧ s6 = .int .i64 (j : Int)) (fun s6 => (5 - intOf s6).toNat)
    case atStart => exact ⟨0, by omega, .inl rfl, rfl⟩
    case round =>
      obtain ⟨j, hj, h1, rfl⟩ := hrel
      have H1 := Lib.hid h1; clear h1
      by_cases hlt : j < 5
      · by_cases hb : brake ((j : Int) + 1) ≤ 60 - a
        · go_wp2_with (go_at_call 21; refine (c_brakeS _ _).mono ?_; rintro e w' ⟨rfl, rfl⟩)
          go_round
          case rel => exact ⟨j + 1, by omega, .inr (by simpa using hb), by go_num⟩
          case measure => simp [intOf]; omega
        · go_wp2_with (go_at_call 21; refine (c_brakeS _ _).mono ?_; rintro e w' ⟨rfl, rfl⟩)
          go_ret
          exact ⟨ret_int (by rw [HZ.out]; exact (limF_of hj H1.out (.inr (by omega)) (by omega)).symm), rfl⟩
      · obtain rfl : j = 5 := by omega
        go_wp2
        go_ret
        exact ⟨ret_int (by rw [HZ.out]; exact (limF_of hj H1.out (.inl rfl) (by omega)).symm), rfl⟩
  · go_loop [6] (fun s6 => ∃ j : Nat, j ≤ 5 ∧ (j = 0 ∨ brake (j : Int) ≤ a) ∧ s6 = .int .i64 (j : Int)) (fun s6 => (5 - intOf s6).toNat)
    case atStart => exact ⟨0, by omega, .inl rfl, rfl⟩
    case round =>
      obtain ⟨j, hj, h1, rfl⟩ := hrel
      have H1 := Lib.hid h1; clear h1
      by_cases hlt : j < 5
      · by_cases hb : brake ((j : Int) + 1) ≤ a
        · go_wp2_with (go_at_call 21; refine (c_brakeS _ _).mono ?_; rintro e w' ⟨rfl, rfl⟩)
          go_round
          case rel => exact ⟨j + 1, by omega, .inr (by simpa using hb), by go_num⟩
          case measure => simp [intOf]; omega
        · go_wp2_with (go_at_call 21; refine (c_brakeS _ _).mono ?_; rintro e w' ⟨rfl, rfl⟩)
          go_ret
          exact ⟨ret_int (by rw [HZ.out]; exact (limF_of hj H1.out (.inr (by omega)) (by omega)).symm), rfl⟩
      · obtain rfl : j = 5 := by omega
        go_wp2
        go_ret
        exact ⟨ret_int (by rw [HZ.out]; exact (limF_of hj H1.out (.inl rfl) (by omega)).symm), rfl⟩
set_option maxHeartbeats 1000000 in
theorem c_withI (a v : Int) (w : World) :
    Calls Try.prog 49 #[.agg #[.int .i64 a, .int .i64 v]] w fun e w' => e = .returned (.bool (withinL a v)) ∧ Below w.heap.size w w' := by
  rcases withinL_cases a v with ⟨hm, hz⟩ | ⟨hm, hv, hz⟩ | ⟨hm, rfl, hz, l1, l2⟩ | ⟨hm, hv, hz⟩
  · have HZ := Lib.hid hz; clear hz
    have HM := Lib.hid hm; clear hm
    go_enter Try.func49, Try.ntmps49
    go_wp2_with (go_at_call 23; refine (c_motVI _ _ _).mono ?_; rintro e w1 ⟨rfl, hb⟩; rw [HM.out])
    go_ret
    exact ⟨ret_bool (by rw [HZ.out]), below_after hb⟩
  all_goals
    have HZ := Lib.hid hz; clear hz
    obtain ⟨⟨a1, a2⟩, v1, v2⟩ := motV_iff.1 hm
    have HM := Lib.hid hm; clear hm
    go_enter Try.func49, Try.ntmps49
    go_wp2_with (go_at_call 23; refine (c_motVI _ _ _).mono ?_; rintro e w1 ⟨rfl, hb⟩; rw [HM.out]; obtain ⟨c0, c1, f0, f1⟩ := cells2 hb (b := w.heap.size) (by simp) (heap_new _ _))
  · have hw : IntKind.i64.wrap (-v) = -v := IntWalk.i64_in _ (by omega)
    go_quiet ((go_at_call 36; exact quiet_left (c_limI _ _ _)))
    clear hw
    go_wp2
    go_ret
    exact ⟨ret_bool (by rw [HZ.out]), below_drewN (below_after hb) _⟩
  · go_quiet ((go_at_call 36; exact quiet_left (c_limI _ _ _)))
    go_wp2
    go_ret
    exact ⟨ret_bool (by rw [HZ.out]), below_drewN (below_after hb) _⟩
  · go_quiet ((go_at_call 36; exact quiet_left (c_limI _ _ _)))
    go_wp2
    go_ret
    exact ⟨ret_bool (by rw [HZ.out]), below_drewN (below_after hb) _⟩
end Go.Proofs.Ytjnoejlccbfcjaa
