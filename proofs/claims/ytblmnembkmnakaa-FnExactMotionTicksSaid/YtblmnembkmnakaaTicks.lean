/- Contracts of MotionTicks, SpeedLimit and WithinLimit: each returns what its plain function gives, and leaves all memory that was there as it was. No conditions. -/
import Derived.Test.YtblmnembkmnakaaDrive
import Derived.Deep.RegionHeld3
import Derived.Deep.Light
namespace Go.Proofs.Ytblmnembkmnakaa
open Go.RowKit Go.Joins Pl

theorem rest_cases (a v t : Int) : (a = t ∧ v = 0 ∧ (a != t) = false ∧ (v != 0) = false) ∨ (¬ (a = t ∧ v = 0) ∧ (a != t) = true ∧ True) ∨ (a = t ∧ ¬ (a = t ∧ v = 0) ∧ (a != t) = false ∧ (v != 0) = true) := by
  by_cases h : a = t
  · by_cases h' : v = 0
    · exact .inl ⟨h, h', by simp [h], by simp [h']⟩
    · exact .inr (.inr ⟨h, fun e => h' e.2, by simp [h], by simp [h']⟩)
  · exact .inr (.inl ⟨fun e => h e.1, by simp [h], trivial⟩)
set_option maxHeartbeats 4000000 in
theorem c_ticksI (a v t : Int) (w : World) :
    Calls Try.prog 40 #[.agg #[.int .i64 a, .int .i64 v], .int .i64 t] w fun e w' => e = .returned (.int .i64 (tickT a v t)) ∧ Below w.heap.size w w' := by
  obtain ⟨B, own⟩ := start1 w (.int .i64 a) (.int .i64 v) 33
  have c0 : True := trivial
  have c1 : True := trivial
  have f0 : True := trivial
  have f1 : True := trivial
  rcases tickT_cases a v t with ⟨hm, hz⟩ | ⟨hm, ht, hz⟩ | ⟨hm, ht, hz⟩
  · have HZ := Lib.hid hz; clear hz
    have HM := Lib.hid hm; clear hm
    go_enter Try.func40, Try.ntmps40
    go_wp2_with (go_at_call 22; refine (c_motVI _ _ _).mono ?_; rintro e w1 ⟨rfl, hb⟩; rw [HM.out]; have B := stepB B hb; have own := own.call hb; clear c0 c1 f0 f1; have c0 := own.c0; have c1 := own.c1; have f0 := own.f0; have f1 := own.f1)
    go_ret
    exact ⟨ret_int (by rw [HZ.out]), B⟩
  · have HZ := Lib.hid hz; clear hz
    have HM := Lib.hid hm; clear hm
    have HT := Lib.hid ht; clear ht
    go_enter Try.func40, Try.ntmps40
    go_wp2_with (first | (go_at_call 22; refine (c_motVI _ _ _).mono ?_; rintro e w1 ⟨rfl, hb⟩; rw [HM.out]; have B := stepB B hb; have own := own.call hb; clear c0 c1 f0 f1; have c0 := own.c0; have c1 := own.c1; have f0 := own.f0; have f1 := own.f1) | (go_at_call 42; refine (c_stepValid _ _).mono ?_; rintro e w' ⟨rfl, rfl⟩; rw [HT.out]))
    go_ret
    exact ⟨ret_int (by rw [HZ.out]), B⟩
  · have HZ := Lib.hid hz; clear hz
    have HM := Lib.hid hm
    have HT := Lib.hid ht
    clear hm ht
    go_enter Try.func40, Try.ntmps40
    go_wp2_with (first | (go_at_call 22; refine (c_motVI _ _ _).mono ?_; rintro e w1 ⟨rfl, hb⟩; rw [HM.out]; have B := stepB B hb; have own := own.call hb; clear c0 c1 f0 f1; have c0 := own.c0; have c1 := own.c1; have f0 := own.f0; have f1 := own.f1) | (go_at_call 42; refine (c_stepValid _ _).mono ?_; rintro e w' ⟨rfl, rfl⟩; rw [HT.out]))
    clear c0 c1 f0 f1
    have hle := ticksM_le HM.out HT.out
    go_loopg [5] (ticksM a v t) (fun g s5 wr => ∃ (a' v' : Int) (k : Nat), s5 = .int .i64 (k : Int) ∧ g = ticksM a' v' t ∧ k + g = ticksM a v t ∧ motV a' v' = true ∧ Below w.heap.size w wr ∧ Own2 wr w.heap.size (.int .i64 a') (.int .i64 v'))
    case atStart => exact ⟨a, v, 0, rfl, rfl, by omega, HM.out, B, own⟩
    case round =>
      clear B own
      obtain ⟨a', v', k, rfl, rfl, hk, hm', B, own⟩ := hrel
      have c0 := own.c0
      have c1 := own.c1
      have f0 := own.f0
      have f1 := own.f1
      have k1 : k ≤ 1005 := by omega
      have HK := Lib.hid hk; clear hk hle
      have HM' := Lib.hid hm'; clear hm'
      rcases rest_cases a' v' t with ⟨rfl, rfl, e1, e2⟩ | ⟨hn, e1, e2⟩ | ⟨rfl, hn, e1, e2⟩
      · go_wp2
        go_ret
        exact ⟨ret_int (by rw [HZ.out]; have := HK.out; rw [ticksM_rest] at this; omega), B⟩
      · have HN := Lib.hid hn; clear hn
        go_wp2_with (go_at_call 37; refine (c_stepI _ _ _ _).mono ?_; rintro e w1 ⟨rfl, hb⟩; have B := stepB B hb; have own := own.call hb; clear c0 c1 f0 f1; have c0 := own.c0; have c1 := own.c1; have f0 := own.f0; have f1 := own.f1)
        go_roundg (ticksM (stepM a' v' t).1 (stepM a' v' t).2 t)
        case measure => have := ticksM_step HM'.out HT.out HN.out; omega
        case rel => exact ⟨_, _, k + 1, by go_num, rfl, by have := ticksM_step HM'.out HT.out HN.out; have := HK.out; omega, stepM_valid HM'.out HT.out, (by (repeat (first | exact B | refine Below.setCell ?_ (by simp) _))), (own.set0 _).set1 _⟩
      · have HN := Lib.hid hn; clear hn
        go_wp2_with (go_at_call 37; refine (c_stepI _ _ _ _).mono ?_; rintro e w1 ⟨rfl, hb⟩; have B := stepB B hb; have own := own.call hb; clear c0 c1 f0 f1; have c0 := own.c0; have c1 := own.c1; have f0 := own.f0; have f1 := own.f1)
        have hn' : ¬ (a' = a' ∧ v' = 0) := by simpa using HN.out
        go_roundg (ticksM (stepM a' v' a').1 (stepM a' v' a').2 a')
        case measure => have := ticksM_step HM'.out HT.out hn'; omega
        case rel => exact ⟨_, _, k + 1, by go_num, rfl, by have := ticksM_step HM'.out HT.out hn'; have := HK.out; omega, stepM_valid HM'.out HT.out, (by (repeat (first | exact B | refine Below.setCell ?_ (by simp) _))), (own.set0 _).set1 _⟩
set_option maxHeartbeats 4000000 in
theorem c_ticksS (a v t : Int) (w : World) :
    Calls Try.prog 39 #[.agg #[.int .i64 a, .int .i64 v], .int .i64 t] w fun e w' => e = .returned (.int .i64 (tickT a v t)) ∧ Below w.heap.size w w' := by
  obtain ⟨B, own⟩ := start1 w (.int .i64 a) (.int .i64 v) 33
  have c0 : True := trivial
  have c1 : True := trivial
  have f0 : True := trivial
  have f1 : True := trivial
  rcases tickT_cases a v t with ⟨hm, hz⟩ | ⟨hm, ht, hz⟩ | ⟨hm, ht, hz⟩
  · have HZ := Lib.hid hz; clear hz
    have HM := Lib.hid hm; clear hm
    go_enter Try.func39, Try.ntmps39
    go_wp2_with (go_at_call 20; refine (c_motVS _ _ _).mono ?_; rintro e w1 ⟨rfl, hb⟩; rw [HM.out]; have B := stepB B hb; have own := own.call hb; clear c0 c1 f0 f1; have c0 := own.c0; have c1 := own.c1; have f0 := own.f0; have f1 := own.f1)
    go_ret
    exact ⟨ret_int (by rw [HZ.out]), B⟩
  · have HZ := Lib.hid hz; clear hz
    have HM := Lib.hid hm; clear hm
    have HT := Lib.hid ht; clear ht
    go_enter Try.func39, Try.ntmps39
    go_wp2_with (first | (go_at_call 20; refine (c_motVS _ _ _).mono ?_; rintro e w1 ⟨rfl, hb⟩; rw [HM.out]; have B := stepB B hb; have own := own.call hb; clear c0 c1 f0 f1; have c0 := own.c0; have c1 := own.c1; have f0 := own.f0; have f1 := own.f1) | (go_at_call 41; refine (c_l1In _ _ _ _).mono ?_; rintro e w' ⟨rfl, rfl⟩; rw [HT.out]))
    go_ret
    exact ⟨ret_int (by rw [HZ.out]), B⟩
  · have HZ := Lib.hid hz; clear hz
    have HM := Lib.hid hm
    have HT := Lib.hid ht
    clear hm ht
    go_enter Try.func39, Try.ntmps39
    go_wp2_with (first | (go_at_call 20; refine (c_motVS _ _ _).mono ?_; rintro e w1 ⟨rfl, hb⟩; rw [HM.out]; have B := stepB B hb; have own := own.call hb; clear c0 c1 f0 f1; have c0 := own.c0; have c1 := own.c1; have f0 := own.f0; have f1 := own.f1) | (go_at_call 41; refine (c_l1In _ _ _ _).mono ?_; rintro e w' ⟨rfl, rfl⟩; rw [HT.out]))
    clear c0 c1 f0 f1
    have hle := ticksM_le HM.out HT.out
    go_loopg [5] (ticksM a v t) (fun g s5 wr => ∃ (a' v' : Int) (k : Nat), s5 = .int .i64 (k : Int) ∧ g = ticksM a' v' t ∧ k + g = ticksM a v t ∧ motV a' v' = true ∧ Below w.heap.size w wr ∧ Own2 wr w.heap.size (.int .i64 a') (.int .i64 v'))
    case atStart => exact ⟨a, v, 0, rfl, rfl, by omega, HM.out, B, own⟩
    case round =>
      clear B own
      obtain ⟨a', v', k, rfl, rfl, hk, hm', B, own⟩ := hrel
      have c0 := own.c0
      have c1 := own.c1
      have f0 := own.f0
      have f1 := own.f1
      have k1 : k ≤ 1005 := by omega
      have HK := Lib.hid hk; clear hk hle
      have HM' := Lib.hid hm'; clear hm'
      rcases rest_cases a' v' t with ⟨rfl, rfl, e1, e2⟩ | ⟨hn, e1, e2⟩ | ⟨rfl, hn, e1, e2⟩
      · go_wp2
        go_ret
        exact ⟨ret_int (by rw [HZ.out]; have := HK.out; rw [ticksM_rest] at this; omega), B⟩
      · have HN := Lib.hid hn; clear hn
        go_wp2_with (go_at_call 36; refine (c_stepS _ _ _ _).mono ?_; rintro e w1 ⟨rfl, hb⟩; have B := stepB B hb; have own := own.call hb; clear c0 c1 f0 f1; have c0 := own.c0; have c1 := own.c1; have f0 := own.f0; have f1 := own.f1)
        go_roundg (ticksM (stepM a' v' t).1 (stepM a' v' t).2 t)
        case measure => have := ticksM_step HM'.out HT.out HN.out; omega
        case rel => exact ⟨_, _, k + 1, by go_num, rfl, by have := ticksM_step HM'.out HT.out HN.out; have := HK.out; omega, stepM_valid HM'.out HT.out, (by (repeat (first | exact B | refine Below.setCell ?_ (by simp) _))), (own.set0 _).set1 _⟩
      · have HN := Lib.hid hn; clear hn
        go_wp2_with (go_at_call 36; refine (c_stepS _ _ _ _).mono ?_; rintro e w1 ⟨rfl, hb⟩; have B := stepB B hb; have own := own.call hb; clear c0 c1 f0 f1; have c0 := own.c0; have c1 := own.c1; have f0 := own.f0; have f1 := own.f1)
        have hn' : ¬ (a' = a' ∧ v' = 0) := by simpa using HN.out
        go_roundg (ticksM (stepM a' v' a').1 (stepM a' v' a').2 a')
        case measure => have := ticksM_step HM'.out HT.out hn'; omega
        case rel => exact ⟨_, _, k + 1, by go_num, rfl, by have := ticksM_step HM'.out HT.out hn'; have := HK.out; omega, stepM_valid HM'.out HT.out, (by (repeat (first | exact B | refine Below.setCell ?_ (by simp) _))), (own.set0 _).set1 _⟩
set_option maxHeartbeats 1000000 in
theorem c_limI (a : Int) (up : Bool) (w : World) :
    Calls Try.prog 28 #[.int .i64 a, .bool up] w fun e w' => e = .returned (.int .i64 (speedLimit a up)) ∧ w = w' := by
  rcases speedLimit_cases a up with ⟨ha, hz⟩ | ⟨ha, rfl, hz⟩ | ⟨ha, rfl, hz⟩
  · have HZ := Lib.hid hz; clear hz
    have HA := Lib.hid ha; clear ha
    go_enter Try.func28, Try.ntmps28
    go_wp2_with (go_at_call 42; refine (c_stepValid _ _).mono ?_; rintro e w' ⟨rfl, rfl⟩; rw [HA.out])
    go_ret
    exact ⟨ret_int (by rw [HZ.out]), rfl⟩
  all_goals
    have HZ := Lib.hid hz; clear hz
    obtain ⟨a1, a2⟩ := inB_iff.1 ha
    have HA := Lib.hid ha; clear ha
    go_enter Try.func28, Try.ntmps28
    go_wp2_with (go_at_call 42; refine (c_stepValid _ _).mono ?_; rintro e w' ⟨rfl, rfl⟩; rw [HA.out])
  · go_loop [6, 7] (fun s6 s7 => ∃ j : Nat, j ≤ 5 ∧ s6 = .int .i64 (limF j (60 - a)) ∧ s7 = .int .i64 ((j : Int) + 1)) (fun _ s7 => (6 - intOf s7).toNat)
    case atStart => exact ⟨0, by omega, rfl, by simp⟩
    case round =>
      obtain ⟨j, hj, rfl, rfl⟩ := hrel
      by_cases hlt : j < 5
      · by_cases hb : brake ((j : Int) + 1) ≤ 60 - a
        · have hl : limF (j + 1) (60 - a) = (j : Int) + 1 := by simp [limF, hb]
          have HL := Lib.hid hl; clear hl
          go_wp2_with (go_at_call 24; refine (c_brakeI _ _).mono ?_; rintro e w' ⟨rfl, rfl⟩)
          go_round
          case rel => exact ⟨j + 1, by omega, by rw [HL.out], by go_num⟩
          case measure => simp [intOf]; omega
        · have hl : limF (j + 1) (60 - a) = limF j (60 - a) := by simp [limF, hb]
          have HL := Lib.hid hl; clear hl
          go_wp2_with (go_at_call 24; refine (c_brakeI _ _).mono ?_; rintro e w' ⟨rfl, rfl⟩)
          go_round
          case rel => exact ⟨j + 1, by omega, by rw [HL.out], by go_num⟩
          case measure => simp [intOf]; omega
      · obtain rfl : j = 5 := by omega
        go_wp2
        go_ret
        exact ⟨ret_int (by rw [HZ.out]), rfl⟩
  · go_loop [6, 7] (fun s6 s7 => ∃ j : Nat, j ≤ 5 ∧ s6 = .int .i64 (limF j a) ∧ s7 = .int .i64 ((j : Int) + 1)) (fun _ s7 => (6 - intOf s7).toNat)
    case atStart => exact ⟨0, by omega, rfl, by simp⟩
    case round =>
      obtain ⟨j, hj, rfl, rfl⟩ := hrel
      by_cases hlt : j < 5
      · by_cases hb : brake ((j : Int) + 1) ≤ a
        · have hl : limF (j + 1) a = (j : Int) + 1 := by simp [limF, hb]
          have HL := Lib.hid hl; clear hl
          go_wp2_with (go_at_call 24; refine (c_brakeI _ _).mono ?_; rintro e w' ⟨rfl, rfl⟩)
          go_round
          case rel => exact ⟨j + 1, by omega, by rw [HL.out], by go_num⟩
          case measure => simp [intOf]; omega
        · have hl : limF (j + 1) a = limF j a := by simp [limF, hb]
          have HL := Lib.hid hl; clear hl
          go_wp2_with (go_at_call 24; refine (c_brakeI _ _).mono ?_; rintro e w' ⟨rfl, rfl⟩)
          go_round
          case rel => exact ⟨j + 1, by omega, by rw [HL.out], by go_num⟩
          case measure => simp [intOf]; omega
      · obtain rfl : j = 5 := by omega
        go_wp2
        go_ret
        exact ⟨ret_int (by rw [HZ.out]), rfl⟩
set_option maxHeartbeats 1000000 in
theorem c_limS (a : Int) (up : Bool) (w : World) :
    Calls Try.prog 27 #[.int .i64 a, .bool up] w fun e w' => e = .returned (.int .i64 (speedLimit a up)) ∧ w = w' := by
  rcases speedLimit_cases a up with ⟨ha, hz⟩ | ⟨ha, rfl, hz⟩ | ⟨ha, rfl, hz⟩
  · have HZ := Lib.hid hz; clear hz
    have HA := Lib.hid ha; clear ha
    go_enter Try.func27, Try.ntmps27
    go_wp2_with (go_at_call 41; refine (c_l1In _ _ _ _).mono ?_; rintro e w' ⟨rfl, rfl⟩; rw [HA.out])
    go_ret
    exact ⟨ret_int (by rw [HZ.out]), rfl⟩
  all_goals
    have HZ := Lib.hid hz; clear hz
    obtain ⟨a1, a2⟩ := inB_iff.1 ha
    have HA := Lib.hid ha; clear ha
    go_enter Try.func27, Try.ntmps27
    go_wp2_with (go_at_call 41; refine (c_l1In _ _ _ _).mono ?_; rintro e w' ⟨rfl, rfl⟩; rw [HA.out])
  · go_loop [6] (fun s6 => ∃ j : Nat, j ≤ 5 ∧ (j = 0 ∨ brake (j : Int) ≤ 60 - a) ∧ s6 = .int .i64 (j : Int)) (fun s6 => (5 - intOf s6).toNat)
    case atStart => exact ⟨0, by omega, .inl rfl, rfl⟩
    case round =>
      obtain ⟨j, hj, h1, rfl⟩ := hrel
      have H1 := Lib.hid h1; clear h1
      by_cases hlt : j < 5
      · by_cases hb : brake ((j : Int) + 1) ≤ 60 - a
        · go_wp2_with (go_at_call 23; refine (c_brakeS _ _).mono ?_; rintro e w' ⟨rfl, rfl⟩)
          go_round
          case rel => exact ⟨j + 1, by omega, .inr (by simpa using hb), by go_num⟩
          case measure => simp [intOf]; omega
        · go_wp2_with (go_at_call 23; refine (c_brakeS _ _).mono ?_; rintro e w' ⟨rfl, rfl⟩)
          go_ret
          exact ⟨ret_int (by rw [HZ.out]; exact (limF_of hj H1.out (.inr (by omega)) (by omega)).symm), rfl⟩
      · obtain rfl : j = 5 := by omega
        go_wp2
        go_ret
        exact ⟨ret_int (by rw [HZ.out]; exact (limF_of hj H1.out (.inl rfl) (by omega)).symm), rfl⟩
  · go_loop [6] (fun s6 => ∃ j : Nat, j ≤ 5 ∧ (j = 0 ∨ brake (j : Int) ≤ a) ∧ s6 = .int .i64 (j : Int)) (fun s6 => (5 - intOf s6).toNat)
    case atStart => exact ⟨0, by omega, .inl rfl, rfl⟩
    case round =>
      obtain ⟨j, hj, h1, rfl⟩ := hrel
      have H1 := Lib.hid h1; clear h1
      by_cases hlt : j < 5
      · by_cases hb : brake ((j : Int) + 1) ≤ a
        · go_wp2_with (go_at_call 23; refine (c_brakeS _ _).mono ?_; rintro e w' ⟨rfl, rfl⟩)
          go_round
          case rel => exact ⟨j + 1, by omega, .inr (by simpa using hb), by go_num⟩
          case measure => simp [intOf]; omega
        · go_wp2_with (go_at_call 23; refine (c_brakeS _ _).mono ?_; rintro e w' ⟨rfl, rfl⟩)
          go_ret
          exact ⟨ret_int (by rw [HZ.out]; exact (limF_of hj H1.out (.inr (by omega)) (by omega)).symm), rfl⟩
      · obtain rfl : j = 5 := by omega
        go_wp2
        go_ret
        exact ⟨ret_int (by rw [HZ.out]; exact (limF_of hj H1.out (.inl rfl) (by omega)).symm), rfl⟩
set_option maxHeartbeats 1000000 in
theorem c_withI (a v : Int) (w : World) :
    Calls Try.prog 35 #[.agg #[.int .i64 a, .int .i64 v]] w fun e w' => e = .returned (.bool (withinL a v)) ∧ Below w.heap.size w w' := by
  rcases withinL_cases a v with ⟨hm, hz⟩ | ⟨hm, hv, hz⟩ | ⟨hm, rfl, hz, l1, l2⟩ | ⟨hm, hv, hz⟩
  · have HZ := Lib.hid hz; clear hz
    have HM := Lib.hid hm; clear hm
    go_enter Try.func35, Try.ntmps35
    go_wp2_with (go_at_call 22; refine (c_motVI _ _ _).mono ?_; rintro e w1 ⟨rfl, hb⟩; rw [HM.out])
    go_ret
    exact ⟨ret_bool (by rw [HZ.out]), below_after hb⟩
  all_goals
    have HZ := Lib.hid hz; clear hz
    obtain ⟨⟨a1, a2⟩, v1, v2⟩ := motV_iff.1 hm
    have HM := Lib.hid hm; clear hm
    go_enter Try.func35, Try.ntmps35
    go_wp2_with (go_at_call 22; refine (c_motVI _ _ _).mono ?_; rintro e w1 ⟨rfl, hb⟩; rw [HM.out]; obtain ⟨c0, c1, f0, f1⟩ := cells2 hb (b := w.heap.size) (by simp) (heap_new _ _))
  · have hw : IntKind.i64.wrap (-v) = -v := IntWalk.i64_in _ (by omega)
    go_quiet ((go_at_call 28; exact quiet_left (c_limI _ _ _)))
    clear hw
    go_wp2
    go_ret
    exact ⟨ret_bool (by rw [HZ.out]), below_drewN (below_after hb) _⟩
  · go_quiet ((go_at_call 28; exact quiet_left (c_limI _ _ _)))
    go_wp2
    go_ret
    exact ⟨ret_bool (by rw [HZ.out]), below_drewN (below_after hb) _⟩
  · go_quiet ((go_at_call 28; exact quiet_left (c_limI _ _ _)))
    go_wp2
    go_ret
    exact ⟨ret_bool (by rw [HZ.out]), below_drewN (below_after hb) _⟩
end Go.Proofs.Ytblmnembkmnakaa
