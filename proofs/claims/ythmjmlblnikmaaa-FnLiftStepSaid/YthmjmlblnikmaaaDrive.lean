/- Contracts of drivenSpeed, l2Fits and MotionStep: each returns what its plain function gives, and leaves all memory that was there as it was. No conditions but those that stand at each. -/
import Derived.Test.YthmjmlblnikmaaaMotion
import Derived.Deep.LoopGhost
import Derived.Outline
namespace Go.Proofs.Ythmjmlblnikmaaa
open Go.RowKit Go.Joins Pl

theorem c_fits (a v s t : Int) (w : World) (h1 : -100 ≤ a) (h2 : a ≤ 100) (h3 : -100 ≤ s) (h4 : s ≤ 100) :
    Calls Try.prog 60 #[.agg #[.int .i64 a, .int .i64 v], .int .i64 s, .int .i64 t] w fun e w' => e = .returned (.bool (canStop (a + s) s t)) ∧ Below w.heap.size w w' := by
  go_enter Try.func60, Try.ntmps60
  go_wp2_with (go_at_call 59; refine (c_canS _ _ _ _).mono ?_; rintro e w1 ⟨rfl, hb⟩)
  go_ret
  exact ⟨rfl, below_after2 hb⟩
set_option maxHeartbeats 2000000 in
theorem c_driven (a v t : Int) (w : World) (a1 : 0 ≤ a) (a2 : a ≤ 60) (v1 : -5 ≤ v) (v2 : v ≤ 5) (t1 : 0 ≤ t) (t2 : t ≤ 60) :
    Calls Try.prog 58 #[.agg #[.int .i64 a, .int .i64 v], .int .i64 t] w fun e w' => e = .returned (.int .i64 (driven a v t)) ∧ Below w.heap.size w w' := by
  obtain ⟨B0, own0⟩ := start1 w (.int .i64 a) (.int .i64 v) 25
  go_enter Try.func58, Try.ntmps58
  go_wp2
  go_loopw [5, 6, 7] (fun s5 s6 s7 wr => ∃ (k : Nat) (b : Int) (f : Bool), k ≤ 3 ∧ pickN a t v k = (b, f) ∧ s5 = .int .i64 b ∧ s6 = .bool f ∧ s7 = .int .i64 (v - 1 + (k : Int)) ∧ Below w.heap.size w wr ∧ Own2 wr w.heap.size (.int .i64 a) (.int .i64 v))
    (fun _ _ s7 _ => (v + 3 - intOf s7).toNat)
  case atStart => exact ⟨0, 0, false, by omega, rfl, rfl, rfl, by simp, B0, own0⟩
  case round =>
    obtain ⟨k, b, f, hk, hp, rfl, rfl, rfl, B, own⟩ := hrel
    clear B0 own0
    have hbd := pickN_bd (a := a) (t := t) v1 v2 k hk
    rw [hp] at hbd
    obtain ⟨b1, b2⟩ := hbd
    have c0 := own.c0
    have c1 := own.c1
    by_cases hlt : k < 3
    · have hnx : pickN a t v (k + 1) = pickI a t (b, f) (v - 1 + (k : Int)) := by rw [← hp]; rfl
      obtain ⟨s, hs⟩ : ∃ s, s = v - 1 + (k : Int) := ⟨_, rfl⟩
      rw [← hs] at hnx ⊢
      have s1 : -6 ≤ s := by omega
      have s2 : s ≤ 6 := by omega
      have s3 : s ≤ v + 1 := by omega
      have HS := Lib.hid hs; clear hs
      have HP := Lib.hid hp; clear hp
      have HN := Lib.hid hnx; clear hnx
      rcases hc : canStop (a + s) s t
      · have HC := Lib.hid hc; clear hc
        go_wp2_with (go_at_call 57; refine (c_canI _ _ _ _).mono ?_; rintro e w1 ⟨rfl, hb⟩; rw [HC.out]; have B := stepB B hb; have own := own.call hb)
        go_roundw
        case rel => exact ⟨k + 1, b, f, by omega, by rw [HN.out]; simp [pickI, HC.out], rfl, rfl, (by have := HS.out; rw [show v - 1 + ((k + 1 : Nat) : Int) = s + 1 from by omega]), B, own⟩
        case measure => simp [intOf]; omega
      · have HC := Lib.hid hc; clear hc
        cases f
        · go_wp2_with (go_at_call 57; refine (c_canI _ _ _ _).mono ?_; rintro e w1 ⟨rfl, hb⟩; rw [HC.out]; have B := stepB B hb; have own := own.call hb)
          go_quiet (fail)
          go_wp2
          go_roundw
          case rel => exact ⟨k + 1, s, true, by omega, by rw [HN.out]; simp [pickI, HC.out], rfl, rfl, (by have := HS.out; rw [show v - 1 + ((k + 1 : Nat) : Int) = s + 1 from by omega]), below_drewN B _, own.drewN _⟩
          case measure => simp [intOf]; omega
        · go_wp2_with (go_at_call 57; refine (c_canI _ _ _ _).mono ?_; rintro e w1 ⟨rfl, hb⟩; rw [HC.out]; have B := stepB B hb; have own := own.call hb)
          clear c0 c1
          have c0 := own.c0
          have c1 := own.c1
          have d1 := (dist_bd2 (a := a + s) (b := t) (n := 200) (by omega) (by omega) (by omega) (by omega))
          have d2 := (dist_bd2 (a := a + b) (b := t) (n := 200) (by omega) (by omega) (by omega) (by omega))
          have w1 : IntKind.i64.wrap (a + s) = a + s := IntWalk.i64_in _ (by omega)
          have w2 : IntKind.i64.wrap (a + b) = a + b := IntWalk.i64_in _ (by omega)
          go_quiet ((go_at_call 62; exact quiet_left (c_stepsBetween _ _ _ (by omega) (by omega) (by omega) (by omega))))
          clear w1 w2
          by_cases hlt2 : dist (a + s) t < dist (a + b) t
          · go_wp2
            go_roundw
            case rel => exact ⟨k + 1, s, true, by omega, by rw [HN.out]; simp [pickI, HC.out, hlt2], rfl, rfl, (by have := HS.out; rw [show v - 1 + ((k + 1 : Nat) : Int) = s + 1 from by omega]), below_drewN B _, own.drewN _⟩
            case measure => simp [intOf]; omega
          · go_wp2
            go_roundw
            case rel => exact ⟨k + 1, b, true, by omega, by rw [HN.out]; simp [pickI, HC.out, hlt2], rfl, rfl, (by have := HS.out; rw [show v - 1 + ((k + 1 : Nat) : Int) = s + 1 from by omega]), below_drewN B _, own.drewN _⟩
            case measure => simp [intOf]; omega
    · have hk3 : k = 3 := by omega
      subst hk3
      have hd := pickN_three a t v
      rw [hp] at hd
      have HD := Lib.hid hd; clear hd hp
      go_wp2
      go_ret
      exact ⟨ret_int HD.out, B⟩
set_option maxHeartbeats 4000000 in
theorem c_stepI (a v t : Int) (w : World) :
    Calls Try.prog 35 #[.agg #[.int .i64 a, .int .i64 v], .int .i64 t] w fun e w' => e = .returned (.agg #[.int .i64 (stepM a v t).1, .int .i64 (stepM a v t).2]) ∧ Below w.heap.size w w' := by
  obtain ⟨B, own, res⟩ := start2 w (.int .i64 a) (.int .i64 v) (.int .i64 0) (.int .i64 0) 25 25
  have c0 : True := trivial
  have c1 : True := trivial
  have f0 : True := trivial
  have f1 : True := trivial
  have r0 : True := trivial
  have r1 : True := trivial
  have g0 : True := trivial
  have g1 : True := trivial
  rcases stepM_cases a v t with ⟨hm, hz⟩ | ⟨hm, ht, hz⟩ | ⟨hm, ht, hc, h1, h2, h3, h4, hz⟩ | ⟨hm, ht, hc, h1, h2, h3, hz⟩ | ⟨hm, ht, hc, h1, h2, h3, hz⟩ | ⟨hm, ht, hc, h1, h2, h3, hz⟩ | ⟨hm, ht, hc, h1, h2, h3, hz⟩
  · have HZ := Lib.hid hz; clear hz
    have HM := Lib.hid hm; clear hm
    go_enter Try.func35, Try.ntmps35
    go_wp2_with (go_at_call 44; refine (c_motVI _ _ _).mono ?_; rintro e w1 ⟨rfl, hb⟩; rw [HM.out]; have B := stepB B hb; have own := own.call hb; have res := res.call hb; clear c0 c1 r0 r1 f0 f1 g0 g1; have c0 := own.c0; have c1 := own.c1; have f0 := own.f0; have f1 := own.f1; have r0 := res.c0; have r1 := res.c1; have g0 := res.f0; have g1 := res.f1)
    refine bodyPost_ret ?_ rfl ⟨rfl, ?_⟩
    · rw [HZ.out]; simp [results, Try.results35, go_sem, r0, r1]
    · (repeat (first | exact B | refine Below.setCell ?_ (by simp) _))
  · have HZ := Lib.hid hz; clear hz
    have HM := Lib.hid hm; clear hm
    have HT := Lib.hid ht; clear ht
    go_enter Try.func35, Try.ntmps35
    go_wp2_with (first | (go_at_call 44; refine (c_motVI _ _ _).mono ?_; rintro e w1 ⟨rfl, hb⟩; rw [HM.out]; have B := stepB B hb; have own := own.call hb; have res := res.call hb; clear c0 c1 r0 r1 f0 f1 g0 g1; have c0 := own.c0; have c1 := own.c1; have f0 := own.f0; have f1 := own.f1; have r0 := res.c0; have r1 := res.c1; have g0 := res.f0; have g1 := res.f1) | (go_at_call 56; refine (c_stepValid _ _).mono ?_; rintro e w' ⟨rfl, rfl⟩; rw [HT.out]))
    refine bodyPost_ret ?_ rfl ⟨rfl, ?_⟩
    · rw [HZ.out]; simp [results, Try.results35, go_sem, r0, r1]
    · (repeat (first | exact B | refine Below.setCell ?_ (by simp) _))
  all_goals
    have HZ := Lib.hid hz; clear hz
    obtain ⟨⟨a1, a2⟩, v1, v2⟩ := motV_iff.1 hm
    obtain ⟨t1, t2⟩ := inB_iff.1 ht
    have HM := Lib.hid hm; clear hm
    have HT := Lib.hid ht; clear ht
    have HC := Lib.hid hc; clear hc
    go_enter Try.func35, Try.ntmps35
    go_wp2_with (first | (go_at_call 44; refine (c_motVI _ _ _).mono ?_; rintro e w1 ⟨rfl, hb⟩; rw [HM.out]; have B := stepB B hb; have own := own.call hb; have res := res.call hb; clear c0 c1 r0 r1 f0 f1 g0 g1; have c0 := own.c0; have c1 := own.c1; have f0 := own.f0; have f1 := own.f1; have r0 := res.c0; have r1 := res.c1; have g0 := res.f0; have g1 := res.f1) | (go_at_call 56; refine (c_stepValid _ _).mono ?_; rintro e w' ⟨rfl, rfl⟩; rw [HT.out]) | (go_at_call 57; refine (c_canI _ _ _ _).mono ?_; rintro e w1 ⟨rfl, hb⟩; rw [HC.out]; have B := stepB B hb; have own := own.call hb; have res := res.call hb; clear c0 c1 r0 r1 f0 f1 g0 g1; have c0 := own.c0; have c1 := own.c1; have f0 := own.f0; have f1 := own.f1; have r0 := res.c0; have r1 := res.c1; have g0 := res.f0; have g1 := res.f1) | (go_at_call 58; refine (c_driven _ _ _ _ a1 a2 v1 v2 t1 t2).mono ?_; rintro e w1 ⟨rfl, hb⟩; have B := stepB B hb; have own := own.call hb; have res := res.call hb; clear c0 c1 r0 r1 f0 f1 g0 g1; have c0 := own.c0; have c1 := own.c1; have f0 := own.f0; have f1 := own.f1; have r0 := res.c0; have r1 := res.c1; have g0 := res.f0; have g1 := res.f1))
    refine bodyPost_ret ?_ rfl ⟨rfl, ?_⟩
    · rw [HZ.out]; simp [results, Try.results35, go_sem, r0, r1]
    · (repeat (first | exact B | refine Below.setCell ?_ (by simp) _))
set_option maxHeartbeats 8000000 in
theorem c_stepS (a v t : Int) (w : World) :
    Calls Try.prog 39 #[.agg #[.int .i64 a, .int .i64 v], .int .i64 t] w fun e w' => e = .returned (.agg #[.int .i64 (stepM a v t).1, .int .i64 (stepM a v t).2]) ∧ Below w.heap.size w w' := by
  obtain ⟨B, own, res⟩ := start2 w (.int .i64 a) (.int .i64 v) (.int .i64 0) (.int .i64 0) 25 25
  have c0 : True := trivial
  have c1 : True := trivial
  have f0 : True := trivial
  have f1 : True := trivial
  have r0 : True := trivial
  have r1 : True := trivial
  have g0 : True := trivial
  have g1 : True := trivial
  rcases stepM_cases a v t with ⟨hm, hz⟩ | ⟨hm, ht, hz⟩ | ⟨hm, ht, hc, h1, h2, h3, h4, hz⟩ | ⟨hm, ht, hc, h1, h2, h3, hz⟩ | ⟨hm, ht, hc, h1, h2, h3, hz⟩ | ⟨hm, ht, hc, h1, h2, h3, hz⟩ | ⟨hm, ht, hc, h1, h2, h3, hz⟩
  · have HZ := Lib.hid hz; clear hz
    have HM := Lib.hid hm; clear hm
    go_enter Try.func39, Try.ntmps39
    go_wp2_with (go_at_call 41; refine (c_motVS _ _ _).mono ?_; rintro e w1 ⟨rfl, hb⟩; rw [HM.out]; have B := stepB B hb; have own := own.call hb; have res := res.call hb; clear c0 c1 r0 r1 f0 f1 g0 g1; have c0 := own.c0; have c1 := own.c1; have f0 := own.f0; have f1 := own.f1; have r0 := res.c0; have r1 := res.c1; have g0 := res.f0; have g1 := res.f1)
    refine bodyPost_ret ?_ rfl ⟨rfl, ?_⟩
    · rw [HZ.out]; simp [results, Try.results39, go_sem, r0, r1]
    · (repeat (first | exact B | refine Below.setCell ?_ (by simp) _))
  · have HZ := Lib.hid hz; clear hz
    have HM := Lib.hid hm; clear hm
    have HT := Lib.hid ht; clear ht
    go_enter Try.func39, Try.ntmps39
    go_wp2_with (first | (go_at_call 41; refine (c_motVS _ _ _).mono ?_; rintro e w1 ⟨rfl, hb⟩; rw [HM.out]; have B := stepB B hb; have own := own.call hb; have res := res.call hb; clear c0 c1 r0 r1 f0 f1 g0 g1; have c0 := own.c0; have c1 := own.c1; have f0 := own.f0; have f1 := own.f1; have r0 := res.c0; have r1 := res.c1; have g0 := res.f0; have g1 := res.f1) | (go_at_call 36; refine (c_l1In _ _ _ _).mono ?_; rintro e w' ⟨rfl, rfl⟩; rw [HT.out]))
    refine bodyPost_ret ?_ rfl ⟨rfl, ?_⟩
    · rw [HZ.out]; simp [results, Try.results39, go_sem, r0, r1]
    · (repeat (first | exact B | refine Below.setCell ?_ (by simp) _))
  · have HZ := Lib.hid hz; clear hz
    obtain ⟨⟨a1, a2⟩, v1, v2⟩ := motV_iff.1 hm
    obtain ⟨t1, t2⟩ := inB_iff.1 ht
    have HM := Lib.hid hm; clear hm
    have HT := Lib.hid ht; clear ht
    have HC := Lib.hid hc; clear hc
    obtain ⟨up, hup⟩ : ∃ up, decide (a ≤ t) = up := ⟨_, rfl⟩
    go_enter Try.func39, Try.ntmps39
    go_wp2_with (first | (go_at_call 41; refine (c_motVS _ _ _).mono ?_; rintro e w1 ⟨rfl, hb⟩; rw [HM.out]; have B := stepB B hb; have own := own.call hb; have res := res.call hb; clear c0 c1 r0 r1 f0 f1 g0 g1; have c0 := own.c0; have c1 := own.c1; have f0 := own.f0; have f1 := own.f1; have r0 := res.c0; have r1 := res.c1; have g0 := res.f0; have g1 := res.f1) | (go_at_call 36; refine (c_l1In _ _ _ _).mono ?_; rintro e w' ⟨rfl, rfl⟩; rw [HT.out]) | (go_at_call 59; refine (c_canS _ _ _ _).mono ?_; rintro e w1 ⟨rfl, hb⟩; rw [HC.out]; have B := stepB B hb; have own := own.call hb; have res := res.call hb; clear c0 c1 r0 r1 f0 f1 g0 g1; have c0 := own.c0; have c1 := own.c1; have f0 := own.f0; have f1 := own.f1; have r0 := res.c0; have r1 := res.c1; have g0 := res.f0; have g1 := res.f1))
    have HU := Lib.hid hup; clear hup
    clear c0 c1 f0 f1 r0 r1 g0 g1
    go_loopw [7, 8, 9] (fun s7 s8 s9 wr => ∃ (k : Nat) (b : Int) (f : Bool), k ≤ 3 ∧ pickSN a t v k = (b, f) ∧ s7 = .int .i64 b ∧ s8 = .bool f ∧ s9 = .int .i64 ((k : Int) - 1) ∧ Below w.heap.size w wr ∧ Own2 wr w.heap.size (.int .i64 a) (.int .i64 v) ∧ Own2 wr (w.heap.size + 1) (.int .i64 0) (.int .i64 0))
      (fun _ _ s9 _ => (3 - intOf s9).toNat)
    case atStart => exact ⟨0, 0, false, by omega, rfl, rfl, rfl, by simp, B, own, res⟩
    case round =>
      clear B own res
      obtain ⟨k, b, f, hk, hp, rfl, rfl, rfl, B, own, res⟩ := hrel
      have c0 := own.c0
      have c1 := own.c1
      have f0 := own.f0
      have f1 := own.f1
      have r0 := res.c0
      have r1 := res.c1
      have g0 := res.f0
      have g1 := res.f1
      by_cases hlt : k < 3
      · have hnx : pickSN a t v (k + 1) = pickS a v t (b, f) ((k : Int) - 1) := by rw [← hp]; rfl
        obtain ⟨d, hd⟩ : ∃ d, d = (k : Int) - 1 := ⟨_, rfl⟩
        rw [← hd] at hnx ⊢
        have s1 : -1 ≤ d := by omega
        have s2 : d ≤ 1 := by omega
        have HS := Lib.hid hd; clear hd
        have HP := Lib.hid hp; clear hp
        have HN := Lib.hid hnx; clear hnx
        rcases hi : inB (v + d) (-5) 5
        · have HI := Lib.hid hi; clear hi
          go_wp2_with (first | (go_at_call 36; refine (c_l1In _ _ _ _).mono ?_; rintro e w' ⟨rfl, rfl⟩; rw [HI.out]))
          go_roundw
          case rel => exact ⟨k + 1, b, f, by omega, by rw [HN.out]; simp [pickS, HI.out], rfl, rfl, (by have := HS.out; rw [show ((k + 1 : Nat) : Int) - 1 = d + 1 from by omega]), B, own, res⟩
          case measure => simp [intOf]; omega
        · have HI := Lib.hid hi; clear hi
          rcases hc : canStop (a + (v + d)) (v + d) t
          · have HC2 := Lib.hid hc; clear hc
            go_wp2_with (first | (go_at_call 36; refine (c_l1In _ _ _ _).mono ?_; rintro e w' ⟨rfl, rfl⟩; rw [HI.out]) | (go_at_call 60; refine (c_fits _ _ _ _ _ (by omega) (by omega) (by omega) (by omega)).mono ?_; rintro e w1 ⟨rfl, hb⟩; rw [HC2.out]; have B := stepB B hb; have own := own.call hb; have res := res.call hb; clear c0 c1 r0 r1 f0 f1 g0 g1; have c0 := own.c0; have c1 := own.c1; have f0 := own.f0; have f1 := own.f1; have r0 := res.c0; have r1 := res.c1; have g0 := res.f0; have g1 := res.f1))
            go_roundw
            case rel => exact ⟨k + 1, b, f, by omega, by rw [HN.out]; simp [pickS, HC2.out], rfl, rfl, (by have := HS.out; rw [show ((k + 1 : Nat) : Int) - 1 = d + 1 from by omega]), B, own, res⟩
            case measure => simp [intOf]; omega
          · have HC2 := Lib.hid hc; clear hc
            have hcase : f = false ∨ (f = true ∧ up = true ∧ b < v + d) ∨ (f = true ∧ up = true ∧ v + d ≤ b) ∨ (f = true ∧ up = false ∧ v + d < b) ∨ (f = true ∧ up = false ∧ b ≤ v + d) := by
              cases f <;> cases up <;> simp <;> omega
            rcases hcase with rfl | ⟨rfl, rfl, hx⟩ | ⟨rfl, rfl, hx⟩ | ⟨rfl, rfl, hx⟩ | ⟨rfl, rfl, hx⟩
            all_goals
              have hx' : True := trivial
              try (have hx' : decide (b < v + d) = false := by simp; omega)
              try (have hx' : decide (v + d < b) = false := by simp; omega)
              go_wp2_with (first | (go_at_call 36; refine (c_l1In _ _ _ _).mono ?_; rintro e w' ⟨rfl, rfl⟩; rw [HI.out]) | (go_at_call 60; refine (c_fits _ _ _ _ _ (by omega) (by omega) (by omega) (by omega)).mono ?_; rintro e w1 ⟨rfl, hb⟩; rw [HC2.out]; have B := stepB B hb; have own := own.call hb; have res := res.call hb; clear c0 c1 r0 r1 f0 f1 g0 g1; have c0 := own.c0; have c1 := own.c1; have f0 := own.f0; have f1 := own.f1; have r0 := res.c0; have r1 := res.c1; have g0 := res.f0; have g1 := res.f1))
              go_roundw
              case rel => exact ⟨k + 1, _, _, by omega, by rw [HN.out]; simp [pickS, HC2.out, HI.out, HU.out] <;> omega, rfl, rfl, (by have := HS.out; rw [show ((k + 1 : Nat) : Int) - 1 = d + 1 from by omega]), B, own, res⟩
              case measure => simp [intOf]; omega
      · have hk3 : k = 3 := by omega
        subst hk3
        have hd := pickSN_three a t v
        rw [hp] at hd
        have hd' : b = driven a v t := hd
        subst hd'
        have hi : inB (a + driven a v t) 0 60 = true := inB_mk h3 h4
        have HI := Lib.hid hi; clear hi hd hp
        go_wp2_with (first | (go_at_call 36; refine (c_l1In _ _ _ _).mono ?_; rintro e w' ⟨rfl, rfl⟩; rw [HI.out]))
        refine bodyPost_ret ?_ rfl ⟨rfl, ?_⟩
        · rw [HZ.out]; simp [results, Try.results39, go_sem, r0, r1]
        · (repeat (first | exact B | refine Below.setCell ?_ (by simp) _))
  all_goals
    have HZ := Lib.hid hz; clear hz
    obtain ⟨⟨a1, a2⟩, v1, v2⟩ := motV_iff.1 hm
    obtain ⟨t1, t2⟩ := inB_iff.1 ht
    have HM := Lib.hid hm; clear hm
    have HT := Lib.hid ht; clear ht
    have HC := Lib.hid hc; clear hc
    go_enter Try.func39, Try.ntmps39
    go_wp2_with (first | (go_at_call 41; refine (c_motVS _ _ _).mono ?_; rintro e w1 ⟨rfl, hb⟩; rw [HM.out]; have B := stepB B hb; have own := own.call hb; have res := res.call hb; clear c0 c1 r0 r1 f0 f1 g0 g1; have c0 := own.c0; have c1 := own.c1; have f0 := own.f0; have f1 := own.f1; have r0 := res.c0; have r1 := res.c1; have g0 := res.f0; have g1 := res.f1) | (go_at_call 36; refine (c_l1In _ _ _ _).mono ?_; rintro e w' ⟨rfl, rfl⟩; first | rw [HT.out] | rw [inB_mk h2 h3] | rw [inB_hi h3] | rw [inB_lo h2]) | (go_at_call 59; refine (c_canS _ _ _ _).mono ?_; rintro e w1 ⟨rfl, hb⟩; rw [HC.out]; have B := stepB B hb; have own := own.call hb; have res := res.call hb; clear c0 c1 r0 r1 f0 f1 g0 g1; have c0 := own.c0; have c1 := own.c1; have f0 := own.f0; have f1 := own.f1; have r0 := res.c0; have r1 := res.c1; have g0 := res.f0; have g1 := res.f1))
    all_goals
      refine bodyPost_ret ?_ rfl ⟨rfl, ?_⟩
      · rw [HZ.out]; simp [results, Try.results39, go_sem, r0, r1] <;> omega
      · (repeat (first | exact B | refine Below.setCell ?_ (by simp) _))
end Go.Proofs.Ythmjmlblnikmaaa
