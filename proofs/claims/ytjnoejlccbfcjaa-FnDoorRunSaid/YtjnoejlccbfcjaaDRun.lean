/- Contracts of DoorRun: it returns what its plain function gives, and leaves all memory that was there as it was. No conditions but those that stand at each. -/
import Derived.Test.YtjnoejlccbfcjaaDoor
import Derived.Test.YtjnoejlccbfcjaaGov
import Derived.Deep.RegionWith
namespace Go.Proofs.Ytjnoejlccbfcjaa
open Go.RowKit Go.Joins Pl

theorem Own2.dn {w w' : World} {b : Nat} {x y : Value} (h : Own2 w b x y) (d : DN w w') : Own2 w' b x y := h.call d.below
theorem DN.drew (w : World) : DN w w.drew := ⟨1, rfl⟩
set_option maxHeartbeats 4000000 in
theorem c_drI (g h t : Int) (A : Option Addr) (na ca : Nat) (LA : List Int) (A' : Option Addr) (nb cb : Nat) (LB : List Int) (w : World) (hA : Sl w A na LA) (hna : na ≤ 2097152) (hB : Sl w A' nb LB) (hnb : nb ≤ 2097152) :
    Calls Try.prog 42 #[.agg #[.int .i64 g, .int .i64 h], .int .i64 t, .slice A na ca, .slice A' nb cb] w fun e w' => e = .returned (.agg #[.int .i64 (doorRun g h t LA LB).1, .int .i64 (doorRun g h t LA LB).2]) ∧ Below w.heap.size w w' := by
  obtain ⟨B, own, res⟩ := start2 w (.int .i64 g) (.int .i64 h) (.int .i64 0) (.int .i64 0) 35 35
  have c0 : True := trivial
  have c1 : True := trivial
  have f0 : True := trivial
  have f1 : True := trivial
  have r0 : True := trivial
  have r1 : True := trivial
  have g0 : True := trivial
  have g1 : True := trivial
  have hcase : (doorV g h = false ∧ doorRun g h t LA LB = (0, 0)) ∨ (doorV g h = true ∧ inB t 0 99 = false ∧ doorRun g h t LA LB = (0, 0)) ∨ (doorV g h = true ∧ inB t 0 99 = true ∧ doorRun g h t LA LB = doorRunF (g, h) LA LB t.toNat) := by
    unfold doorRun
    rcases doorV g h
    · exact .inl ⟨rfl, rfl⟩
    · rcases inB t 0 99
      · exact .inr (.inl ⟨rfl, rfl, rfl⟩)
      · exact .inr (.inr ⟨rfl, rfl, rfl⟩)
  rcases hcase with ⟨hv, hz⟩ | ⟨hv, ht, hz⟩ | ⟨hv, ht, hz⟩
  · have HZ := Lib.hid hz; clear hz
    have HV := Lib.hid hv; clear hv
    go_enter Try.func42, Try.ntmps42
    go_wp2_with (go_at_call 26; refine (c_doorVI _ _ _).mono ?_; rintro e w1 ⟨rfl, hb⟩; rw [HV.out]; have B := stepB B hb; have own := own.call hb; have res := res.call hb; clear c0 c1 r0 r1 f0 f1 g0 g1; have c0 := own.c0; have c1 := own.c1; have f0 := own.f0; have f1 := own.f1; have r0 := res.c0; have r1 := res.c1; have g0 := res.f0; have g1 := res.f1)
    refine bodyPost_ret ?_ rfl ⟨rfl, ?_⟩
    · rw [HZ.out]; simp [results, Try.results42, go_sem, r0, r1]
    · (repeat (first | exact B | refine Below.setCell ?_ (by simp) _))
  · have HZ := Lib.hid hz; clear hz
    have HV := Lib.hid hv; clear hv
    rcases inB_no ht with h1 | h1
    · clear ht
      go_enter Try.func42, Try.ntmps42
      go_wp2_with (first | (go_at_call 26; refine (c_doorVI _ _ _).mono ?_; rintro e w1 ⟨rfl, hb⟩; rw [HV.out]; have B := stepB B hb; have own := own.call hb; have res := res.call hb; clear c0 c1 r0 r1 f0 f1 g0 g1; have c0 := own.c0; have c1 := own.c1; have f0 := own.f0; have f1 := own.f1; have r0 := res.c0; have r1 := res.c1; have g0 := res.f0; have g1 := res.f1))
      refine bodyPost_ret ?_ rfl ⟨rfl, ?_⟩
      · rw [HZ.out]; simp [results, Try.results42, go_sem, r0, r1]
      · (repeat (first | exact B | refine Below.setCell ?_ (by simp) _))
    · have d0 : decide (t < 0) = false := by simp; omega
      clear ht
      go_enter Try.func42, Try.ntmps42
      go_wp2_with (first | (go_at_call 26; refine (c_doorVI _ _ _).mono ?_; rintro e w1 ⟨rfl, hb⟩; rw [HV.out]; have B := stepB B hb; have own := own.call hb; have res := res.call hb; clear c0 c1 r0 r1 f0 f1 g0 g1; have c0 := own.c0; have c1 := own.c1; have f0 := own.f0; have f1 := own.f1; have r0 := res.c0; have r1 := res.c1; have g0 := res.f0; have g1 := res.f1))
      refine bodyPost_ret ?_ rfl ⟨rfl, ?_⟩
      · rw [HZ.out]; simp [results, Try.results42, go_sem, r0, r1]
      · (repeat (first | exact B | refine Below.setCell ?_ (by simp) _))
  · obtain ⟨t1, t2⟩ := inB_iff.1 ht
    obtain ⟨T, rfl⟩ : ∃ T : Nat, t = (T : Int) := ⟨t.toNat, by omega⟩
    rw [Int.toNat_natCast] at hz
    have HZ := Lib.hid hz; clear hz
    have HV := Lib.hid hv; clear hv
    have HT := Lib.hid ht; clear ht
    have d1 : decide ((T : Int) < 0) = false := decide_eq_false (by omega)
    have d2 : decide ((99 : Int) < (T : Int)) = false := decide_eq_false (by omega)
    go_enter Try.func42, Try.ntmps42
    go_wp2_with (first | (go_at_call 26; refine (c_doorVI _ _ _).mono ?_; rintro e w1 ⟨rfl, hb⟩; rw [HV.out]; have B := stepB B hb; have own := own.call hb; have res := res.call hb; clear c0 c1 r0 r1 f0 f1 g0 g1; have c0 := own.c0; have c1 := own.c1; have f0 := own.f0; have f1 := own.f1; have r0 := res.c0; have r1 := res.c1; have g0 := res.f0; have g1 := res.f1))
    clear c0 c1 f0 f1 r0 r1 g0 g1 d1 d2
    go_loopw [9] (fun s wr => ∃ (k : Nat) (x y : Int), k ≤ T ∧ s = .int .i64 (k : Int) ∧ doorRunF (g, h) LA LB k = (x, y) ∧ Below w.heap.size w wr ∧ Own2 wr w.heap.size (.int .i64 x) (.int .i64 y) ∧ Own2 wr (w.heap.size + 1) (.int .i64 0) (.int .i64 0)) (fun s _ => T - (intOf s).toNat)
    case atStart => exact ⟨0, g, h, by omega, rfl, rfl, B, own, res⟩
    case round =>
      clear B own res
      obtain ⟨k, x, y, hk, rfl, hx, B, own, res⟩ := hrel
      have c0 := own.c0
      have c1 := own.c1
      have f0 := own.f0
      have f1 := own.f1
      have r0 := res.c0
      have r1 := res.c1
      have g0 := res.f0
      have g1 := res.f1
      by_cases hlt : k < T
      · have hnx : doorRunF (g, h) LA LB (k + 1) = doorStep x y (hasI LA (k : Int)) (hasI LB (k : Int)) := by
          show doorStep _ _ _ _ = _
          rw [hx]
        have HN := Lib.hid hnx; clear hnx hx
        have i1 : (k : Int) < (T : Int) := by omega
        go_wp2
        have D := DN.drew wr
        have k0 := own.c0
        have k1 := own.c1
        have sA := hA.call B
        have sB := hB.call B
        go_region_with (first
          | (go_at_call_of 62 (Value.slice A na ca); refine (c_contains _ _ _ _ _ _ (D.sl sA) hna).mono ?_; rintro e w1 ⟨rfl, hd⟩; have D := D.trans hd; have c0 := (D.cell _).trans k0; have c1 := (D.cell _).trans k1)
          | (go_at_call_of 62 (Value.slice A' nb cb); refine (c_contains _ _ _ _ _ _ (D.sl sB) hnb).mono ?_; rintro e w1 ⟨rfl, hd⟩; have D := D.trans hd; have c0 := (D.cell _).trans k0; have c1 := (D.cell _).trans k1)
          | (go_at_call 29; refine (c_doorStepI _ _ _ _ _).mono ?_; rintro e w2 ⟨rfl, hb⟩; have own := (own.dn D).call hb; have res := (res.dn D).call hb; have B := stepB (stepB B D.below) hb; have c0 := own.c0; have c1 := own.c1; have f0 := own.f0; have f1 := own.f1))
        all_goals
          go_wp2
          go_roundw
          case rel => exact ⟨k + 1, _, _, by omega, by go_num, HN.out, (by (repeat (first | exact B | refine Below.setCell ?_ (by simp) _))), (own.set0 _).set1 _, (res.far (by simp) _).far (by simp) _⟩
          case measure => simp [intOf]; omega
      · obtain rfl : T = k := by omega
        have HX := Lib.hid hx; clear hx
        go_wp2
        refine bodyPost_ret ?_ rfl ⟨rfl, ?_⟩
        · rw [HZ.out, HX.out]; simp [results, Try.results42, go_sem, r0, r1]
        · (repeat (first | exact B | refine Below.setCell ?_ (by simp) _))
set_option maxHeartbeats 4000000 in
theorem c_drS (g h t : Int) (A : Option Addr) (na ca : Nat) (LA : List Int) (A' : Option Addr) (nb cb : Nat) (LB : List Int) (w : World) (hA : Sl w A na LA) (hna : na ≤ 2097152) (hB : Sl w A' nb LB) (hnb : nb ≤ 2097152) :
    Calls Try.prog 44 #[.agg #[.int .i64 g, .int .i64 h], .int .i64 t, .slice A na ca, .slice A' nb cb] w fun e w' => e = .returned (.agg #[.int .i64 (doorRun g h t LA LB).1, .int .i64 (doorRun g h t LA LB).2]) ∧ Below w.heap.size w w' := by
  obtain ⟨B, own, res⟩ := start2 w (.int .i64 g) (.int .i64 h) (.int .i64 0) (.int .i64 0) 35 35
  have c0 : True := trivial
  have c1 : True := trivial
  have f0 : True := trivial
  have f1 : True := trivial
  have r0 : True := trivial
  have r1 : True := trivial
  have g0 : True := trivial
  have g1 : True := trivial
  have hcase : (doorV g h = false ∧ doorRun g h t LA LB = (0, 0)) ∨ (doorV g h = true ∧ inB t 0 99 = false ∧ doorRun g h t LA LB = (0, 0)) ∨ (doorV g h = true ∧ inB t 0 99 = true ∧ doorRun g h t LA LB = doorRunF (g, h) LA LB t.toNat) := by
    unfold doorRun
    rcases doorV g h
    · exact .inl ⟨rfl, rfl⟩
    · rcases inB t 0 99
      · exact .inr (.inl ⟨rfl, rfl, rfl⟩)
      · exact .inr (.inr ⟨rfl, rfl, rfl⟩)
  rcases hcase with ⟨hv, hz⟩ | ⟨hv, ht, hz⟩ | ⟨hv, ht, hz⟩
  · have HZ := Lib.hid hz; clear hz
    have HV := Lib.hid hv; clear hv
    go_enter Try.func44, Try.ntmps44
    go_wp2_with (go_at_call 27; refine (c_doorVS _ _ _).mono ?_; rintro e w1 ⟨rfl, hb⟩; rw [HV.out]; have B := stepB B hb; have own := own.call hb; have res := res.call hb; clear c0 c1 r0 r1 f0 f1 g0 g1; have c0 := own.c0; have c1 := own.c1; have f0 := own.f0; have f1 := own.f1; have r0 := res.c0; have r1 := res.c1; have g0 := res.f0; have g1 := res.f1)
    refine bodyPost_ret ?_ rfl ⟨rfl, ?_⟩
    · rw [HZ.out]; simp [results, Try.results44, go_sem, r0, r1]
    · (repeat (first | exact B | refine Below.setCell ?_ (by simp) _))
  · have HZ := Lib.hid hz; clear hz
    have HV := Lib.hid hv; clear hv
    have HT := Lib.hid ht; clear ht
    go_enter Try.func44, Try.ntmps44
    go_wp2_with (first | (go_at_call 27; refine (c_doorVS _ _ _).mono ?_; rintro e w1 ⟨rfl, hb⟩; rw [HV.out]; have B := stepB B hb; have own := own.call hb; have res := res.call hb; clear c0 c1 r0 r1 f0 f1 g0 g1; have c0 := own.c0; have c1 := own.c1; have f0 := own.f0; have f1 := own.f1; have r0 := res.c0; have r1 := res.c1; have g0 := res.f0; have g1 := res.f1) | (go_at_call 56; refine (c_l1In _ _ _ _).mono ?_; rintro e w' ⟨rfl, rfl⟩; rw [HT.out]))
    refine bodyPost_ret ?_ rfl ⟨rfl, ?_⟩
    · rw [HZ.out]; simp [results, Try.results44, go_sem, r0, r1]
    · (repeat (first | exact B | refine Below.setCell ?_ (by simp) _))
  · obtain ⟨t1, t2⟩ := inB_iff.1 ht
    obtain ⟨T, rfl⟩ : ∃ T : Nat, t = (T : Int) := ⟨t.toNat, by omega⟩
    rw [Int.toNat_natCast] at hz
    have HZ := Lib.hid hz; clear hz
    have HV := Lib.hid hv; clear hv
    have HT := Lib.hid ht; clear ht
    have d1 : decide ((T : Int) < 0) = false := decide_eq_false (by omega)
    have d2 : decide ((99 : Int) < (T : Int)) = false := decide_eq_false (by omega)
    go_enter Try.func44, Try.ntmps44
    go_wp2_with (first | (go_at_call 27; refine (c_doorVS _ _ _).mono ?_; rintro e w1 ⟨rfl, hb⟩; rw [HV.out]; have B := stepB B hb; have own := own.call hb; have res := res.call hb; clear c0 c1 r0 r1 f0 f1 g0 g1; have c0 := own.c0; have c1 := own.c1; have f0 := own.f0; have f1 := own.f1; have r0 := res.c0; have r1 := res.c1; have g0 := res.f0; have g1 := res.f1) | (go_at_call 56; refine (c_l1In _ _ _ _).mono ?_; rintro e w' ⟨rfl, rfl⟩; rw [HT.out]))
    clear c0 c1 f0 f1 r0 r1 g0 g1 d1 d2
    go_loopw [9] (fun s wr => ∃ (k : Nat) (x y : Int), k ≤ T ∧ s = .int .i64 (k : Int) ∧ doorRunF (g, h) LA LB k = (x, y) ∧ Below w.heap.size w wr ∧ Own2 wr w.heap.size (.int .i64 x) (.int .i64 y) ∧ Own2 wr (w.heap.size + 1) (.int .i64 0) (.int .i64 0)) (fun s _ => T - (intOf s).toNat)
    case atStart => exact ⟨0, g, h, by omega, rfl, rfl, B, own, res⟩
    case round =>
      clear B own res
      obtain ⟨k, x, y, hk, rfl, hx, B, own, res⟩ := hrel
      have c0 := own.c0
      have c1 := own.c1
      have f0 := own.f0
      have f1 := own.f1
      have r0 := res.c0
      have r1 := res.c1
      have g0 := res.f0
      have g1 := res.f1
      by_cases hlt : k < T
      · have hnx : doorRunF (g, h) LA LB (k + 1) = doorStep x y (hasI LA (k : Int)) (hasI LB (k : Int)) := by
          show doorStep _ _ _ _ = _
          rw [hx]
        have HN := Lib.hid hnx; clear hnx hx
        have i1 : (k : Int) < (T : Int) := by omega
        go_wp2
        have D := DN.drew wr
        have k0 := own.c0
        have k1 := own.c1
        have sA := hA.call B
        have sB := hB.call B
        go_region_with (first
          | (go_at_call_of 63 (Value.slice A na ca); refine (c_has _ _ _ _ _ _ (D.sl sA) hna).mono ?_; rintro e w1 ⟨rfl, hd⟩; have D := D.trans hd; have c0 := (D.cell _).trans k0; have c1 := (D.cell _).trans k1)
          | (go_at_call_of 63 (Value.slice A' nb cb); refine (c_has _ _ _ _ _ _ (D.sl sB) hnb).mono ?_; rintro e w1 ⟨rfl, hd⟩; have D := D.trans hd; have c0 := (D.cell _).trans k0; have c1 := (D.cell _).trans k1)
          | (go_at_call 30; refine (c_doorStepS _ _ _ _ _).mono ?_; rintro e w2 ⟨rfl, hb⟩; have own := (own.dn D).call hb; have res := (res.dn D).call hb; have B := stepB (stepB B D.below) hb; have c0 := own.c0; have c1 := own.c1; have f0 := own.f0; have f1 := own.f1))
        all_goals
          go_wp2
          go_roundw
          case rel => exact ⟨k + 1, _, _, by omega, by go_num, HN.out, (by (repeat (first | exact B | refine Below.setCell ?_ (by simp) _))), (own.set0 _).set1 _, (res.far (by simp) _).far (by simp) _⟩
          case measure => simp [intOf]; omega
      · obtain rfl : T = k := by omega
        have HX := Lib.hid hx; clear hx
        go_wp2
        refine bodyPost_ret ?_ rfl ⟨rfl, ?_⟩
        · rw [HZ.out, HX.out]; simp [results, Try.results44, go_sem, r0, r1]
        · (repeat (first | exact B | refine Below.setCell ?_ (by simp) _))
end Go.Proofs.Ytjnoejlccbfcjaa
