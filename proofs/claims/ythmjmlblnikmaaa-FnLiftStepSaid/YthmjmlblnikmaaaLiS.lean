/- Contracts of LiftStep: it returns what its plain function gives, and leaves all memory that was there as it was. No conditions but those that stand at each. -/
import Derived.Test.YthmjmlblnikmaaaLif
import Derived.Test.YthmjmlblnikmaaaFloB
namespace Go.Proofs.Ythmjmlblnikmaaa
open Go.RowKit Go.Joins Pl

theorem DN.drew1 (w : World) : DN w w.drew := ⟨1, rfl⟩
theorem Sl.cellAt {w : World} {A : Option Addr} {n : Nat} {L : List Int} {b o k : Nat} (h : Sl w A n L) (e : A = some ⟨b, o, none⟩) (hk : k < n) : w.cell? ⟨b, o + k, none⟩ = some (.int .i64 (nth L k)) := by
  obtain ⟨b', o', e', _, hc⟩ := h.2 (by omega)
  rw [e] at e'
  obtain ⟨rfl, rfl⟩ : b = b' ∧ o = o' := by simpa using e'
  exact hc k hk
theorem liftStep_cases (L : List Int) (a v g h t : Int) (ask bl : Bool) : (liftV L a v g h = false ∧ liftStep L ⟨a, v, g, h⟩ t ask bl = ⟨0, 0, 0, 0⟩) ∨ (liftV L a v g h = true ∧ isFl L t = false ∧ liftStep L ⟨a, v, g, h⟩ t ask bl = ⟨0, 0, 0, 0⟩) ∨
    ∃ k : Nat, k < L.length ∧ t = (k : Int) ∧ liftV L a v g h = true ∧ isFl L t = true ∧
      ((0 < g ∧ 0 ≤ standF L a v ∧ liftStep L ⟨a, v, g, h⟩ t ask bl = ⟨a, v, (doorStep g h ask bl).1, (doorStep g h ask bl).2⟩) ∨
       (g = 0 ∧ h = 0 ∧ ask = true ∧ 0 ≤ standF L a v ∧ liftStep L ⟨a, v, g, h⟩ t ask bl = ⟨a, v, (doorStep g h ask bl).1, (doorStep g h ask bl).2⟩) ∨
       (g = 0 ∧ h = 0 ∧ ask = true ∧ standF L a v < 0 ∧ liftStep L ⟨a, v, g, h⟩ t ask bl = ⟨(stepM a v (nth L k)).1, (stepM a v (nth L k)).2, g, h⟩) ∨
       (g = 0 ∧ h = 0 ∧ ask = false ∧ liftStep L ⟨a, v, g, h⟩ t ask bl = ⟨(stepM a v (nth L k)).1, (stepM a v (nth L k)).2, g, h⟩)) := by
  by_cases hv : liftV L a v g h = true
  · by_cases ht : isFl L t = true
    · refine .inr (.inr ?_)
      obtain ⟨k, hk, rfl⟩ := isFl_nat ht
      obtain ⟨_, _, hd, hs⟩ := liftV_iff.1 hv
      refine ⟨k, hk, rfl, hv, ht, ?_⟩
      by_cases hg : 0 < g
      · refine .inl ⟨hg, ?_, liftStep_door (x := ⟨a, v, g, h⟩) hv ht ask bl (.inl hg)⟩
        rcases hs with hs | hs
        · omega
        · exact hs
      · obtain ⟨rfl, rfl⟩ := gate_closed hd hg
        cases ask
        · exact .inr (.inr (.inr ⟨rfl, rfl, rfl, liftStep_move (x := ⟨a, v, 0, 0⟩) hv hk false bl (by simp)⟩))
        · by_cases hst : 0 ≤ standF L a v
          · exact .inr (.inl ⟨rfl, rfl, rfl, hst, liftStep_door (x := ⟨a, v, 0, 0⟩) hv ht true bl (.inr ⟨rfl, hst⟩)⟩)
          · exact .inr (.inr (.inl ⟨rfl, rfl, rfl, by omega, liftStep_move (x := ⟨a, v, 0, 0⟩) hv hk true bl (by simp; omega)⟩))
    · exact .inr (.inl ⟨hv, by simpa using ht, by unfold liftStep; simp [ht]⟩)
  · exact .inl ⟨by simpa using hv, by unfold liftStep; simp [hv]⟩
theorem stand_cases (L : List Int) (a v : Int) : (v = 0 ∧ standF L a v = floorAt L a) ∨ ((v == 0) = false ∧ standF L a v = -1) := by
  by_cases hv : v = 0
  · exact .inl ⟨hv, if_pos hv⟩
  · exact .inr ⟨by simp [hv], if_neg hv⟩
set_option maxHeartbeats 8000000 in
theorem c_lstI (A : Option Addr) (n c : Nat) (L : List Int) (a v g h t : Int) (ask bl : Bool) (w : World) (hS : Sl w A n L) (hn : n ≤ 2097152) :
    Calls Try.prog 12 #[.slice A n c, .agg #[.int .i64 a, .int .i64 v, .int .i64 g, .int .i64 h], .int .i64 t, .bool ask, .bool bl] w fun e w' => e = .returned (.agg #[.int .i64 (liftStep L ⟨a, v, g, h⟩ t ask bl).a, .int .i64 (liftStep L ⟨a, v, g, h⟩ t ask bl).v, .int .i64 (liftStep L ⟨a, v, g, h⟩ t ask bl).g, .int .i64 (liftStep L ⟨a, v, g, h⟩ t ask bl).h]) ∧ Below w.heap.size w w' := by
  obtain ⟨B, own, res⟩ := start44 w (.int .i64 a) (.int .i64 v) (.int .i64 g) (.int .i64 h) (.int .i64 0) (.int .i64 0) (.int .i64 0) (.int .i64 0) 29 29
  have sl := (hS.alloc (.cells #[.int .i64 a, .int .i64 v, .int .i64 g, .int .i64 h] 29)).alloc (.cells #[.int .i64 0, .int .i64 0, .int .i64 0, .int .i64 0] 29)
  have hl := hS.1
  have HL := Lib.hid hl; clear hl
  have c0 : True := trivial
  have c1 : True := trivial
  have c2 : True := trivial
  have c3 : True := trivial
  have f0 : True := trivial
  have f1 : True := trivial
  have f2 : True := trivial
  have f3 : True := trivial
  have r0 : True := trivial
  have r1 : True := trivial
  have r2 : True := trivial
  have r3 : True := trivial
  have q0 : True := trivial
  have q1 : True := trivial
  have q2 : True := trivial
  have q3 : True := trivial
  rcases liftStep_cases L a v g h t ask bl with ⟨hv, hz⟩ | ⟨hv, ht, hz⟩ | ⟨k, hk, rfl, hv, ht, hc⟩
  · have HZ := Lib.hid hz; clear hz
    have HV := Lib.hid hv; clear hv
    go_enter Try.func12, Try.ntmps12
    go_wp2_with (go_at_call 16; refine (c_lvI _ _ _ _ _ _ _ _ _ sl hn).mono ?_; rintro e w1 ⟨rfl, hb⟩; rw [HV.out]; have B := stepB B hb; have own := own.call hb; have res := res.call hb; have sl := sl.call hb; clear c0 c1 c2 c3 f0 f1 f2 f3 r0 r1 r2 r3 q0 q1 q2 q3; have c0 := own.c0; have c1 := own.c1; have c2 := own.c2; have c3 := own.c3; have f0 := own.f0; have f1 := own.f1; have f2 := own.f2; have f3 := own.f3; have r0 := res.c0; have r1 := res.c1; have r2 := res.c2; have r3 := res.c3; have q0 := res.f0; have q1 := res.f1; have q2 := res.f2; have q3 := res.f3)
    refine bodyPost_ret ?_ rfl ⟨rfl, ?_⟩
    · rw [HZ.out]; simp [results, Try.results12, go_sem, r0, r1, r2, r3]
    · (repeat (first | refine Below.setCell ?_ (by simp) _ | exact B))
  · have HZ := Lib.hid hz; clear hz
    have HV := Lib.hid hv; clear hv
    have ht' : inB t 0 ((n : Int) - 1) = false := by rw [← HL.out]; exact ht
    have HT := Lib.hid ht'; clear ht ht'
    go_enter Try.func12, Try.ntmps12
    go_wp2_with (first | (go_at_call 16; refine (c_lvI _ _ _ _ _ _ _ _ _ sl hn).mono ?_; rintro e w1 ⟨rfl, hb⟩; rw [HV.out]; have B := stepB B hb; have own := own.call hb; have res := res.call hb; have sl := sl.call hb; clear c0 c1 c2 c3 f0 f1 f2 f3 r0 r1 r2 r3 q0 q1 q2 q3; have c0 := own.c0; have c1 := own.c1; have c2 := own.c2; have c3 := own.c3; have f0 := own.f0; have f1 := own.f1; have f2 := own.f2; have f3 := own.f3; have r0 := res.c0; have r1 := res.c1; have r2 := res.c2; have r3 := res.c3; have q0 := res.f0; have q1 := res.f1; have q2 := res.f2; have q3 := res.f3) | (go_at_call 32; refine (c_isFloor _ _ false HT.out _).mono ?_; rintro e w' ⟨rfl, rfl⟩))
    refine bodyPost_ret ?_ rfl ⟨rfl, ?_⟩
    · rw [HZ.out]; simp [results, Try.results12, go_sem, r0, r1, r2, r3]
    · (repeat (first | refine Below.setCell ?_ (by simp) _ | exact B))
  have HV := Lib.hid hv; clear hv
  have ht' : inB (k : Int) 0 ((n : Int) - 1) = true := by rw [← HL.out]; exact ht
  have HT := Lib.hid ht'; clear ht ht'
  rw [HL.out] at hk
  have i1 : (k : Int) < (n : Int) := by omega
  obtain ⟨b, o, hA, _, _⟩ := hS.2 (by omega)
  subst hA
  rcases hc with ⟨h1, h2, hz⟩ | ⟨rfl, rfl, rfl, h2, hz⟩ | ⟨rfl, rfl, rfl, h2, hz⟩ | ⟨rfl, rfl, rfl, hz⟩
  all_goals
    have HZ := Lib.hid hz; clear hz
    go_enter Try.func12, Try.ntmps12
    go_wp2_with (first | (go_at_call 16; refine (c_lvI _ _ _ _ _ _ _ _ _ sl hn).mono ?_; rintro e w1 ⟨rfl, hb⟩; rw [HV.out]; have B := stepB B hb; have own := own.call hb; have res := res.call hb; have sl := sl.call hb; clear c0 c1 c2 c3 f0 f1 f2 f3 r0 r1 r2 r3 q0 q1 q2 q3; have c0 := own.c0; have c1 := own.c1; have c2 := own.c2; have c3 := own.c3; have f0 := own.f0; have f1 := own.f1; have f2 := own.f2; have f3 := own.f3; have r0 := res.c0; have r1 := res.c1; have r2 := res.c2; have r3 := res.c3; have q0 := res.f0; have q1 := res.f1; have q2 := res.f2; have q3 := res.f3) | (go_at_call 32; refine (c_isFloor _ _ true HT.out _).mono ?_; rintro e w' ⟨rfl, rfl⟩) | (go_at_call 33; refine (c_standI _ _ _ _ _ _ _ sl hn).mono ?_; rintro e w1 ⟨rfl, hb⟩; have B := stepB B hb; have own := own.call hb; have res := res.call hb; have sl := sl.call hb; clear c0 c1 c2 c3 f0 f1 f2 f3 r0 r1 r2 r3 q0 q1 q2 q3; have c0 := own.c0; have c1 := own.c1; have c2 := own.c2; have c3 := own.c3; have f0 := own.f0; have f1 := own.f1; have f2 := own.f2; have f3 := own.f3; have r0 := res.c0; have r1 := res.c1; have r2 := res.c2; have r3 := res.c3; have q0 := res.f0; have q1 := res.f1; have q2 := res.f2; have q3 := res.f3) | (go_at_call 34; refine (c_doorStepI _ _ _ _ _).mono ?_; rintro e w1 ⟨rfl, hb⟩; have B := stepB B hb; have own := own.call hb; have res := res.call hb; have sl := sl.call hb; clear c0 c1 c2 c3 f0 f1 f2 f3 r0 r1 r2 r3 q0 q1 q2 q3; have c0 := own.c0; have c1 := own.c1; have c2 := own.c2; have c3 := own.c3; have f0 := own.f0; have f1 := own.f1; have f2 := own.f2; have f3 := own.f3; have r0 := res.c0; have r1 := res.c1; have r2 := res.c2; have r3 := res.c3; have q0 := res.f0; have q1 := res.f1; have q2 := res.f2; have q3 := res.f3))
  · refine bodyPost_ret ?_ rfl ⟨rfl, ?_⟩
    · rw [HZ.out]; simp [results, Try.results12, go_sem, r0, r1, r2, r3]
    · (repeat (first | refine Below.setCell ?_ (by simp) _ | exact B))
  · refine bodyPost_ret ?_ rfl ⟨rfl, ?_⟩
    · rw [HZ.out]; simp [results, Try.results12, go_sem, r0, r1, r2, r3]
    · (repeat (first | refine Below.setCell ?_ (by simp) _ | exact B))
  all_goals
    have ck := sl.cellAt rfl hk
    go_region_with (first | (go_at_call 35; refine (c_stepI _ _ _ _).mono ?_; rintro e w3 ⟨rfl, hb⟩; have B := stepB (stepB B (DN.drew1 _).below) hb; have own := (own.dn (DN.drew1 _)).call hb; have res := (res.dn (DN.drew1 _)).call hb; clear c0 c1 c2 c3 f0 f1 f2 f3 r0 r1 r2 r3 q0 q1 q2 q3; have c0 := own.c0; have c1 := own.c1; have c2 := own.c2; have c3 := own.c3; have f0 := own.f0; have f1 := own.f1; have f2 := own.f2; have f3 := own.f3; have r0 := res.c0; have r1 := res.c1; have r2 := res.c2; have r3 := res.c3; have q0 := res.f0; have q1 := res.f1; have q2 := res.f2; have q3 := res.f3))
    all_goals
      go_wp2
      refine bodyPost_ret ?_ rfl ⟨rfl, ?_⟩
      · rw [HZ.out]; simp [results, Try.results12, go_sem, r0, r1, r2, r3]
      · (repeat (first | refine Below.setCell ?_ (by simp) _ | exact B))
set_option maxHeartbeats 8000000 in
theorem c_lstS (A : Option Addr) (n c : Nat) (L : List Int) (a v g h t : Int) (ask bl : Bool) (w : World) (hS : Sl w A n L) (hn : n ≤ 2097152) :
    Calls Try.prog 13 #[.slice A n c, .agg #[.int .i64 a, .int .i64 v, .int .i64 g, .int .i64 h], .int .i64 t, .bool ask, .bool bl] w fun e w' => e = .returned (.agg #[.int .i64 (liftStep L ⟨a, v, g, h⟩ t ask bl).a, .int .i64 (liftStep L ⟨a, v, g, h⟩ t ask bl).v, .int .i64 (liftStep L ⟨a, v, g, h⟩ t ask bl).g, .int .i64 (liftStep L ⟨a, v, g, h⟩ t ask bl).h]) ∧ Below w.heap.size w w' := by
  obtain ⟨B, own, res⟩ := start44 w (.int .i64 a) (.int .i64 v) (.int .i64 g) (.int .i64 h) (.int .i64 0) (.int .i64 0) (.int .i64 0) (.int .i64 0) 29 29
  have sl := (hS.alloc (.cells #[.int .i64 a, .int .i64 v, .int .i64 g, .int .i64 h] 29)).alloc (.cells #[.int .i64 0, .int .i64 0, .int .i64 0, .int .i64 0] 29)
  have hl := hS.1
  have HL := Lib.hid hl; clear hl
  have c0 : True := trivial
  have c1 : True := trivial
  have c2 : True := trivial
  have c3 : True := trivial
  have f0 : True := trivial
  have f1 : True := trivial
  have f2 : True := trivial
  have f3 : True := trivial
  have r0 : True := trivial
  have r1 : True := trivial
  have r2 : True := trivial
  have r3 : True := trivial
  have q0 : True := trivial
  have q1 : True := trivial
  have q2 : True := trivial
  have q3 : True := trivial
  rcases liftStep_cases L a v g h t ask bl with ⟨hv, hz⟩ | ⟨hv, ht, hz⟩ | ⟨k, hk, rfl, hv, ht, hc⟩
  · have HZ := Lib.hid hz; clear hz
    have HV := Lib.hid hv; clear hv
    go_enter Try.func13, Try.ntmps13
    go_wp2_with (go_at_call 14; refine (c_lvS _ _ _ _ _ _ _ _ _ sl hn).mono ?_; rintro e w1 ⟨rfl, hb⟩; rw [HV.out]; have B := stepB B hb; have own := own.call hb; have res := res.call hb; have sl := sl.call hb; clear c0 c1 c2 c3 f0 f1 f2 f3 r0 r1 r2 r3 q0 q1 q2 q3; have c0 := own.c0; have c1 := own.c1; have c2 := own.c2; have c3 := own.c3; have f0 := own.f0; have f1 := own.f1; have f2 := own.f2; have f3 := own.f3; have r0 := res.c0; have r1 := res.c1; have r2 := res.c2; have r3 := res.c3; have q0 := res.f0; have q1 := res.f1; have q2 := res.f2; have q3 := res.f3)
    refine bodyPost_ret ?_ rfl ⟨rfl, ?_⟩
    · rw [HZ.out]; simp [results, Try.results13, go_sem, r0, r1, r2, r3]
    · (repeat (first | refine Below.setCell ?_ (by simp) _ | exact B))
  · have HZ := Lib.hid hz; clear hz
    have HV := Lib.hid hv; clear hv
    have ht' : inB t 0 ((n : Int) - 1) = false := by rw [← HL.out]; exact ht
    have HT := Lib.hid ht'; clear ht ht'
    go_enter Try.func13, Try.ntmps13
    go_wp2_with (first | (go_at_call 14; refine (c_lvS _ _ _ _ _ _ _ _ _ sl hn).mono ?_; rintro e w1 ⟨rfl, hb⟩; rw [HV.out]; have B := stepB B hb; have own := own.call hb; have res := res.call hb; have sl := sl.call hb; clear c0 c1 c2 c3 f0 f1 f2 f3 r0 r1 r2 r3 q0 q1 q2 q3; have c0 := own.c0; have c1 := own.c1; have c2 := own.c2; have c3 := own.c3; have f0 := own.f0; have f1 := own.f1; have f2 := own.f2; have f3 := own.f3; have r0 := res.c0; have r1 := res.c1; have r2 := res.c2; have r3 := res.c3; have q0 := res.f0; have q1 := res.f1; have q2 := res.f2; have q3 := res.f3) | (go_at_call 36; refine (c_l1In_at _ _ _ false HT.out _).mono ?_; rintro e w' ⟨rfl, rfl⟩))
    refine bodyPost_ret ?_ rfl ⟨rfl, ?_⟩
    · rw [HZ.out]; simp [results, Try.results13, go_sem, r0, r1, r2, r3]
    · (repeat (first | refine Below.setCell ?_ (by simp) _ | exact B))
  have HV := Lib.hid hv; clear hv
  have ht' : inB (k : Int) 0 ((n : Int) - 1) = true := by rw [← HL.out]; exact ht
  have HT := Lib.hid ht'; clear ht ht'
  rw [HL.out] at hk
  have i1 : (k : Int) < (n : Int) := by omega
  obtain ⟨b, o, hA, _, _⟩ := hS.2 (by omega)
  subst hA
  rcases stand_cases L a v with ⟨rfl, hst⟩ | ⟨hv0, hst⟩
  · rcases hc with ⟨h1, h2, hz⟩ | ⟨rfl, rfl, rfl, h2, hz⟩ | ⟨rfl, rfl, rfl, h2, hz⟩ | ⟨rfl, rfl, rfl, hz⟩
    all_goals
      have HZ := Lib.hid hz; clear hz
      try rw [hst] at h2
      have HST := Lib.hid hst; clear hst
      go_enter Try.func13, Try.ntmps13
      go_wp2_with (first | (go_at_call 14; refine (c_lvS _ _ _ _ _ _ _ _ _ sl hn).mono ?_; rintro e w1 ⟨rfl, hb⟩; rw [HV.out]; have B := stepB B hb; have own := own.call hb; have res := res.call hb; have sl := sl.call hb; clear c0 c1 c2 c3 f0 f1 f2 f3 r0 r1 r2 r3 q0 q1 q2 q3; have c0 := own.c0; have c1 := own.c1; have c2 := own.c2; have c3 := own.c3; have f0 := own.f0; have f1 := own.f1; have f2 := own.f2; have f3 := own.f3; have r0 := res.c0; have r1 := res.c1; have r2 := res.c2; have r3 := res.c3; have q0 := res.f0; have q1 := res.f1; have q2 := res.f2; have q3 := res.f3) | (go_at_call 36; refine (c_l1In_at _ _ _ true HT.out _).mono ?_; rintro e w' ⟨rfl, rfl⟩) | (go_at_call 37; refine (c_faS _ _ _ _ _ _ sl hn).mono ?_; rintro e w1 ⟨rfl, dd⟩; have hb := dd.below; have B := stepB B hb; have own := own.call hb; have res := res.call hb; have sl := sl.call hb; clear c0 c1 c2 c3 f0 f1 f2 f3 r0 r1 r2 r3 q0 q1 q2 q3; have c0 := own.c0; have c1 := own.c1; have c2 := own.c2; have c3 := own.c3; have f0 := own.f0; have f1 := own.f1; have f2 := own.f2; have f3 := own.f3; have r0 := res.c0; have r1 := res.c1; have r2 := res.c2; have r3 := res.c3; have q0 := res.f0; have q1 := res.f1; have q2 := res.f2; have q3 := res.f3))
    · go_region_with (first | (go_at_call 38; refine (c_doorStepS _ _ _ _ _).mono ?_; rintro e w3 ⟨rfl, hb⟩; have B := stepB (stepB B (DN.drew1 _).below) hb; have own := (own.dn (DN.drew1 _)).call hb; have res := (res.dn (DN.drew1 _)).call hb; clear c0 c1 c2 c3 f0 f1 f2 f3 r0 r1 r2 r3 q0 q1 q2 q3; have c0 := own.c0; have c1 := own.c1; have c2 := own.c2; have c3 := own.c3; have f0 := own.f0; have f1 := own.f1; have f2 := own.f2; have f3 := own.f3; have r0 := res.c0; have r1 := res.c1; have r2 := res.c2; have r3 := res.c3; have q0 := res.f0; have q1 := res.f1; have q2 := res.f2; have q3 := res.f3))
      all_goals
        go_wp2
        refine bodyPost_ret ?_ rfl ⟨rfl, ?_⟩
        · rw [HZ.out]; simp [results, Try.results13, go_sem, r0, r1, r2, r3]
        · (repeat (first | refine Below.setCell ?_ (by simp) _ | exact B))
    · go_region_with (first | (go_at_call 38; refine (c_doorStepS _ _ _ _ _).mono ?_; rintro e w3 ⟨rfl, hb⟩; have B := stepB (stepB B (DN.drew1 _).below) hb; have own := (own.dn (DN.drew1 _)).call hb; have res := (res.dn (DN.drew1 _)).call hb; clear c0 c1 c2 c3 f0 f1 f2 f3 r0 r1 r2 r3 q0 q1 q2 q3; have c0 := own.c0; have c1 := own.c1; have c2 := own.c2; have c3 := own.c3; have f0 := own.f0; have f1 := own.f1; have f2 := own.f2; have f3 := own.f3; have r0 := res.c0; have r1 := res.c1; have r2 := res.c2; have r3 := res.c3; have q0 := res.f0; have q1 := res.f1; have q2 := res.f2; have q3 := res.f3))
      all_goals
        go_wp2
        refine bodyPost_ret ?_ rfl ⟨rfl, ?_⟩
        · rw [HZ.out]; simp [results, Try.results13, go_sem, r0, r1, r2, r3]
        · (repeat (first | refine Below.setCell ?_ (by simp) _ | exact B))
    all_goals
      have ck := sl.cellAt rfl hk
      go_region_with (first | (go_at_call 39; refine (c_stepS _ _ _ _).mono ?_; rintro e w3 ⟨rfl, hb⟩; have B := stepB (stepB B (DN.drew1 _).below) hb; have own := (own.dn (DN.drew1 _)).call hb; have res := (res.dn (DN.drew1 _)).call hb; clear c0 c1 c2 c3 f0 f1 f2 f3 r0 r1 r2 r3 q0 q1 q2 q3; have c0 := own.c0; have c1 := own.c1; have c2 := own.c2; have c3 := own.c3; have f0 := own.f0; have f1 := own.f1; have f2 := own.f2; have f3 := own.f3; have r0 := res.c0; have r1 := res.c1; have r2 := res.c2; have r3 := res.c3; have q0 := res.f0; have q1 := res.f1; have q2 := res.f2; have q3 := res.f3))
      all_goals
        go_wp2
        refine bodyPost_ret ?_ rfl ⟨rfl, ?_⟩
        · rw [HZ.out]; simp [results, Try.results13, go_sem, r0, r1, r2, r3]
        · (repeat (first | refine Below.setCell ?_ (by simp) _ | exact B))
  · rcases hc with ⟨h1, h2, hz⟩ | ⟨rfl, rfl, rfl, h2, hz⟩ | ⟨rfl, rfl, rfl, h2, hz⟩ | ⟨rfl, rfl, rfl, hz⟩
    · omega
    · omega
    all_goals
      have HZ := Lib.hid hz; clear hz
      have HST := Lib.hid hst; clear hst
      go_enter Try.func13, Try.ntmps13
      go_wp2_with (first | (go_at_call 14; refine (c_lvS _ _ _ _ _ _ _ _ _ sl hn).mono ?_; rintro e w1 ⟨rfl, hb⟩; rw [HV.out]; have B := stepB B hb; have own := own.call hb; have res := res.call hb; have sl := sl.call hb; clear c0 c1 c2 c3 f0 f1 f2 f3 r0 r1 r2 r3 q0 q1 q2 q3; have c0 := own.c0; have c1 := own.c1; have c2 := own.c2; have c3 := own.c3; have f0 := own.f0; have f1 := own.f1; have f2 := own.f2; have f3 := own.f3; have r0 := res.c0; have r1 := res.c1; have r2 := res.c2; have r3 := res.c3; have q0 := res.f0; have q1 := res.f1; have q2 := res.f2; have q3 := res.f3) | (go_at_call 36; refine (c_l1In_at _ _ _ true HT.out _).mono ?_; rintro e w' ⟨rfl, rfl⟩) | (go_at_call 37; refine (c_faS _ _ _ _ _ _ sl hn).mono ?_; rintro e w1 ⟨rfl, dd⟩; have hb := dd.below; have B := stepB B hb; have own := own.call hb; have res := res.call hb; have sl := sl.call hb; clear c0 c1 c2 c3 f0 f1 f2 f3 r0 r1 r2 r3 q0 q1 q2 q3; have c0 := own.c0; have c1 := own.c1; have c2 := own.c2; have c3 := own.c3; have f0 := own.f0; have f1 := own.f1; have f2 := own.f2; have f3 := own.f3; have r0 := res.c0; have r1 := res.c1; have r2 := res.c2; have r3 := res.c3; have q0 := res.f0; have q1 := res.f1; have q2 := res.f2; have q3 := res.f3))
      have ck := sl.cellAt rfl hk
      go_region_with (first | (go_at_call 39; refine (c_stepS _ _ _ _).mono ?_; rintro e w3 ⟨rfl, hb⟩; have B := stepB (stepB B (DN.drew1 _).below) hb; have own := (own.dn (DN.drew1 _)).call hb; have res := (res.dn (DN.drew1 _)).call hb; clear c0 c1 c2 c3 f0 f1 f2 f3 r0 r1 r2 r3 q0 q1 q2 q3; have c0 := own.c0; have c1 := own.c1; have c2 := own.c2; have c3 := own.c3; have f0 := own.f0; have f1 := own.f1; have f2 := own.f2; have f3 := own.f3; have r0 := res.c0; have r1 := res.c1; have r2 := res.c2; have r3 := res.c3; have q0 := res.f0; have q1 := res.f1; have q2 := res.f2; have q3 := res.f3))
      all_goals
        go_wp2
        refine bodyPost_ret ?_ rfl ⟨rfl, ?_⟩
        · rw [HZ.out]; simp [results, Try.results13, go_sem, r0, r1, r2, r3]
        · (repeat (first | refine Below.setCell ?_ (by simp) _ | exact B))
end Go.Proofs.Ythmjmlblnikmaaa
