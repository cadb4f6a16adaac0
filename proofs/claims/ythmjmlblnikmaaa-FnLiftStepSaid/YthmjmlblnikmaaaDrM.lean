/- Contracts of the functions that draw a car and a door: some car, some door within narrow bounds; the reader goes on, and nothing else of what was there is changed. No conditions but those that stand at each. -/
import Derived.Test.YthmjmlblnikmaaaRdB
import Derived.Lib.SmallJoins
namespace Go.Proofs.Ythmjmlblnikmaaa
open Go.RowKit Go.Joins Pl
/-- A car was drawn. -/
def DrawnM (w : World) (R q : Nat) (e : Ending) (w' : World) : Prop :=
  ∃ a v : Int, (-1 ≤ a ∧ a ≤ 61) ∧ (-6 ≤ v ∧ v ≤ 6) ∧ e = .returned (.agg #[.int .i64 a, .int .i64 v]) ∧ Rd w' R q ∧ w.grownBy w' (some R)
set_option maxHeartbeats 4000000 in
theorem c_l20Motion (R q : Nat) (n : Int) (w : World) (hR : Rd w R q) (hq : q ≤ 1000) (h0 : 0 < n) (hn : n ≤ 1000) :
    Calls Try.prog 53 #[.pointer (some ⟨R, 0, none⟩), .int .i64 n] w (DrawnM w R (q + 10)) := by
  have RL := hR.lt
  go_enter Try.func53, Try.ntmps53
  go_wp2_with fail
  refine (c_pick _ _ _ _ (hR.alloc _) (by omega) (by omega)).mono ?_
  rintro e w1 ⟨x, x1, x2, rfl, RD1, hg1⟩
  have G1 := ((Gr.refl R w.heap.size w).alloc (Nat.le_refl _) _).read (by simp) hg1
  have ro1 := (Own2.new _ _ _ _).read hg1 (by omega)
  have x3 : x ≤ 60 := by omega
  clear x2 hg1
  go_wp2_with fail
  refine (c_pick _ _ _ _ RD1 (by omega) (by omega)).mono ?_
  rintro e w2 ⟨y, y1, y2, rfl, RD2, hg2⟩
  have G2 := G1.read G1.size hg2
  have ro2 := ro1.read hg2 (by omega)
  have y3 : y ≤ 10 := by omega
  have l2 := ro2.lt
  clear y2 hg2 RD1 G1 ro1
  go_wp2_with fail
  refine (c_pick _ _ _ _ (RD2.alloc _) (by omega) (by omega)).mono ?_
  rintro e w3 ⟨z, z1, z2, rfl, RD3, hg3⟩
  have G3 := (G2.alloc G2.size _).read (by have := G2.size; simp; omega) hg3
  have ro3 := (ro2.alloc _).read hg3 (by omega)
  have mo3 := (Own2.new _ _ _ _).read hg3 (by omega)
  have l3 := mo3.lt
  clear hg3 RD2 G2 ro2
  have c0 := mo3.c0
  have c1 := mo3.c1
  have f0 := mo3.f0
  have f1 := mo3.f1
  have r0 := ro3.c0
  have r1 := ro3.c1
  have g0 := ro3.f0
  have g1 := ro3.f1
  by_cases hz : z = 0
  · subst hz
    go_wp2_with fail
    refine (c_odd _ _ _ _ (RD3.set (by first | (simp; done) | (simp; omega)) _) (by omega) h0 hn).mono ?_
    rintro e w4 ⟨b, rfl, RD4, hg4⟩
    have G4 := (G3.set (by first | (simp; done) | (simp; omega)) _).read (by have := G3.size; simp [World.setCell]; omega) hg4
    have ro4 := (ro3.far (by first | (simp; done) | (simp; omega)) _).read hg4 (by omega)
    have mo4 := (mo3.set1 _).read hg4 (by omega)
    clear hg4
    clear c0 c1 f0 f1 r0 r1 g0 g1
    have c0 := mo4.c0
    have c1 := mo4.c1
    have f0 := mo4.f0
    have f1 := mo4.f1
    have r0 := ro4.c0
    have r1 := ro4.c1
    have g0 := ro4.f0
    have g1 := ro4.f1
    rcases b
    · go_wp2
      refine bodyPost_ret (v := .agg #[.int .i64 (x), .int .i64 (0)]) (by simp [results, Try.results53, go_sem, r0, r1]) rfl ⟨x, 0, ⟨by omega, by omega⟩, ⟨by omega, by omega⟩, rfl, ?_, ?_⟩
      · (repeat (first | exact RD4.mono (by omega) | refine Rd.set ?_ (by first | (simp; done) | (simp; omega)) _ | refine Rd.alloc ?_ _))
      · refine Gr.grown ?_
        (repeat (first | exact G4 | refine Gr.set ?_ (by first | (simp; done) | (simp; omega)) _ | refine Gr.alloc ?_ (by have := G4.size; simp; omega) _))
    · go_wp2_with fail
      refine (c_pick _ _ _ _ RD4 (by omega) (by omega)).mono ?_
      rintro e w5 ⟨s, s1, s2, rfl, RD5, hg5⟩
      have G5 := G4.read G4.size hg5
      have ro5 := ro4.read hg5 (by omega)
      have mo5 := mo4.read hg5 (by omega)
      have l5 := mo5.lt
      clear hg5
      clear c0 c1 f0 f1 r0 r1 g0 g1
      have c0 := mo5.c0
      have c1 := mo5.c1
      have f0 := mo5.f0
      have f1 := mo5.f1
      have r0 := ro5.c0
      have r1 := ro5.c1
      have g0 := ro5.f0
      have g1 := ro5.f1
      by_cases hs : s = 0
      · subst hs
        go_wp2_with fail
        refine (c_pick _ _ _ _ (RD5.alloc _) (by omega) (by omega)).mono ?_
        rintro e w9 ⟨u, u1, u2, rfl, RD9, hg9⟩
        have G9 := (G5.alloc G5.size _).read (by have := G5.size; simp; omega) hg9
        have ro9 := (ro5.alloc _).read hg9 (by omega)
        have mo9 := (mo5.alloc _).read hg9 (by omega)
        have tw := (Own2.new _ _ _ _).read hg9 (by omega)
        have t0 := tw.c0
        have t1 := tw.c1
        have tl := tw.lt
        clear hg9
        clear c0 c1 f0 f1 r0 r1 g0 g1
        have c0 := mo9.c0
        have c1 := mo9.c1
        have f0 := mo9.f0
        have f1 := mo9.f1
        have r0 := ro9.c0
        have r1 := ro9.c1
        have g0 := ro9.f0
        have g1 := ro9.f1
        have hu : u = 0 ∨ u = 1 := by omega
        rcases hu with rfl | rfl
        · go_wp2
          refine bodyPost_ret (v := .agg #[.int .i64 (-1), .int .i64 (0)]) (by simp [results, Try.results53, go_sem, r0, r1]) rfl ⟨-1, 0, ⟨by omega, by omega⟩, ⟨by omega, by omega⟩, rfl, ?_, ?_⟩
          · (repeat (first | exact RD9.mono (by omega) | refine Rd.set ?_ (by first | (simp; done) | (simp; omega)) _ | refine Rd.alloc ?_ _))
          · refine Gr.grown ?_
            (repeat (first | exact G9 | refine Gr.set ?_ (by first | (simp; done) | (simp; omega)) _ | refine Gr.alloc ?_ (by have := G9.size; simp; omega) _))
        · go_wp2
          refine bodyPost_ret (v := .agg #[.int .i64 (61), .int .i64 (0)]) (by simp [results, Try.results53, go_sem, r0, r1]) rfl ⟨61, 0, ⟨by omega, by omega⟩, ⟨by omega, by omega⟩, rfl, ?_, ?_⟩
          · (repeat (first | exact RD9.mono (by omega) | refine Rd.set ?_ (by first | (simp; done) | (simp; omega)) _ | refine Rd.alloc ?_ _))
          · refine Gr.grown ?_
            (repeat (first | exact G9 | refine Gr.set ?_ (by first | (simp; done) | (simp; omega)) _ | refine Gr.alloc ?_ (by have := G9.size; simp; omega) _))
      · have es : (s == 0) = false := by simp [hs]
        clear hs
        go_wp2_with fail
        refine (c_pick _ _ _ _ (RD5.alloc _) (by omega) (by omega)).mono ?_
        rintro e w9 ⟨u, u1, u2, rfl, RD9, hg9⟩
        have G9 := (G5.alloc G5.size _).read (by have := G5.size; simp; omega) hg9
        have ro9 := (ro5.alloc _).read hg9 (by omega)
        have mo9 := (mo5.alloc _).read hg9 (by omega)
        have tw := (Own2.new _ _ _ _).read hg9 (by omega)
        have t0 := tw.c0
        have t1 := tw.c1
        have tl := tw.lt
        clear hg9
        clear c0 c1 f0 f1 r0 r1 g0 g1
        have c0 := mo9.c0
        have c1 := mo9.c1
        have f0 := mo9.f0
        have f1 := mo9.f1
        have r0 := ro9.c0
        have r1 := ro9.c1
        have g0 := ro9.f0
        have g1 := ro9.f1
        have hu : u = 0 ∨ u = 1 := by omega
        rcases hu with rfl | rfl
        · go_wp2
          refine bodyPost_ret (v := .agg #[.int .i64 (x), .int .i64 (-6)]) (by simp [results, Try.results53, go_sem, r0, r1]) rfl ⟨x, -6, ⟨by omega, by omega⟩, ⟨by omega, by omega⟩, rfl, ?_, ?_⟩
          · (repeat (first | exact RD9.mono (by omega) | refine Rd.set ?_ (by first | (simp; done) | (simp; omega)) _ | refine Rd.alloc ?_ _))
          · refine Gr.grown ?_
            (repeat (first | exact G9 | refine Gr.set ?_ (by first | (simp; done) | (simp; omega)) _ | refine Gr.alloc ?_ (by have := G9.size; simp; omega) _))
        · go_wp2
          refine bodyPost_ret (v := .agg #[.int .i64 (x), .int .i64 (6)]) (by simp [results, Try.results53, go_sem, r0, r1]) rfl ⟨x, 6, ⟨by omega, by omega⟩, ⟨by omega, by omega⟩, rfl, ?_, ?_⟩
          · (repeat (first | exact RD9.mono (by omega) | refine Rd.set ?_ (by first | (simp; done) | (simp; omega)) _ | refine Rd.alloc ?_ _))
          · refine Gr.grown ?_
            (repeat (first | exact G9 | refine Gr.set ?_ (by first | (simp; done) | (simp; omega)) _ | refine Gr.alloc ?_ (by have := G9.size; simp; omega) _))
  · have ez : (z == 0) = false := by simp [hz]
    clear hz
    go_wp2_with fail
    refine (c_odd _ _ _ _ RD3 (by omega) h0 hn).mono ?_
    rintro e w4 ⟨b, rfl, RD4, hg4⟩
    have G4 := G3.read G3.size hg4
    have ro4 := ro3.read hg4 (by omega)
    have mo4 := mo3.read hg4 (by omega)
    clear hg4
    clear c0 c1 f0 f1 r0 r1 g0 g1
    have c0 := mo4.c0
    have c1 := mo4.c1
    have f0 := mo4.f0
    have f1 := mo4.f1
    have r0 := ro4.c0
    have r1 := ro4.c1
    have g0 := ro4.f0
    have g1 := ro4.f1
    rcases b
    · go_wp2
      refine bodyPost_ret (v := .agg #[.int .i64 (x), .int .i64 (y - 5)]) (by simp [results, Try.results53, go_sem, r0, r1]) rfl ⟨x, y - 5, ⟨by omega, by omega⟩, ⟨by omega, by omega⟩, rfl, ?_, ?_⟩
      · (repeat (first | exact RD4.mono (by omega) | refine Rd.set ?_ (by first | (simp; done) | (simp; omega)) _ | refine Rd.alloc ?_ _))
      · refine Gr.grown ?_
        (repeat (first | exact G4 | refine Gr.set ?_ (by first | (simp; done) | (simp; omega)) _ | refine Gr.alloc ?_ (by have := G4.size; simp; omega) _))
    · go_wp2_with fail
      refine (c_pick _ _ _ _ RD4 (by omega) (by omega)).mono ?_
      rintro e w5 ⟨s, s1, s2, rfl, RD5, hg5⟩
      have G5 := G4.read G4.size hg5
      have ro5 := ro4.read hg5 (by omega)
      have mo5 := mo4.read hg5 (by omega)
      have l5 := mo5.lt
      clear hg5
      clear c0 c1 f0 f1 r0 r1 g0 g1
      have c0 := mo5.c0
      have c1 := mo5.c1
      have f0 := mo5.f0
      have f1 := mo5.f1
      have r0 := ro5.c0
      have r1 := ro5.c1
      have g0 := ro5.f0
      have g1 := ro5.f1
      by_cases hs : s = 0
      · subst hs
        go_wp2_with fail
        refine (c_pick _ _ _ _ (RD5.alloc _) (by omega) (by omega)).mono ?_
        rintro e w9 ⟨u, u1, u2, rfl, RD9, hg9⟩
        have G9 := (G5.alloc G5.size _).read (by have := G5.size; simp; omega) hg9
        have ro9 := (ro5.alloc _).read hg9 (by omega)
        have mo9 := (mo5.alloc _).read hg9 (by omega)
        have tw := (Own2.new _ _ _ _).read hg9 (by omega)
        have t0 := tw.c0
        have t1 := tw.c1
        have tl := tw.lt
        clear hg9
        clear c0 c1 f0 f1 r0 r1 g0 g1
        have c0 := mo9.c0
        have c1 := mo9.c1
        have f0 := mo9.f0
        have f1 := mo9.f1
        have r0 := ro9.c0
        have r1 := ro9.c1
        have g0 := ro9.f0
        have g1 := ro9.f1
        have hu : u = 0 ∨ u = 1 := by omega
        rcases hu with rfl | rfl
        · go_wp2
          refine bodyPost_ret (v := .agg #[.int .i64 (-1), .int .i64 (y - 5)]) (by simp [results, Try.results53, go_sem, r0, r1]) rfl ⟨-1, y - 5, ⟨by omega, by omega⟩, ⟨by omega, by omega⟩, rfl, ?_, ?_⟩
          · (repeat (first | exact RD9.mono (by omega) | refine Rd.set ?_ (by first | (simp; done) | (simp; omega)) _ | refine Rd.alloc ?_ _))
          · refine Gr.grown ?_
            (repeat (first | exact G9 | refine Gr.set ?_ (by first | (simp; done) | (simp; omega)) _ | refine Gr.alloc ?_ (by have := G9.size; simp; omega) _))
        · go_wp2
          refine bodyPost_ret (v := .agg #[.int .i64 (61), .int .i64 (y - 5)]) (by simp [results, Try.results53, go_sem, r0, r1]) rfl ⟨61, y - 5, ⟨by omega, by omega⟩, ⟨by omega, by omega⟩, rfl, ?_, ?_⟩
          · (repeat (first | exact RD9.mono (by omega) | refine Rd.set ?_ (by first | (simp; done) | (simp; omega)) _ | refine Rd.alloc ?_ _))
          · refine Gr.grown ?_
            (repeat (first | exact G9 | refine Gr.set ?_ (by first | (simp; done) | (simp; omega)) _ | refine Gr.alloc ?_ (by have := G9.size; simp; omega) _))
      · have es : (s == 0) = false := by simp [hs]
        clear hs
        go_wp2_with fail
        refine (c_pick _ _ _ _ (RD5.alloc _) (by omega) (by omega)).mono ?_
        rintro e w9 ⟨u, u1, u2, rfl, RD9, hg9⟩
        have G9 := (G5.alloc G5.size _).read (by have := G5.size; simp; omega) hg9
        have ro9 := (ro5.alloc _).read hg9 (by omega)
        have mo9 := (mo5.alloc _).read hg9 (by omega)
        have tw := (Own2.new _ _ _ _).read hg9 (by omega)
        have t0 := tw.c0
        have t1 := tw.c1
        have tl := tw.lt
        clear hg9
        clear c0 c1 f0 f1 r0 r1 g0 g1
        have c0 := mo9.c0
        have c1 := mo9.c1
        have f0 := mo9.f0
        have f1 := mo9.f1
        have r0 := ro9.c0
        have r1 := ro9.c1
        have g0 := ro9.f0
        have g1 := ro9.f1
        have hu : u = 0 ∨ u = 1 := by omega
        rcases hu with rfl | rfl
        · go_wp2
          refine bodyPost_ret (v := .agg #[.int .i64 (x), .int .i64 (-6)]) (by simp [results, Try.results53, go_sem, r0, r1]) rfl ⟨x, -6, ⟨by omega, by omega⟩, ⟨by omega, by omega⟩, rfl, ?_, ?_⟩
          · (repeat (first | exact RD9.mono (by omega) | refine Rd.set ?_ (by first | (simp; done) | (simp; omega)) _ | refine Rd.alloc ?_ _))
          · refine Gr.grown ?_
            (repeat (first | exact G9 | refine Gr.set ?_ (by first | (simp; done) | (simp; omega)) _ | refine Gr.alloc ?_ (by have := G9.size; simp; omega) _))
        · go_wp2
          refine bodyPost_ret (v := .agg #[.int .i64 (x), .int .i64 (6)]) (by simp [results, Try.results53, go_sem, r0, r1]) rfl ⟨x, 6, ⟨by omega, by omega⟩, ⟨by omega, by omega⟩, rfl, ?_, ?_⟩
          · (repeat (first | exact RD9.mono (by omega) | refine Rd.set ?_ (by first | (simp; done) | (simp; omega)) _ | refine Rd.alloc ?_ _))
          · refine Gr.grown ?_
            (repeat (first | exact G9 | refine Gr.set ?_ (by first | (simp; done) | (simp; omega)) _ | refine Gr.alloc ?_ (by have := G9.size; simp; omega) _))
/-- A door was drawn. -/
def DrawnD (w : World) (R q : Nat) (e : Ending) (w' : World) : Prop :=
  ∃ a v : Int, (-1 ≤ a ∧ a ≤ 5) ∧ (-1 ≤ v ∧ v ≤ 4) ∧ e = .returned (.agg #[.int .i64 a, .int .i64 v]) ∧ Rd w' R q ∧ w.grownBy w' (some R)
set_option maxHeartbeats 4000000 in
theorem c_l20Door (R q : Nat) (n : Int) (w : World) (hR : Rd w R q) (hq : q ≤ 1000) (h0 : 0 < n) (hn : n ≤ 1000) :
    Calls Try.prog 54 #[.pointer (some ⟨R, 0, none⟩), .int .i64 n] w (DrawnD w R (q + 10)) := by
  have RL := hR.lt
  go_enter Try.func54, Try.ntmps54
  go_wp2_with fail
  refine (c_pick _ _ _ _ (hR.alloc _) (by omega) (by omega)).mono ?_
  rintro e w2 ⟨x, x1, x2, rfl, RD2, hg2⟩
  have G2 := ((Gr.refl R w.heap.size w).alloc (Nat.le_refl _) _).read (by simp) hg2
  have ro2 := (Own2.new _ _ _ _).read hg2 (by omega)
  have x3 : x ≤ 4 := by omega
  have l2 := ro2.lt
  clear x2 hg2
  have c0 : True := trivial
  have c1 : True := trivial
  have f0 : True := trivial
  have f1 : True := trivial
  have r0 : True := trivial
  have r1 : True := trivial
  have g0 : True := trivial
  have g1 : True := trivial
  by_cases hx : x = 4
  · subst hx
    go_wp2_with fail
    refine (c_pick _ _ _ _ (RD2.alloc _) (by omega) (by omega)).mono ?_
    rintro e w3 ⟨y, y1, y2, rfl, RD3, hg3⟩
    have G3 := (G2.alloc G2.size _).read (by have := G2.size; simp; omega) hg3
    have ro3 := (ro2.alloc _).read hg3 (by omega)
    have mo3 := (Own2.new _ _ _ _).read hg3 (by omega)
    have l3 := mo3.lt
    have y3 : y ≤ 3 := by omega
    clear y2 hg3
    clear c0 c1 f0 f1 r0 r1 g0 g1
    have c0 := mo3.c0
    have c1 := mo3.c1
    have f0 := mo3.f0
    have f1 := mo3.f1
    have r0 := ro3.c0
    have r1 := ro3.c1
    have g0 := ro3.f0
    have g1 := ro3.f1
    go_wp2_with fail
    refine (c_odd _ _ _ _ (RD3.set (by first | (simp; done) | (simp; omega)) _) (by omega) h0 hn).mono ?_
    rintro e w4 ⟨b, rfl, RD4, hg4⟩
    have G4 := (G3.set (by first | (simp; done) | (simp; omega)) _).read (by have := G3.size; simp [World.setCell]; omega) hg4
    have ro4 := (ro3.far (by first | (simp; done) | (simp; omega)) _).read hg4 (by omega)
    have mo4 := (mo3.set1 _).read hg4 (by omega)
    clear hg4
    clear c0 c1 f0 f1 r0 r1 g0 g1
    have c0 := mo4.c0
    have c1 := mo4.c1
    have f0 := mo4.f0
    have f1 := mo4.f1
    have r0 := ro4.c0
    have r1 := ro4.c1
    have g0 := ro4.f0
    have g1 := ro4.f1
    rcases b
    · go_wp2
      refine bodyPost_ret (v := .agg #[.int .i64 (4), .int .i64 (y)]) (by simp [results, Try.results54, go_sem, r0, r1]) rfl ⟨4, y, ⟨by omega, by omega⟩, ⟨by omega, by omega⟩, rfl, ?_, ?_⟩
      · (repeat (first | exact RD4.mono (by omega) | refine Rd.set ?_ (by first | (simp; done) | (simp; omega)) _ | refine Rd.alloc ?_ _))
      · refine Gr.grown ?_
        (repeat (first | exact G4 | refine Gr.set ?_ (by first | (simp; done) | (simp; omega)) _ | refine Gr.alloc ?_ (by have := G4.size; simp; omega) _))
    · go_wp2_with fail
      refine (c_pick _ _ _ _ RD4 (by omega) (by omega)).mono ?_
      rintro e w5 ⟨s, s1, s2, rfl, RD5, hg5⟩
      have G5 := G4.read G4.size hg5
      have ro5 := ro4.read hg5 (by omega)
      have mo5 := mo4.read hg5 (by omega)
      have l5 := mo5.lt
      clear hg5
      clear c0 c1 f0 f1 r0 r1 g0 g1
      have c0 := mo5.c0
      have c1 := mo5.c1
      have f0 := mo5.f0
      have f1 := mo5.f1
      have r0 := ro5.c0
      have r1 := ro5.c1
      have g0 := ro5.f0
      have g1 := ro5.f1
      have hs : s = 0 ∨ s = 1 ∨ s = 2 := by omega
      rcases hs with rfl | rfl | rfl
      · go_wp2_with fail
        refine (c_pick _ _ _ _ (RD5.alloc _) (by omega) (by omega)).mono ?_
        rintro e w9 ⟨u, u1, u2, rfl, RD9, hg9⟩
        have G9 := (G5.alloc G5.size _).read (by have := G5.size; simp; omega) hg9
        have ro9 := (ro5.alloc _).read hg9 (by omega)
        have mo9 := (mo5.alloc _).read hg9 (by omega)
        have tw := (Own2.new _ _ _ _).read hg9 (by omega)
        have t0 := tw.c0
        have t1 := tw.c1
        have tl := tw.lt
        clear hg9
        clear c0 c1 f0 f1 r0 r1 g0 g1
        have c0 := mo9.c0
        have c1 := mo9.c1
        have f0 := mo9.f0
        have f1 := mo9.f1
        have r0 := ro9.c0
        have r1 := ro9.c1
        have g0 := ro9.f0
        have g1 := ro9.f1
        have hu : u = 0 ∨ u = 1 := by omega
        rcases hu with rfl | rfl
        · go_wp2
          refine bodyPost_ret (v := .agg #[.int .i64 (-1), .int .i64 (y)]) (by simp [results, Try.results54, go_sem, r0, r1]) rfl ⟨-1, y, ⟨by omega, by omega⟩, ⟨by omega, by omega⟩, rfl, ?_, ?_⟩
          · (repeat (first | exact RD9.mono (by omega) | refine Rd.set ?_ (by first | (simp; done) | (simp; omega)) _ | refine Rd.alloc ?_ _))
          · refine Gr.grown ?_
            (repeat (first | exact G9 | refine Gr.set ?_ (by first | (simp; done) | (simp; omega)) _ | refine Gr.alloc ?_ (by have := G9.size; simp; omega) _))
        · go_wp2
          refine bodyPost_ret (v := .agg #[.int .i64 (5), .int .i64 (y)]) (by simp [results, Try.results54, go_sem, r0, r1]) rfl ⟨5, y, ⟨by omega, by omega⟩, ⟨by omega, by omega⟩, rfl, ?_, ?_⟩
          · (repeat (first | exact RD9.mono (by omega) | refine Rd.set ?_ (by first | (simp; done) | (simp; omega)) _ | refine Rd.alloc ?_ _))
          · refine Gr.grown ?_
            (repeat (first | exact G9 | refine Gr.set ?_ (by first | (simp; done) | (simp; omega)) _ | refine Gr.alloc ?_ (by have := G9.size; simp; omega) _))
      · go_wp2_with fail
        refine (c_pick _ _ _ _ (RD5.alloc _) (by omega) (by omega)).mono ?_
        rintro e w9 ⟨u, u1, u2, rfl, RD9, hg9⟩
        have G9 := (G5.alloc G5.size _).read (by have := G5.size; simp; omega) hg9
        have ro9 := (ro5.alloc _).read hg9 (by omega)
        have mo9 := (mo5.alloc _).read hg9 (by omega)
        have tw := (Own2.new _ _ _ _).read hg9 (by omega)
        have t0 := tw.c0
        have t1 := tw.c1
        have tl := tw.lt
        clear hg9
        clear c0 c1 f0 f1 r0 r1 g0 g1
        have c0 := mo9.c0
        have c1 := mo9.c1
        have f0 := mo9.f0
        have f1 := mo9.f1
        have r0 := ro9.c0
        have r1 := ro9.c1
        have g0 := ro9.f0
        have g1 := ro9.f1
        have hu : u = 0 ∨ u = 1 := by omega
        rcases hu with rfl | rfl
        · go_wp2
          refine bodyPost_ret (v := .agg #[.int .i64 (4), .int .i64 (-1)]) (by simp [results, Try.results54, go_sem, r0, r1]) rfl ⟨4, -1, ⟨by omega, by omega⟩, ⟨by omega, by omega⟩, rfl, ?_, ?_⟩
          · (repeat (first | exact RD9.mono (by omega) | refine Rd.set ?_ (by first | (simp; done) | (simp; omega)) _ | refine Rd.alloc ?_ _))
          · refine Gr.grown ?_
            (repeat (first | exact G9 | refine Gr.set ?_ (by first | (simp; done) | (simp; omega)) _ | refine Gr.alloc ?_ (by have := G9.size; simp; omega) _))
        · go_wp2
          refine bodyPost_ret (v := .agg #[.int .i64 (4), .int .i64 (4)]) (by simp [results, Try.results54, go_sem, r0, r1]) rfl ⟨4, 4, ⟨by omega, by omega⟩, ⟨by omega, by omega⟩, rfl, ?_, ?_⟩
          · (repeat (first | exact RD9.mono (by omega) | refine Rd.set ?_ (by first | (simp; done) | (simp; omega)) _ | refine Rd.alloc ?_ _))
          · refine Gr.grown ?_
            (repeat (first | exact G9 | refine Gr.set ?_ (by first | (simp; done) | (simp; omega)) _ | refine Gr.alloc ?_ (by have := G9.size; simp; omega) _))
      · go_wp2
        refine bodyPost_ret (v := .agg #[.int .i64 (2), .int .i64 (1)]) (by simp [results, Try.results54, go_sem, r0, r1]) rfl ⟨2, 1, ⟨by omega, by omega⟩, ⟨by omega, by omega⟩, rfl, ?_, ?_⟩
        · (repeat (first | exact RD5.mono (by omega) | refine Rd.set ?_ (by first | (simp; done) | (simp; omega)) _ | refine Rd.alloc ?_ _))
        · refine Gr.grown ?_
          (repeat (first | exact G5 | refine Gr.set ?_ (by first | (simp; done) | (simp; omega)) _ | refine Gr.alloc ?_ (by have := G5.size; simp; omega) _))
  · have ex : (x == 4) = false := by simp [hx]
    clear hx
    go_wp2_with fail
    refine (c_odd _ _ _ _ (RD2.alloc _) (by omega) h0 hn).mono ?_
    rintro e w4 ⟨b, rfl, RD4, hg4⟩
    have G4 := (G2.alloc G2.size _).read (by have := G2.size; simp; omega) hg4
    have ro4 := (ro2.alloc _).read hg4 (by omega)
    have mo4 := (Own2.new _ _ _ _).read hg4 (by omega)
    clear hg4
    clear c0 c1 f0 f1 r0 r1 g0 g1
    have c0 := mo4.c0
    have c1 := mo4.c1
    have f0 := mo4.f0
    have f1 := mo4.f1
    have r0 := ro4.c0
    have r1 := ro4.c1
    have g0 := ro4.f0
    have g1 := ro4.f1
    rcases b
    · go_wp2
      refine bodyPost_ret (v := .agg #[.int .i64 (x), .int .i64 (0)]) (by simp [results, Try.results54, go_sem, r0, r1]) rfl ⟨x, 0, ⟨by omega, by omega⟩, ⟨by omega, by omega⟩, rfl, ?_, ?_⟩
      · (repeat (first | exact RD4.mono (by omega) | refine Rd.set ?_ (by first | (simp; done) | (simp; omega)) _ | refine Rd.alloc ?_ _))
      · refine Gr.grown ?_
        (repeat (first | exact G4 | refine Gr.set ?_ (by first | (simp; done) | (simp; omega)) _ | refine Gr.alloc ?_ (by have := G4.size; simp; omega) _))
    · go_wp2_with fail
      refine (c_pick _ _ _ _ RD4 (by omega) (by omega)).mono ?_
      rintro e w5 ⟨s, s1, s2, rfl, RD5, hg5⟩
      have G5 := G4.read G4.size hg5
      have ro5 := ro4.read hg5 (by omega)
      have mo5 := mo4.read hg5 (by omega)
      have l5 := mo5.lt
      clear hg5
      clear c0 c1 f0 f1 r0 r1 g0 g1
      have c0 := mo5.c0
      have c1 := mo5.c1
      have f0 := mo5.f0
      have f1 := mo5.f1
      have r0 := ro5.c0
      have r1 := ro5.c1
      have g0 := ro5.f0
      have g1 := ro5.f1
      have hs : s = 0 ∨ s = 1 ∨ s = 2 := by omega
      rcases hs with rfl | rfl | rfl
      · go_wp2_with fail
        refine (c_pick _ _ _ _ (RD5.alloc _) (by omega) (by omega)).mono ?_
        rintro e w9 ⟨u, u1, u2, rfl, RD9, hg9⟩
        have G9 := (G5.alloc G5.size _).read (by have := G5.size; simp; omega) hg9
        have ro9 := (ro5.alloc _).read hg9 (by omega)
        have mo9 := (mo5.alloc _).read hg9 (by omega)
        have tw := (Own2.new _ _ _ _).read hg9 (by omega)
        have t0 := tw.c0
        have t1 := tw.c1
        have tl := tw.lt
        clear hg9
        clear c0 c1 f0 f1 r0 r1 g0 g1
        have c0 := mo9.c0
        have c1 := mo9.c1
        have f0 := mo9.f0
        have f1 := mo9.f1
        have r0 := ro9.c0
        have r1 := ro9.c1
        have g0 := ro9.f0
        have g1 := ro9.f1
        have hu : u = 0 ∨ u = 1 := by omega
        rcases hu with rfl | rfl
        · go_wp2
          refine bodyPost_ret (v := .agg #[.int .i64 (-1), .int .i64 (0)]) (by simp [results, Try.results54, go_sem, r0, r1]) rfl ⟨-1, 0, ⟨by omega, by omega⟩, ⟨by omega, by omega⟩, rfl, ?_, ?_⟩
          · (repeat (first | exact RD9.mono (by omega) | refine Rd.set ?_ (by first | (simp; done) | (simp; omega)) _ | refine Rd.alloc ?_ _))
          · refine Gr.grown ?_
            (repeat (first | exact G9 | refine Gr.set ?_ (by first | (simp; done) | (simp; omega)) _ | refine Gr.alloc ?_ (by have := G9.size; simp; omega) _))
        · go_wp2
          refine bodyPost_ret (v := .agg #[.int .i64 (5), .int .i64 (0)]) (by simp [results, Try.results54, go_sem, r0, r1]) rfl ⟨5, 0, ⟨by omega, by omega⟩, ⟨by omega, by omega⟩, rfl, ?_, ?_⟩
          · (repeat (first | exact RD9.mono (by omega) | refine Rd.set ?_ (by first | (simp; done) | (simp; omega)) _ | refine Rd.alloc ?_ _))
          · refine Gr.grown ?_
            (repeat (first | exact G9 | refine Gr.set ?_ (by first | (simp; done) | (simp; omega)) _ | refine Gr.alloc ?_ (by have := G9.size; simp; omega) _))
      · go_wp2_with fail
        refine (c_pick _ _ _ _ (RD5.alloc _) (by omega) (by omega)).mono ?_
        rintro e w9 ⟨u, u1, u2, rfl, RD9, hg9⟩
        have G9 := (G5.alloc G5.size _).read (by have := G5.size; simp; omega) hg9
        have ro9 := (ro5.alloc _).read hg9 (by omega)
        have mo9 := (mo5.alloc _).read hg9 (by omega)
        have tw := (Own2.new _ _ _ _).read hg9 (by omega)
        have t0 := tw.c0
        have t1 := tw.c1
        have tl := tw.lt
        clear hg9
        clear c0 c1 f0 f1 r0 r1 g0 g1
        have c0 := mo9.c0
        have c1 := mo9.c1
        have f0 := mo9.f0
        have f1 := mo9.f1
        have r0 := ro9.c0
        have r1 := ro9.c1
        have g0 := ro9.f0
        have g1 := ro9.f1
        have hu : u = 0 ∨ u = 1 := by omega
        rcases hu with rfl | rfl
        · go_wp2
          refine bodyPost_ret (v := .agg #[.int .i64 (x), .int .i64 (-1)]) (by simp [results, Try.results54, go_sem, r0, r1]) rfl ⟨x, -1, ⟨by omega, by omega⟩, ⟨by omega, by omega⟩, rfl, ?_, ?_⟩
          · (repeat (first | exact RD9.mono (by omega) | refine Rd.set ?_ (by first | (simp; done) | (simp; omega)) _ | refine Rd.alloc ?_ _))
          · refine Gr.grown ?_
            (repeat (first | exact G9 | refine Gr.set ?_ (by first | (simp; done) | (simp; omega)) _ | refine Gr.alloc ?_ (by have := G9.size; simp; omega) _))
        · go_wp2
          refine bodyPost_ret (v := .agg #[.int .i64 (x), .int .i64 (4)]) (by simp [results, Try.results54, go_sem, r0, r1]) rfl ⟨x, 4, ⟨by omega, by omega⟩, ⟨by omega, by omega⟩, rfl, ?_, ?_⟩
          · (repeat (first | exact RD9.mono (by omega) | refine Rd.set ?_ (by first | (simp; done) | (simp; omega)) _ | refine Rd.alloc ?_ _))
          · refine Gr.grown ?_
            (repeat (first | exact G9 | refine Gr.set ?_ (by first | (simp; done) | (simp; omega)) _ | refine Gr.alloc ?_ (by have := G9.size; simp; omega) _))
      · go_wp2
        refine bodyPost_ret (v := .agg #[.int .i64 (2), .int .i64 (1)]) (by simp [results, Try.results54, go_sem, r0, r1]) rfl ⟨2, 1, ⟨by omega, by omega⟩, ⟨by omega, by omega⟩, rfl, ?_, ?_⟩
        · (repeat (first | exact RD5.mono (by omega) | refine Rd.set ?_ (by first | (simp; done) | (simp; omega)) _ | refine Rd.alloc ?_ _))
        · refine Gr.grown ?_
          (repeat (first | exact G5 | refine Gr.set ?_ (by first | (simp; done) | (simp; omega)) _ | refine Gr.alloc ?_ (by have := G5.size; simp; omega) _))
end Go.Proofs.Ythmjmlblnikmaaa
