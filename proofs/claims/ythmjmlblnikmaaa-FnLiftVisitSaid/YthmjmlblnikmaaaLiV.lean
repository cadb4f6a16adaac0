/- Contracts of LiftVisit: it returns what its plain function gives, and leaves all memory that was there as it was. No conditions but those that stand at each. -/
import Derived.Test.YthmjmlblnikmaaaLiG
namespace Go.Proofs.Ythmjmlblnikmaaa
open Go.RowKit Go.Joins Pl

theorem vis_cases {L : List Int} {a v g h : Int} {k : Nat} (hx : liftV L a v g h = true) (hk : k < L.length) :
    ((a != nth L k) = true ∧ (a == nth L k) = false ∧ (standF L a v == (k : Int)) = false ∧ visDone L ⟨a, v, g, h⟩ k = false ∧ visStep L ⟨a, v, g, h⟩ k = liftStep L ⟨a, v, g, h⟩ (k : Int) false false) ∨
    (a = nth L k ∧ (v != 0) = true ∧ (v == 0) = false ∧ (standF L a v == (k : Int)) = false ∧ visDone L ⟨a, v, g, h⟩ k = false ∧ visStep L ⟨a, v, g, h⟩ k = liftStep L ⟨a, v, g, h⟩ (k : Int) false false) ∨
    (a = nth L k ∧ v = 0 ∧ g < 4 ∧ (g == 4) = false ∧ standF L a v = (k : Int) ∧ visDone L ⟨a, v, g, h⟩ k = false ∧ visStep L ⟨a, v, g, h⟩ k = liftStep L ⟨a, v, g, h⟩ (k : Int) true false) ∨
    (a = nth L k ∧ v = 0 ∧ g = 4 ∧ standF L a v = (k : Int) ∧ visT L ⟨a, v, g, h⟩ k = 0) := by
  obtain ⟨hf, _, hd, _⟩ := liftV_iff.1 hx
  have hdb := doorV_iff.1 hd
  have hi := standF_iff hf hk a v
  by_cases ha : a = nth L k
  · by_cases hv : v = 0
    · have hs := hi.2 ⟨ha, hv⟩
      have hh : here L ⟨a, v, g, h⟩ k = true := by simp [here, hs]
      by_cases hg : g = 4
      · exact .inr (.inr (.inr ⟨ha, hv, hg, hs, visT_done (by unfold visDone; rw [hh]; simp [hg])⟩))
      · exact .inr (.inr (.inl ⟨ha, hv, by omega, by simp [hg], hs, by simp [visDone, hg], by unfold visStep; rw [hh]⟩))
    · have hs : ¬ standF L a v = (k : Int) := fun e => hv (hi.1 e).2
      have hh : here L ⟨a, v, g, h⟩ k = false := by simp [here, hs]
      exact .inr (.inl ⟨ha, by simp [hv], by simp [hv], by simp [hs], by simp [visDone, hh], by unfold visStep; rw [hh]⟩)
  · have hs : ¬ standF L a v = (k : Int) := fun e => ha (hi.1 e).1
    have hh : here L ⟨a, v, g, h⟩ k = false := by simp [here, hs]
    exact .inl ⟨by simp [ha], by simp [ha], by simp [hs], by simp [visDone, hh], by unfold visStep; rw [hh]⟩
set_option maxHeartbeats 4000000 in
theorem c_viI (A : Option Addr) (n c : Nat) (L : List Int) (a v g h t : Int) (w : World) (hS : Sl w A n L) (hn : n ≤ 2097152) :
    Calls Try.prog 21 #[.slice A n c, .agg #[.int .i64 a, .int .i64 v, .int .i64 g, .int .i64 h], .int .i64 t] w fun e w' => e = .returned (.int .i64 (liftVisit L ⟨a, v, g, h⟩ t)) ∧ Below w.heap.size w w' := by
  obtain ⟨B, own⟩ := start4 w (.int .i64 a) (.int .i64 v) (.int .i64 g) (.int .i64 h) 29
  have sl := hS.alloc (.cells #[.int .i64 a, .int .i64 v, .int .i64 g, .int .i64 h] 29)
  have hl := hS.1
  have HL := Lib.hid hl; clear hl
  have c0 : True := trivial
  have c1 : True := trivial
  have c2 : True := trivial
  have c3 : True := trivial
  have f0 : True := trivial
  have f1 : True := trivial
  have f2 : True := trivial
  have f3 : True := trivial
  rcases go_cases L a v g h t with ⟨hv, _, hz⟩ | ⟨hv, ht, _, hz⟩ | ⟨k, hk, rfl, hv, ht, _, hz⟩
  · have HZ := Lib.hid hz; clear hz
    have HV := Lib.hid hv; clear hv
    go_enter Try.func21, Try.ntmps21
    go_wp2_with (go_at_call 16; refine (c_lvI _ _ _ _ _ _ _ _ _ sl hn).mono ?_; rintro e w1 ⟨rfl, hb⟩; rw [HV.out]; have B := stepB B hb; have own := own.call hb; have sl := sl.call hb; clear c0 c1 c2 c3 f0 f1 f2 f3; have c0 := own.c0; have c1 := own.c1; have c2 := own.c2; have c3 := own.c3; have f0 := own.f0; have f1 := own.f1; have f2 := own.f2; have f3 := own.f3)
    go_ret
    exact ⟨ret_int (by rw [HZ.out]), B⟩
  · have HZ := Lib.hid hz; clear hz
    have HV := Lib.hid hv; clear hv
    have ht' : inB t 0 ((n : Int) - 1) = false := by rw [← HL.out]; exact ht
    have HT := Lib.hid ht'; clear ht ht'
    go_enter Try.func21, Try.ntmps21
    go_wp2_with (first | (go_at_call 16; refine (c_lvI _ _ _ _ _ _ _ _ _ sl hn).mono ?_; rintro e w1 ⟨rfl, hb⟩; rw [HV.out]; have B := stepB B hb; have own := own.call hb; have sl := sl.call hb; clear c0 c1 c2 c3 f0 f1 f2 f3; have c0 := own.c0; have c1 := own.c1; have c2 := own.c2; have c3 := own.c3; have f0 := own.f0; have f1 := own.f1; have f2 := own.f2; have f3 := own.f3) | (go_at_call 32; refine (c_isFloor _ _ false HT.out _).mono ?_; rintro e w' ⟨rfl, rfl⟩))
    go_ret
    exact ⟨ret_int (by rw [HZ.out]), B⟩
  · have HZ := Lib.hid hz; clear hz
    have HK := Lib.hid hk; clear hk
    have HTI := Lib.hid ht
    have ht' : inB (k : Int) 0 ((n : Int) - 1) = true := by rw [← HL.out]; exact ht
    have HT := Lib.hid ht'; clear ht ht'
    have hle := visT_le (x := ⟨a, v, g, h⟩) hv HK.out
    have HV := Lib.hid hv; clear hv
    go_enter Try.func21, Try.ntmps21
    go_wp2_with (first | (go_at_call 16; refine (c_lvI _ _ _ _ _ _ _ _ _ sl hn).mono ?_; rintro e w1 ⟨rfl, hb⟩; rw [HV.out]; have B := stepB B hb; have own := own.call hb; have sl := sl.call hb; clear c0 c1 c2 c3 f0 f1 f2 f3; have c0 := own.c0; have c1 := own.c1; have c2 := own.c2; have c3 := own.c3; have f0 := own.f0; have f1 := own.f1; have f2 := own.f2; have f3 := own.f3) | (go_at_call 32; refine (c_isFloor _ _ true HT.out _).mono ?_; rintro e w' ⟨rfl, rfl⟩))
    clear c0 c1 c2 c3 f0 f1 f2 f3
    go_loopg [7] (visT L ⟨a, v, g, h⟩ k) (fun r s wr => ∃ (a' v' g' h' : Int) (m : Nat), s = .int .i64 (m : Int) ∧ r = visT L ⟨a', v', g', h'⟩ k ∧ m + r = visT L ⟨a, v, g, h⟩ k ∧ liftV L a' v' g' h' = true ∧ Below w.heap.size w wr ∧ Own4 wr w.heap.size (.int .i64 a') (.int .i64 v') (.int .i64 g') (.int .i64 h'))
    case atStart => exact ⟨a, v, g, h, 0, rfl, rfl, by omega, HV.out, B, own⟩
    case round =>
      clear B own sl
      obtain ⟨a', v', g', h', m, rfl, rfl, hm, hv', B, own⟩ := hrel
      have sl := hS.call B
      have c0 := own.c0
      have c1 := own.c1
      have c2 := own.c2
      have c3 := own.c3
      have f0 := own.f0
      have f1 := own.f1
      have f2 := own.f2
      have f3 := own.f3
      have m1 : m ≤ 1021 := by omega
      have HMM := Lib.hid hm; clear hm hle
      have HV' := Lib.hid hv'
      rcases vis_cases hv' HK.out with ⟨y1, y2, e1, e2, e3⟩ | ⟨y1, y2, y3, e1, e2, e3⟩ | ⟨y1, y2, y3, e4, e1, e2, e3⟩ | ⟨y1, y2, e4, e1, e2⟩
      · clear y1 y2
        have HD := Lib.hid e2; clear e2 hv'
        have HS := Lib.hid e3; clear e3
        go_wp2_with (first | (go_at_call 33; refine (c_standI _ _ _ _ _ _ _ sl hn).mono ?_; rintro e w1 ⟨rfl, hb⟩; have B := stepB B hb; have own := own.call hb; have sl := sl.call hb; clear c0 c1 c2 c3 f0 f1 f2 f3; have c0 := own.c0; have c1 := own.c1; have c2 := own.c2; have c3 := own.c3; have f0 := own.f0; have f1 := own.f1; have f2 := own.f2; have f3 := own.f3) | (go_at_call 12; refine (c_lstI _ _ _ _ _ _ _ _ _ _ _ _ sl hn).mono ?_; rintro e w1 ⟨rfl, hb⟩; have B := stepB B hb; have own := own.call hb; have sl := sl.call hb; clear c0 c1 c2 c3 f0 f1 f2 f3; have c0 := own.c0; have c1 := own.c1; have c2 := own.c2; have c3 := own.c3; have f0 := own.f0; have f1 := own.f1; have f2 := own.f2; have f3 := own.f3))
        go_roundg (visT L (liftStep L ⟨a', v', g', h'⟩ (k : Int) false false) k)
        case measure => have := visT_step (x := ⟨a', v', g', h'⟩) HV'.out HK.out HD.out; rw [HS.out] at this; omega
        case rel => exact ⟨_, _, _, _, m + 1, by go_num, rfl, by have := visT_step (x := ⟨a', v', g', h'⟩) HV'.out HK.out HD.out; rw [HS.out] at this; have := HMM.out; omega, liftStep_valid (x := ⟨a', v', g', h'⟩) HV'.out HTI.out _ _, (by (repeat (first | refine Below.setCell ?_ (by simp) _ | exact B))), (((own.set0 _).set1 _).set2 _).set3 _⟩
      · clear y1 y2 y3
        have HD := Lib.hid e2; clear e2 hv'
        have HS := Lib.hid e3; clear e3
        go_wp2_with (first | (go_at_call 33; refine (c_standI _ _ _ _ _ _ _ sl hn).mono ?_; rintro e w1 ⟨rfl, hb⟩; have B := stepB B hb; have own := own.call hb; have sl := sl.call hb; clear c0 c1 c2 c3 f0 f1 f2 f3; have c0 := own.c0; have c1 := own.c1; have c2 := own.c2; have c3 := own.c3; have f0 := own.f0; have f1 := own.f1; have f2 := own.f2; have f3 := own.f3) | (go_at_call 12; refine (c_lstI _ _ _ _ _ _ _ _ _ _ _ _ sl hn).mono ?_; rintro e w1 ⟨rfl, hb⟩; have B := stepB B hb; have own := own.call hb; have sl := sl.call hb; clear c0 c1 c2 c3 f0 f1 f2 f3; have c0 := own.c0; have c1 := own.c1; have c2 := own.c2; have c3 := own.c3; have f0 := own.f0; have f1 := own.f1; have f2 := own.f2; have f3 := own.f3))
        go_roundg (visT L (liftStep L ⟨a', v', g', h'⟩ (k : Int) false false) k)
        case measure => have := visT_step (x := ⟨a', v', g', h'⟩) HV'.out HK.out HD.out; rw [HS.out] at this; omega
        case rel => exact ⟨_, _, _, _, m + 1, by go_num, rfl, by have := visT_step (x := ⟨a', v', g', h'⟩) HV'.out HK.out HD.out; rw [HS.out] at this; have := HMM.out; omega, liftStep_valid (x := ⟨a', v', g', h'⟩) HV'.out HTI.out _ _, (by (repeat (first | refine Below.setCell ?_ (by simp) _ | exact B))), (((own.set0 _).set1 _).set2 _).set3 _⟩
      · clear y1 y2 y3
        have HD := Lib.hid e2; clear e2 hv'
        have HS := Lib.hid e3; clear e3
        have E1 := Lib.hid e1; clear e1
        go_wp2_with (first | (go_at_call 33; refine (c_standI _ _ _ _ _ _ _ sl hn).mono ?_; rintro e w1 ⟨rfl, hb⟩; rw [E1.out]; have B := stepB B hb; have own := own.call hb; have sl := sl.call hb; clear c0 c1 c2 c3 f0 f1 f2 f3; have c0 := own.c0; have c1 := own.c1; have c2 := own.c2; have c3 := own.c3; have f0 := own.f0; have f1 := own.f1; have f2 := own.f2; have f3 := own.f3) | (go_at_call 12; refine (c_lstI _ _ _ _ _ _ _ _ _ _ _ _ sl hn).mono ?_; rintro e w1 ⟨rfl, hb⟩; have B := stepB B hb; have own := own.call hb; have sl := sl.call hb; clear c0 c1 c2 c3 f0 f1 f2 f3; have c0 := own.c0; have c1 := own.c1; have c2 := own.c2; have c3 := own.c3; have f0 := own.f0; have f1 := own.f1; have f2 := own.f2; have f3 := own.f3))
        go_roundg (visT L (liftStep L ⟨a', v', g', h'⟩ (k : Int) true false) k)
        case measure => have := visT_step (x := ⟨a', v', g', h'⟩) HV'.out HK.out HD.out; rw [HS.out] at this; omega
        case rel => exact ⟨_, _, _, _, m + 1, by go_num, rfl, by have := visT_step (x := ⟨a', v', g', h'⟩) HV'.out HK.out HD.out; rw [HS.out] at this; have := HMM.out; omega, liftStep_valid (x := ⟨a', v', g', h'⟩) HV'.out HTI.out _ _, (by (repeat (first | refine Below.setCell ?_ (by simp) _ | exact B))), (((own.set0 _).set1 _).set2 _).set3 _⟩
      · clear y1 y2
        subst e4
        have E1 := Lib.hid e1; clear e1
        have E2 := Lib.hid e2; clear e2 hv'
        go_wp2_with (first | (go_at_call 33; refine (c_standI _ _ _ _ _ _ _ sl hn).mono ?_; rintro e w1 ⟨rfl, hb⟩; rw [E1.out]; have B := stepB B hb; have own := own.call hb; have sl := sl.call hb; clear c0 c1 c2 c3 f0 f1 f2 f3; have c0 := own.c0; have c1 := own.c1; have c2 := own.c2; have c3 := own.c3; have f0 := own.f0; have f1 := own.f1; have f2 := own.f2; have f3 := own.f3))
        go_ret
        exact ⟨ret_int (by rw [HZ.out]; have := HMM.out; rw [E2.out] at this; omega), B⟩
set_option maxHeartbeats 4000000 in
theorem c_viS (A : Option Addr) (n c : Nat) (L : List Int) (a v g h t : Int) (w : World) (hS : Sl w A n L) (hn : n ≤ 2097152) :
    Calls Try.prog 22 #[.slice A n c, .agg #[.int .i64 a, .int .i64 v, .int .i64 g, .int .i64 h], .int .i64 t] w fun e w' => e = .returned (.int .i64 (liftVisit L ⟨a, v, g, h⟩ t)) ∧ Below w.heap.size w w' := by
  obtain ⟨B, own⟩ := start4 w (.int .i64 a) (.int .i64 v) (.int .i64 g) (.int .i64 h) 29
  have sl := hS.alloc (.cells #[.int .i64 a, .int .i64 v, .int .i64 g, .int .i64 h] 29)
  have hl := hS.1
  have HL := Lib.hid hl; clear hl
  have c0 : True := trivial
  have c1 : True := trivial
  have c2 : True := trivial
  have c3 : True := trivial
  have f0 : True := trivial
  have f1 : True := trivial
  have f2 : True := trivial
  have f3 : True := trivial
  rcases go_cases L a v g h t with ⟨hv, hgo, hz⟩ | ⟨hv, ht, hgo, hz⟩ | ⟨k, hk, rfl, hv, ht, hgo, hz⟩
  · have HZ := Lib.hid hz; clear hz hv
    have HG := Lib.hid hgo; clear hgo
    go_enter Try.func22, Try.ntmps22
    go_wp2_with (go_at_call 19; refine (c_goS _ _ _ _ _ _ _ _ _ _ sl hn).mono ?_; rintro e w1 ⟨rfl, hb⟩; rw [HG.out]; have B := stepB B hb; have own := own.call hb; have sl := sl.call hb; clear c0 c1 c2 c3 f0 f1 f2 f3; have c0 := own.c0; have c1 := own.c1; have c2 := own.c2; have c3 := own.c3; have f0 := own.f0; have f1 := own.f1; have f2 := own.f2; have f3 := own.f3)
    go_ret
    exact ⟨ret_int (by rw [HZ.out]), B⟩
  · have HZ := Lib.hid hz; clear hz hv ht
    have HG := Lib.hid hgo; clear hgo
    go_enter Try.func22, Try.ntmps22
    go_wp2_with (go_at_call 19; refine (c_goS _ _ _ _ _ _ _ _ _ _ sl hn).mono ?_; rintro e w1 ⟨rfl, hb⟩; rw [HG.out]; have B := stepB B hb; have own := own.call hb; have sl := sl.call hb; clear c0 c1 c2 c3 f0 f1 f2 f3; have c0 := own.c0; have c1 := own.c1; have c2 := own.c2; have c3 := own.c3; have f0 := own.f0; have f1 := own.f1; have f2 := own.f2; have f3 := own.f3)
    go_ret
    exact ⟨ret_int (by rw [HZ.out]), B⟩
  · have HZ := Lib.hid hz; clear hz
    have HK := Lib.hid hk
    have HTI := Lib.hid ht; clear ht
    have hle := visT_le (x := ⟨a, v, g, h⟩) hv hk
    obtain ⟨q, hq⟩ : ∃ q, goT L ⟨a, v, g, h⟩ k = q := ⟨_, rfl⟩
    rw [hq] at hgo
    have d0 : decide ((q : Int) < 0) = false := decide_eq_false (by omega)
    have HG := Lib.hid hgo; clear hgo hq
    have HV := Lib.hid hv; clear hv
    rw [HL.out] at hk
    have i1 : (k : Int) < (n : Int) := by omega
    obtain ⟨b, o, hA, _, _⟩ := hS.2 (by omega)
    subst hA
    go_enter Try.func22, Try.ntmps22
    go_wp2_with (go_at_call 19; refine (c_goS _ _ _ _ _ _ _ _ _ _ sl hn).mono ?_; rintro e w1 ⟨rfl, hb⟩; rw [HG.out]; have B := stepB B hb; have own := own.call hb; have sl := sl.call hb; clear c0 c1 c2 c3 f0 f1 f2 f3; have c0 := own.c0; have c1 := own.c1; have c2 := own.c2; have c3 := own.c3; have f0 := own.f0; have f1 := own.f1; have f2 := own.f2; have f3 := own.f3)
    clear c0 c1 c2 c3 f0 f1 f2 f3 d0
    go_loopg [7] (visT L ⟨a, v, g, h⟩ k) (fun r s wr => ∃ (a' v' g' h' : Int) (m : Nat), s = .int .i64 (m : Int) ∧ r = visT L ⟨a', v', g', h'⟩ k ∧ m + r = visT L ⟨a, v, g, h⟩ k ∧ liftV L a' v' g' h' = true ∧ Below w.heap.size w wr ∧ Own4 wr w.heap.size (.int .i64 a') (.int .i64 v') (.int .i64 g') (.int .i64 h'))
    case atStart => exact ⟨a, v, g, h, 0, rfl, rfl, by omega, HV.out, B, own⟩
    case round =>
      clear B own sl
      obtain ⟨a', v', g', h', m, rfl, rfl, hm, hv', B, own⟩ := hrel
      have sl := hS.call B
      have c0 := own.c0
      have c1 := own.c1
      have c2 := own.c2
      have c3 := own.c3
      have f0 := own.f0
      have f1 := own.f1
      have f2 := own.f2
      have f3 := own.f3
      have ck := sl.cellAt rfl hk
      have m1 : m ≤ 1021 := by omega
      have HMM := Lib.hid hm; clear hm hle
      have HV' := Lib.hid hv'
      rcases vis_cases hv' HK.out with ⟨e4, e5, y3, e2, e3⟩ | ⟨rfl, e4, e5, y3, e2, e3⟩ | ⟨rfl, rfl, e4, y4, y5, e2, e3⟩ | ⟨rfl, rfl, rfl, y5, e2⟩
      · have HD := Lib.hid e2; clear e2 hv'
        have HS := Lib.hid e3; clear e3
        clear y3
        go_wp2
        go_quiet (fail)
        generalize hw5 : wr.drewN nq = w5
        have dq : DN wr w5 := ⟨nq, hw5.symm⟩
        clear hw5
        have hb := dq.below
        have B := stepB B hb
        have own := own.call hb
        have sl := sl.call hb
        clear c0 c1 c2 c3 f0 f1 f2 f3
        have c0 := own.c0
        have c1 := own.c1
        have c2 := own.c2
        have c3 := own.c3
        have f0 := own.f0
        have f1 := own.f1
        have f2 := own.f2
        have f3 := own.f3
        have ck := sl.cellAt rfl hk
        go_wp2
        go_quiet (fail)
        generalize hw5 : w5.drewN nq = w6
        have dq : DN w5 w6 := ⟨nq, hw5.symm⟩
        clear hw5
        have hb := dq.below
        have B := stepB B hb
        have own := own.call hb
        have sl := sl.call hb
        clear c0 c1 c2 c3 f0 f1 f2 f3
        have c0 := own.c0
        have c1 := own.c1
        have c2 := own.c2
        have c3 := own.c3
        have f0 := own.f0
        have f1 := own.f1
        have f2 := own.f2
        have f3 := own.f3
        have ck := sl.cellAt rfl hk
        go_wp2_with (go_at_call 13; refine (c_lstS _ _ _ _ _ _ _ _ _ _ _ _ sl hn).mono ?_; rintro e w1 ⟨rfl, hb⟩; have B := stepB B hb; have own := own.call hb; have sl := sl.call hb; clear c0 c1 c2 c3 f0 f1 f2 f3; have c0 := own.c0; have c1 := own.c1; have c2 := own.c2; have c3 := own.c3; have f0 := own.f0; have f1 := own.f1; have f2 := own.f2; have f3 := own.f3)
        go_roundg (visT L (liftStep L ⟨a', v', g', h'⟩ (k : Int) false false) k)
        case measure => have := visT_step (x := ⟨a', v', g', h'⟩) HV'.out HK.out HD.out; rw [HS.out] at this; omega
        case rel => exact ⟨_, _, _, _, m + 1, by go_num, rfl, by have := visT_step (x := ⟨a', v', g', h'⟩) HV'.out HK.out HD.out; rw [HS.out] at this; have := HMM.out; omega, liftStep_valid (x := ⟨a', v', g', h'⟩) HV'.out HTI.out _ _, (by (repeat (first | refine Below.setCell ?_ (by simp) _ | exact B))), (((own.set0 _).set1 _).set2 _).set3 _⟩
      · have HD := Lib.hid e2; clear e2 hv'
        have HS := Lib.hid e3; clear e3
        clear y3
        have z1 : (nth L k != nth L k) = false := by simp
        have z2 : (nth L k == nth L k) = true := by simp
        go_wp2
        go_quiet (fail)
        generalize hw5 : wr.drewN nq = w5
        have dq : DN wr w5 := ⟨nq, hw5.symm⟩
        clear hw5
        have hb := dq.below
        have B := stepB B hb
        have own := own.call hb
        have sl := sl.call hb
        clear c0 c1 c2 c3 f0 f1 f2 f3
        have c0 := own.c0
        have c1 := own.c1
        have c2 := own.c2
        have c3 := own.c3
        have f0 := own.f0
        have f1 := own.f1
        have f2 := own.f2
        have f3 := own.f3
        have ck := sl.cellAt rfl hk
        go_wp2
        go_quiet (fail)
        generalize hw5 : w5.drewN nq = w6
        have dq : DN w5 w6 := ⟨nq, hw5.symm⟩
        clear hw5
        have hb := dq.below
        have B := stepB B hb
        have own := own.call hb
        have sl := sl.call hb
        clear c0 c1 c2 c3 f0 f1 f2 f3
        have c0 := own.c0
        have c1 := own.c1
        have c2 := own.c2
        have c3 := own.c3
        have f0 := own.f0
        have f1 := own.f1
        have f2 := own.f2
        have f3 := own.f3
        have ck := sl.cellAt rfl hk
        go_wp2_with (go_at_call 13; refine (c_lstS _ _ _ _ _ _ _ _ _ _ _ _ sl hn).mono ?_; rintro e w1 ⟨rfl, hb⟩; have B := stepB B hb; have own := own.call hb; have sl := sl.call hb; clear c0 c1 c2 c3 f0 f1 f2 f3; have c0 := own.c0; have c1 := own.c1; have c2 := own.c2; have c3 := own.c3; have f0 := own.f0; have f1 := own.f1; have f2 := own.f2; have f3 := own.f3)
        go_roundg (visT L (liftStep L ⟨nth L k, v', g', h'⟩ (k : Int) false false) k)
        case measure => have := visT_step (x := ⟨nth L k, v', g', h'⟩) HV'.out HK.out HD.out; rw [HS.out] at this; omega
        case rel => exact ⟨_, _, _, _, m + 1, by go_num, rfl, by have := visT_step (x := ⟨nth L k, v', g', h'⟩) HV'.out HK.out HD.out; rw [HS.out] at this; have := HMM.out; omega, liftStep_valid (x := ⟨nth L k, v', g', h'⟩) HV'.out HTI.out _ _, (by (repeat (first | refine Below.setCell ?_ (by simp) _ | exact B))), (((own.set0 _).set1 _).set2 _).set3 _⟩
      · have HD := Lib.hid e2; clear e2 hv'
        have HS := Lib.hid e3; clear e3
        clear y4 y5
        have z1 : (nth L k != nth L k) = false := by simp
        have z2 : (nth L k == nth L k) = true := by simp
        go_wp2
        go_quiet (fail)
        generalize hw5 : wr.drewN nq = w5
        have dq : DN wr w5 := ⟨nq, hw5.symm⟩
        clear hw5
        have hb := dq.below
        have B := stepB B hb
        have own := own.call hb
        have sl := sl.call hb
        clear c0 c1 c2 c3 f0 f1 f2 f3
        have c0 := own.c0
        have c1 := own.c1
        have c2 := own.c2
        have c3 := own.c3
        have f0 := own.f0
        have f1 := own.f1
        have f2 := own.f2
        have f3 := own.f3
        have ck := sl.cellAt rfl hk
        go_wp2
        go_quiet (fail)
        generalize hw5 : w5.drewN nq = w6
        have dq : DN w5 w6 := ⟨nq, hw5.symm⟩
        clear hw5
        have hb := dq.below
        have B := stepB B hb
        have own := own.call hb
        have sl := sl.call hb
        clear c0 c1 c2 c3 f0 f1 f2 f3
        have c0 := own.c0
        have c1 := own.c1
        have c2 := own.c2
        have c3 := own.c3
        have f0 := own.f0
        have f1 := own.f1
        have f2 := own.f2
        have f3 := own.f3
        have ck := sl.cellAt rfl hk
        go_wp2_with (go_at_call 13; refine (c_lstS _ _ _ _ _ _ _ _ _ _ _ _ sl hn).mono ?_; rintro e w1 ⟨rfl, hb⟩; have B := stepB B hb; have own := own.call hb; have sl := sl.call hb; clear c0 c1 c2 c3 f0 f1 f2 f3; have c0 := own.c0; have c1 := own.c1; have c2 := own.c2; have c3 := own.c3; have f0 := own.f0; have f1 := own.f1; have f2 := own.f2; have f3 := own.f3)
        go_roundg (visT L (liftStep L ⟨nth L k, 0, g', h'⟩ (k : Int) true false) k)
        case measure => have := visT_step (x := ⟨nth L k, 0, g', h'⟩) HV'.out HK.out HD.out; rw [HS.out] at this; omega
        case rel => exact ⟨_, _, _, _, m + 1, by go_num, rfl, by have := visT_step (x := ⟨nth L k, 0, g', h'⟩) HV'.out HK.out HD.out; rw [HS.out] at this; have := HMM.out; omega, liftStep_valid (x := ⟨nth L k, 0, g', h'⟩) HV'.out HTI.out _ _, (by (repeat (first | refine Below.setCell ?_ (by simp) _ | exact B))), (((own.set0 _).set1 _).set2 _).set3 _⟩
      · clear y5
        have z1 : (nth L k != nth L k) = false := by simp
        have E2 := Lib.hid e2; clear e2 hv'
        go_wp2
        go_quiet (fail)
        generalize hw5 : wr.drewN nq = w5
        have dq : DN wr w5 := ⟨nq, hw5.symm⟩
        clear hw5
        have hb := dq.below
        have B := stepB B hb
        have own := own.call hb
        have sl := sl.call hb
        clear c0 c1 c2 c3 f0 f1 f2 f3
        have c0 := own.c0
        have c1 := own.c1
        have c2 := own.c2
        have c3 := own.c3
        have f0 := own.f0
        have f1 := own.f1
        have f2 := own.f2
        have f3 := own.f3
        have ck := sl.cellAt rfl hk
        go_wp2
        go_ret
        exact ⟨ret_int (by rw [HZ.out]; have := HMM.out; rw [E2.out] at this; omega), B⟩
end Go.Proofs.Ythmjmlblnikmaaa
