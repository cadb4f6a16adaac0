/- Contracts of LiftGo and LiftVisit: each returns what its plain function gives, and leaves all memory that was there as it was. No conditions but those that stand at each. -/
import Derived.Test.YthmjmlblnikmaaaLiS
import Derived.Test.YthmjmlblnikmaaaTicks
namespace Go.Proofs.Ythmjmlblnikmaaa
open Go.RowKit Go.Joins Pl

theorem go_cases (L : List Int) (a v g h t : Int) : (liftV L a v g h = false ∧ liftGo L ⟨a, v, g, h⟩ t = -1 ∧ liftVisit L ⟨a, v, g, h⟩ t = -1) ∨ (liftV L a v g h = true ∧ isFl L t = false ∧ liftGo L ⟨a, v, g, h⟩ t = -1 ∧ liftVisit L ⟨a, v, g, h⟩ t = -1) ∨
    ∃ k : Nat, k < L.length ∧ t = (k : Int) ∧ liftV L a v g h = true ∧ isFl L t = true ∧ liftGo L ⟨a, v, g, h⟩ t = (goT L ⟨a, v, g, h⟩ k : Int) ∧ liftVisit L ⟨a, v, g, h⟩ t = (visT L ⟨a, v, g, h⟩ k : Int) := by
  by_cases hv : liftV L a v g h = true
  · by_cases ht : isFl L t = true
    · refine .inr (.inr ?_)
      obtain ⟨k, hk, rfl⟩ := isFl_nat ht
      exact ⟨k, hk, rfl, hv, ht, by unfold liftGo; rw [hv, ht]; simp, by unfold liftVisit; rw [hv, ht]; simp⟩
    · exact .inr (.inl ⟨hv, by simpa using ht, by unfold liftGo; simp [ht], by unfold liftVisit; simp [ht]⟩)
  · exact .inl ⟨by simpa using hv, by unfold liftGo; simp [hv], by unfold liftVisit; simp [hv]⟩
/-- A car out of four numbers. -/
theorem car_eta (x : Car) : (⟨x.a, x.v, x.g, x.h⟩ : Car) = x := rfl
theorem go_stop_cases {L : List Int} {a v g h : Int} {k : Nat} (hx : liftV L a v g h = true) (hk : k < L.length) :
    (goT L ⟨a, v, g, h⟩ k = 0 ∧ standF L a v = (k : Int) ∧ decide (0 < g) = false) ∨ ((standF L a v != (k : Int)) = true ∧ goT L ⟨a, v, g, h⟩ k = goT L (liftStep L ⟨a, v, g, h⟩ (k : Int) false false) k + 1) ∨
    (standF L a v = (k : Int) ∧ 0 < g ∧ goT L ⟨a, v, g, h⟩ k = goT L (liftStep L ⟨a, v, g, h⟩ (k : Int) false false) k + 1) := by
  by_cases hs : standF L a v = (k : Int)
  · by_cases hg : 0 < g
    · exact .inr (.inr ⟨hs, hg, goT_step (x := ⟨a, v, g, h⟩) hx hk (fun e => e.2 hg)⟩)
    · exact .inl ⟨(goT_zero (x := ⟨a, v, g, h⟩) hx hk).2 ⟨hs, hg⟩, hs, decide_eq_false hg⟩
  · exact .inr (.inl ⟨by simpa using hs, goT_step (x := ⟨a, v, g, h⟩) hx hk (fun e => hs e.1)⟩)
set_option maxHeartbeats 4000000 in
theorem c_goI (A : Option Addr) (n c : Nat) (L : List Int) (a v g h t : Int) (w : World) (hS : Sl w A n L) (hn : n ≤ 2097152) :
    Calls Try.prog 18 #[.slice A n c, .agg #[.int .i64 a, .int .i64 v, .int .i64 g, .int .i64 h], .int .i64 t] w fun e w' => e = .returned (.int .i64 (liftGo L ⟨a, v, g, h⟩ t)) ∧ Below w.heap.size w w' := by
  obtain ⟨B, own⟩ := start4 w (.int .i64 a) (.int .i64 v) (.int .i64 g) (.int .i64 h) 29
  have sl := hS.alloc (.cells #[.int .i64 a, .int .i64 v, .int .i64 g, .int .i64 h] 29)
  have hl := hS.1
  have HL := Lib.hid hl; clear hl
  have c0 : True := trivial
  have c1 : True := trivial
  have c2 : True := trivial
  have c3 : True := trivial
  have f0 : True := trivial
  have f1 : True := trivial
  have f2 : True := trivial
  have f3 : True := trivial
  rcases go_cases L a v g h t with ⟨hv, hz, _⟩ | ⟨hv, ht, hz, _⟩ | ⟨k, hk, rfl, hv, ht, hz, _⟩
  · have HZ := Lib.hid hz; clear hz
    have HV := Lib.hid hv; clear hv
    go_enter Try.func18, Try.ntmps18
    go_wp2_with (go_at_call 16; refine (c_lvI _ _ _ _ _ _ _ _ _ sl hn).mono ?_; rintro e w1 ⟨rfl, hb⟩; rw [HV.out]; have B := stepB B hb; have own := own.call hb; have sl := sl.call hb; clear c0 c1 c2 c3 f0 f1 f2 f3; have c0 := own.c0; have c1 := own.c1; have c2 := own.c2; have c3 := own.c3; have f0 := own.f0; have f1 := own.f1; have f2 := own.f2; have f3 := own.f3)
    go_ret
    exact ⟨ret_int (by rw [HZ.out]), B⟩
  · have HZ := Lib.hid hz; clear hz
    have HV := Lib.hid hv; clear hv
    have ht' : inB t 0 ((n : Int) - 1) = false := by rw [← HL.out]; exact ht
    have HT := Lib.hid ht'; clear ht ht'
    go_enter Try.func18, Try.ntmps18
    go_wp2_with (first | (go_at_call 16; refine (c_lvI _ _ _ _ _ _ _ _ _ sl hn).mono ?_; rintro e w1 ⟨rfl, hb⟩; rw [HV.out]; have B := stepB B hb; have own := own.call hb; have sl := sl.call hb; clear c0 c1 c2 c3 f0 f1 f2 f3; have c0 := own.c0; have c1 := own.c1; have c2 := own.c2; have c3 := own.c3; have f0 := own.f0; have f1 := own.f1; have f2 := own.f2; have f3 := own.f3) | (go_at_call 32; refine (c_isFloor _ _ false HT.out _).mono ?_; rintro e w' ⟨rfl, rfl⟩))
    go_ret
    exact ⟨ret_int (by rw [HZ.out]), B⟩
  · have HZ := Lib.hid hz; clear hz
    have HK := Lib.hid hk; clear hk
    have HTI := Lib.hid ht
    have ht' : inB (k : Int) 0 ((n : Int) - 1) = true := by rw [← HL.out]; exact ht
    have HT := Lib.hid ht'; clear ht ht'
    have hle := goT_le (x := ⟨a, v, g, h⟩) hv HK.out
    have HV := Lib.hid hv; clear hv
    go_enter Try.func18, Try.ntmps18
    go_wp2_with (first | (go_at_call 16; refine (c_lvI _ _ _ _ _ _ _ _ _ sl hn).mono ?_; rintro e w1 ⟨rfl, hb⟩; rw [HV.out]; have B := stepB B hb; have own := own.call hb; have sl := sl.call hb; clear c0 c1 c2 c3 f0 f1 f2 f3; have c0 := own.c0; have c1 := own.c1; have c2 := own.c2; have c3 := own.c3; have f0 := own.f0; have f1 := own.f1; have f2 := own.f2; have f3 := own.f3) | (go_at_call 32; refine (c_isFloor _ _ true HT.out _).mono ?_; rintro e w' ⟨rfl, rfl⟩))
    clear c0 c1 c2 c3 f0 f1 f2 f3
    go_loopg [7] (goT L ⟨a, v, g, h⟩ k) (fun r s wr => ∃ (a' v' g' h' : Int) (m : Nat), s = .int .i64 (m : Int) ∧ r = goT L ⟨a', v', g', h'⟩ k ∧ m + r = goT L ⟨a, v, g, h⟩ k ∧ liftV L a' v' g' h' = true ∧ Below w.heap.size w wr ∧ Own4 wr w.heap.size (.int .i64 a') (.int .i64 v') (.int .i64 g') (.int .i64 h'))
    case atStart => exact ⟨a, v, g, h, 0, rfl, rfl, by omega, HV.out, B, own⟩
    case round =>
      clear B own sl
      obtain ⟨a', v', g', h', m, rfl, rfl, hm, hv', B, own⟩ := hrel
      have sl := hS.call B
      have c0 := own.c0
      have c1 := own.c1
      have c2 := own.c2
      have c3 := own.c3
      have f0 := own.f0
      have f1 := own.f1
      have f2 := own.f2
      have f3 := own.f3
      have m1 : m ≤ 1012 := by omega
      have HMM := Lib.hid hm; clear hm hle
      have HV' := Lib.hid hv'
      rcases go_stop_cases hv' HK.out with ⟨e0, e1, e2⟩ | ⟨e1, e3⟩ | ⟨e1, e2, e3⟩
      · have E0 := Lib.hid e0; clear e0 hv'
        have E1 := Lib.hid e1; clear e1
        go_wp2_with (go_at_call 33; refine (c_standI _ _ _ _ _ _ _ sl hn).mono ?_; rintro e w1 ⟨rfl, hb⟩; rw [E1.out]; have B := stepB B hb; have own := own.call hb; have sl := sl.call hb; clear c0 c1 c2 c3 f0 f1 f2 f3; have c0 := own.c0; have c1 := own.c1; have c2 := own.c2; have c3 := own.c3; have f0 := own.f0; have f1 := own.f1; have f2 := own.f2; have f3 := own.f3)
        go_ret
        exact ⟨ret_int (by rw [HZ.out]; have := HMM.out; rw [E0.out] at this; omega), B⟩
      · have E3 := Lib.hid e3; clear e3 hv'
        go_wp2_with (first | (go_at_call 33; refine (c_standI _ _ _ _ _ _ _ sl hn).mono ?_; rintro e w1 ⟨rfl, hb⟩; have B := stepB B hb; have own := own.call hb; have sl := sl.call hb; clear c0 c1 c2 c3 f0 f1 f2 f3; have c0 := own.c0; have c1 := own.c1; have c2 := own.c2; have c3 := own.c3; have f0 := own.f0; have f1 := own.f1; have f2 := own.f2; have f3 := own.f3) | (go_at_call 12; refine (c_lstI _ _ _ _ _ _ _ _ _ _ _ _ sl hn).mono ?_; rintro e w1 ⟨rfl, hb⟩; have B := stepB B hb; have own := own.call hb; have sl := sl.call hb; clear c0 c1 c2 c3 f0 f1 f2 f3; have c0 := own.c0; have c1 := own.c1; have c2 := own.c2; have c3 := own.c3; have f0 := own.f0; have f1 := own.f1; have f2 := own.f2; have f3 := own.f3))
        go_roundg (goT L (liftStep L ⟨a', v', g', h'⟩ (k : Int) false false) k)
        case measure => have := E3.out; omega
        case rel => exact ⟨_, _, _, _, m + 1, by go_num, rfl, by have := E3.out; have := HMM.out; omega, liftStep_valid (x := ⟨a', v', g', h'⟩) HV'.out HTI.out _ _, (by (repeat (first | refine Below.setCell ?_ (by simp) _ | exact B))), (((own.set0 _).set1 _).set2 _).set3 _⟩
      · have E3 := Lib.hid e3; clear e3 hv'
        have E1 := Lib.hid e1; clear e1
        go_wp2_with (first | (go_at_call 33; refine (c_standI _ _ _ _ _ _ _ sl hn).mono ?_; rintro e w1 ⟨rfl, hb⟩; rw [E1.out]; have B := stepB B hb; have own := own.call hb; have sl := sl.call hb; clear c0 c1 c2 c3 f0 f1 f2 f3; have c0 := own.c0; have c1 := own.c1; have c2 := own.c2; have c3 := own.c3; have f0 := own.f0; have f1 := own.f1; have f2 := own.f2; have f3 := own.f3) | (go_at_call 12; refine (c_lstI _ _ _ _ _ _ _ _ _ _ _ _ sl hn).mono ?_; rintro e w1 ⟨rfl, hb⟩; have B := stepB B hb; have own := own.call hb; have sl := sl.call hb; clear c0 c1 c2 c3 f0 f1 f2 f3; have c0 := own.c0; have c1 := own.c1; have c2 := own.c2; have c3 := own.c3; have f0 := own.f0; have f1 := own.f1; have f2 := own.f2; have f3 := own.f3))
        go_roundg (goT L (liftStep L ⟨a', v', g', h'⟩ (k : Int) false false) k)
        case measure => have := E3.out; omega
        case rel => exact ⟨_, _, _, _, m + 1, by go_num, rfl, by have := E3.out; have := HMM.out; omega, liftStep_valid (x := ⟨a', v', g', h'⟩) HV'.out HTI.out _ _, (by (repeat (first | refine Below.setCell ?_ (by simp) _ | exact B))), (((own.set0 _).set1 _).set2 _).set3 _⟩
set_option maxHeartbeats 4000000 in
theorem c_goS (A : Option Addr) (n c : Nat) (L : List Int) (a v g h t : Int) (w : World) (hS : Sl w A n L) (hn : n ≤ 2097152) :
    Calls Try.prog 19 #[.slice A n c, .agg #[.int .i64 a, .int .i64 v, .int .i64 g, .int .i64 h], .int .i64 t] w fun e w' => e = .returned (.int .i64 (liftGo L ⟨a, v, g, h⟩ t)) ∧ Below w.heap.size w w' := by
  obtain ⟨B, own⟩ := start4 w (.int .i64 a) (.int .i64 v) (.int .i64 g) (.int .i64 h) 29
  have sl := hS.alloc (.cells #[.int .i64 a, .int .i64 v, .int .i64 g, .int .i64 h] 29)
  have hl := hS.1
  have HL := Lib.hid hl; clear hl
  have c0 : True := trivial
  have c1 : True := trivial
  have c2 : True := trivial
  have c3 : True := trivial
  have f0 : True := trivial
  have f1 : True := trivial
  have f2 : True := trivial
  have f3 : True := trivial
  rcases go_cases L a v g h t with ⟨hv, hz, _⟩ | ⟨hv, ht, hz, _⟩ | ⟨k, hk, rfl, hv, ht, hz, _⟩
  · have HZ := Lib.hid hz; clear hz
    have HV := Lib.hid hv; clear hv
    go_enter Try.func19, Try.ntmps19
    go_wp2_with (go_at_call 14; refine (c_lvS _ _ _ _ _ _ _ _ _ sl hn).mono ?_; rintro e w1 ⟨rfl, hb⟩; rw [HV.out]; have B := stepB B hb; have own := own.call hb; have sl := sl.call hb; clear c0 c1 c2 c3 f0 f1 f2 f3; have c0 := own.c0; have c1 := own.c1; have c2 := own.c2; have c3 := own.c3; have f0 := own.f0; have f1 := own.f1; have f2 := own.f2; have f3 := own.f3)
    go_ret
    exact ⟨ret_int (by rw [HZ.out]), B⟩
  · have HZ := Lib.hid hz; clear hz
    have HV := Lib.hid hv; clear hv
    have ht' : inB t 0 ((n : Int) - 1) = false := by rw [← HL.out]; exact ht
    have HT := Lib.hid ht'; clear ht ht'
    go_enter Try.func19, Try.ntmps19
    go_wp2_with (first | (go_at_call 14; refine (c_lvS _ _ _ _ _ _ _ _ _ sl hn).mono ?_; rintro e w1 ⟨rfl, hb⟩; rw [HV.out]; have B := stepB B hb; have own := own.call hb; have sl := sl.call hb; clear c0 c1 c2 c3 f0 f1 f2 f3; have c0 := own.c0; have c1 := own.c1; have c2 := own.c2; have c3 := own.c3; have f0 := own.f0; have f1 := own.f1; have f2 := own.f2; have f3 := own.f3) | (go_at_call 36; refine (c_l1In_at _ _ _ false HT.out _).mono ?_; rintro e w' ⟨rfl, rfl⟩))
    go_ret
    exact ⟨ret_int (by rw [HZ.out]), B⟩
  · have ht' : inB (k : Int) 0 ((n : Int) - 1) = true := by rw [← HL.out]; exact ht
    have HT := Lib.hid ht'; clear ht ht'
    obtain ⟨hf, hm, hd, _⟩ := liftV_iff.1 hv
    have hdt : doorTicks g h = g + h := by unfold doorTicks; rw [hd]; rfl
    have hdb := doorV_iff.1 hd
    obtain ⟨⟨d1, d2⟩, ⟨d3, d4⟩, _⟩ := hdb
    have hkb := fv_bd (floorsV_iff.1 hf) hk
    have htt : tickT a v (nth L k) = (ticksM a v (nth L k) : Int) := by unfold tickT; rw [hm, inB_iff.2 hkb]; rfl
    have hle := ticksM_le hm (inB_iff.2 hkb)
    have hgo : (goT L ⟨a, v, g, h⟩ k : Int) = g + h + (ticksM a v (nth L k) : Int) := by unfold goT; simp only; omega
    rw [hgo] at hz
    obtain ⟨q, hq⟩ : ∃ q, ticksM a v (nth L k) = q := ⟨_, rfl⟩
    rw [hq] at hz htt hle
    have HZ := Lib.hid hz; clear hz hgo hq
    have HDT := Lib.hid hdt; clear hdt
    have HTT := Lib.hid htt; clear htt
    have HV := Lib.hid hv; clear hv hd hm hf hkb
    rw [HL.out] at hk
    have i1 : (k : Int) < (n : Int) := by omega
    obtain ⟨b, o, hA, _, _⟩ := hS.2 (by omega)
    subst hA
    go_enter Try.func19, Try.ntmps19
    go_wp2_with (first | (go_at_call 14; refine (c_lvS _ _ _ _ _ _ _ _ _ sl hn).mono ?_; rintro e w1 ⟨rfl, hb⟩; rw [HV.out]; have B := stepB B hb; have own := own.call hb; have sl := sl.call hb; clear c0 c1 c2 c3 f0 f1 f2 f3; have c0 := own.c0; have c1 := own.c1; have c2 := own.c2; have c3 := own.c3; have f0 := own.f0; have f1 := own.f1; have f2 := own.f2; have f3 := own.f3) | (go_at_call 36; refine (c_l1In_at _ _ _ true HT.out _).mono ?_; rintro e w' ⟨rfl, rfl⟩))
    have ck := sl.cellAt rfl hk
    have D1 := (DN.drew1 w1).below
    have B1 := stepB B D1
    have own1 := own.call D1
    have sl1 := sl.call D1
    have p1 : IntKind.i64.wrap (g + h + (q : Int)) = g + h + (q : Int) := IntWalk.i64_in _ (by omega)
    go_region_held3 (fun w' => (w'.cell? ⟨w.heap.size, 0, none⟩ = some (.int .i64 a) ∧ w'.cell? ⟨w.heap.size, 1, none⟩ = some (.int .i64 v)) ∧ (w'.cell? ⟨w.heap.size, 2, none⟩ = some (.int .i64 g) ∧ w'.cell? ⟨w.heap.size, 3, none⟩ = some (.int .i64 h)) ∧ w'.cell? ⟨b, o + k, none⟩ = some (.int .i64 (nth L k)))
      (first | exact ⟨⟨own1.c0, own1.c1⟩, ⟨own1.c2, own1.c3⟩, sl1.cellAt rfl hk⟩ | exact ⟨⟨own2.c0, own2.c1⟩, ⟨own2.c2, own2.c3⟩, sl2.cellAt rfl hk⟩ | exact ⟨⟨own3.c0, own3.c1⟩, ⟨own3.c2, own3.c3⟩, sl3.cellAt rfl hk⟩ | go_keep)
      (first | (go_at_call 46; refine (c_doorTS _ _ _).mono ?_; rintro e w2 ⟨rfl, hb2⟩; rw [HDT.out]; have own2 := own1.call hb2; have sl2 := sl1.call hb2; have B2 := stepB B1 hb2) | (go_at_call 47; refine (c_ticksS _ _ _ _).mono ?_; rintro e w3 ⟨rfl, hb3⟩; rw [HTT.out]; have own3 := own2.call hb3; have sl3 := sl2.call hb3; have B3 := stepB B2 hb3))
    clear p1
    go_wp2
    go_ret
    exact ⟨ret_int (by rw [HZ.out]), B3⟩
end Go.Proofs.Ythmjmlblnikmaaa
