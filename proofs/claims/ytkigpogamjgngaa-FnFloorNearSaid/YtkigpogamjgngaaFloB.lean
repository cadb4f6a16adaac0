/- Contracts of FloorNear and FloorWay: each returns what its plain function gives, and only draws. No conditions but those that stand at each. -/
import Derived.Test.YtkigpogamjgngaaFlo
namespace Go.Proofs.Ytkigpogamjgngaa
open Go.RowKit Pl

set_option maxHeartbeats 1000000 in
theorem c_fnI (A : Option Addr) (n c : Nat) (L : List Int) (a : Int) (w : World) (hS : Sl w A n L) (hn : n ≤ 2097152) :
    Calls Try.prog 32 #[.slice A n c, .int .i64 a] w (Quiet w (.int .i64 (floorNear L a))) := by
  rcases hf : floorsV L
  · have hz := near_no1 (a := a) hf
    have HZ := Lib.hid hz; clear hz
    have HF := Lib.hid hf; clear hf
    go_enter Try.func32, Try.ntmps32
    go_wp2_with (go_at_call 12; refine (c_fvI _ _ _ _ _ hS hn).mono ?_; rintro e w1 ⟨rfl, hd⟩; rw [HF.out])
    go_ret
    exact ⟨ret_int (by rw [HZ.out]), hd⟩
  · rcases hi : inB a 0 60
    · have hz := near_no2 (L := L) hi
      have HZ := Lib.hid hz; clear hz
      have HF := Lib.hid hf; clear hf
      have HI := Lib.hid hi; clear hi
      go_enter Try.func32, Try.ntmps32
      go_wp2_with (first | (go_at_call 12; refine (c_fvI _ _ _ _ _ hS hn).mono ?_; rintro e w1 ⟨rfl, hd⟩; rw [HF.out]) | (go_at_call 47; refine (c_stepValid_at _ false HI.out _).mono ?_; rintro e w' ⟨rfl, rfl⟩))
      go_ret
      exact ⟨ret_int (by rw [HZ.out]), hd⟩
    · have hz : floorNear L a = (nearI L a L.length : Int) := by unfold floorNear; rw [hf, hi]; rfl
      have HZ := Lib.hid hz; clear hz
      obtain ⟨q1, q2⟩ := fv_pos hf hS.1
      obtain ⟨b, o, rfl, hbl, hc⟩ := hS.2 q1
      obtain ⟨a1, a2⟩ := inB_iff.1 hi
      have HF := Lib.hid hf; clear hf
      have HI := Lib.hid hi; clear hi
      have HC := Lib.hid hc; clear hc
      go_enter Try.func32, Try.ntmps32
      go_wp2_with (first | (go_at_call 12; refine (c_fvI _ _ _ _ _ hS hn).mono ?_; rintro e w1 ⟨rfl, hd⟩; rw [HF.out]) | (go_at_call 47; refine (c_stepValid_at _ true HI.out _).mono ?_; rintro e w' ⟨rfl, rfl⟩))
      go_loopw [5, 18] (fun t s wr => ∃ k q : Nat, k ≤ n ∧ s = .int .i64 (k : Int) ∧ nearI L a k = q ∧ t = .int .i64 (q : Int) ∧ DN w wr) (fun _ s _ => n - (intOf s).toNat)
      case atStart => exact ⟨0, 0, by omega, rfl, rfl, rfl, hd⟩
      case round =>
        obtain ⟨k, q, hk, rfl, hq, rfl, hd'⟩ := hrel
        have hq' := nearI_le L a k
        rw [hq] at hq'
        have HQ := Lib.hid hq; clear hq
        by_cases hlt : k < n
        · have ck : wr.cell? ⟨b, o + k, none⟩ = some (.int .i64 (nth L k)) := (hd'.cell _).trans (HC.out _ hlt)
          have cq : wr.cell? ⟨b, o + q, none⟩ = some (.int .i64 (nth L q)) := (hd'.cell _).trans (HC.out _ (by omega))
          have i1 : (k : Int) < (n : Int) := by omega
          have i2 : (q : Int) < (n : Int) := by omega
          obtain ⟨x1, x2⟩ := fv_bd (floorsV_iff.1 HF.out) (i := k) (by rw [hS.1]; exact hlt)
          obtain ⟨y1, y2⟩ := fv_bd (floorsV_iff.1 HF.out) (i := q) (by rw [hS.1]; omega)
          have hnx : nearI L a (k + 1) = if dist (nth L k) a < dist (nth L q) a then k else q := by rw [← HQ.out]; rfl
          have HN := Lib.hid hnx; clear hnx
          by_cases he : dist (nth L k) a < dist (nth L q) a
          · go_wp2
            go_quiet ((go_at_call 45; exact quiet_left (c_stepsBetween _ _ _ (by omega) (by omega) (by omega) (by omega))))
            go_wp2
            go_roundw
            case rel => exact ⟨k + 1, k, by omega, by go_num, by rw [HN.out, if_pos he], rfl, hd'.more _⟩
            case measure => simp [intOf]; omega
          · go_wp2
            go_quiet ((go_at_call 45; exact quiet_left (c_stepsBetween _ _ _ (by omega) (by omega) (by omega) (by omega))))
            go_wp2
            go_roundw
            case rel => exact ⟨k + 1, q, by omega, by go_num, by rw [HN.out, if_neg (by omega)], rfl, hd'.more _⟩
            case measure => simp [intOf]; omega
        · obtain rfl : n = k := by omega
          go_wp2
          go_ret
          exact ⟨ret_int (by rw [HZ.out, hS.1, HQ.out]), hd'⟩
set_option maxHeartbeats 1000000 in
theorem c_fnS (A : Option Addr) (n c : Nat) (L : List Int) (a : Int) (w : World) (hS : Sl w A n L) (hn : n ≤ 2097152) :
    Calls Try.prog 33 #[.slice A n c, .int .i64 a] w (Quiet w (.int .i64 (floorNear L a))) := by
  rcases hf : floorsV L
  · have hz := near_no1 (a := a) hf
    have HZ := Lib.hid hz; clear hz
    have HF := Lib.hid hf; clear hf
    go_enter Try.func33, Try.ntmps33
    go_wp2_with (go_at_call 13; refine (c_fvS _ _ _ _ _ hS hn).mono ?_; rintro e w1 ⟨rfl, hd⟩; rw [HF.out])
    go_ret
    exact ⟨ret_int (by rw [HZ.out]), hd⟩
  · rcases hi : inB a 0 60
    · have hz := near_no2 (L := L) hi
      have HZ := Lib.hid hz; clear hz
      have HF := Lib.hid hf; clear hf
      have HI := Lib.hid hi; clear hi
      go_enter Try.func33, Try.ntmps33
      go_wp2_with (first | (go_at_call 13; refine (c_fvS _ _ _ _ _ hS hn).mono ?_; rintro e w1 ⟨rfl, hd⟩; rw [HF.out]) | (go_at_call 40; refine (c_l1In_at _ _ _ false HI.out _).mono ?_; rintro e w' ⟨rfl, rfl⟩))
      go_ret
      exact ⟨ret_int (by rw [HZ.out]), hd⟩
    · have hz : floorNear L a = (nearI L a L.length : Int) := by unfold floorNear; rw [hf, hi]; rfl
      have HZ := Lib.hid hz; clear hz
      obtain ⟨q1, q2⟩ := fv_pos hf hS.1
      obtain ⟨b, o, rfl, hbl, hc⟩ := hS.2 q1
      obtain ⟨a1, a2⟩ := inB_iff.1 hi
      have HF := Lib.hid hf; clear hf
      have HI := Lib.hid hi; clear hi
      have HC := Lib.hid hc; clear hc
      go_enter Try.func33, Try.ntmps33
      go_wp2_with (first | (go_at_call 13; refine (c_fvS _ _ _ _ _ hS hn).mono ?_; rintro e w1 ⟨rfl, hd⟩; rw [HF.out]) | (go_at_call 40; refine (c_l1In_at _ _ _ true HI.out _).mono ?_; rintro e w' ⟨rfl, rfl⟩))
      go_loopw [5, 6] (fun t s wr => ∃ k q : Nat, k ≤ n ∧ s = .int .i64 (k : Int) ∧ nearI L a k = q ∧ t = .int .i64 (q : Int) ∧ DN w wr) (fun _ s _ => n - (intOf s).toNat)
      case atStart => exact ⟨0, 0, by omega, rfl, rfl, rfl, hd⟩
      case round =>
        obtain ⟨k, q, hk, rfl, hq, rfl, hd'⟩ := hrel
        have hq' := nearI_le L a k
        rw [hq] at hq'
        have HQ := Lib.hid hq; clear hq
        by_cases hlt : k < n
        · have ck : wr.cell? ⟨b, o + k, none⟩ = some (.int .i64 (nth L k)) := (hd'.cell _).trans (HC.out _ hlt)
          have cq : wr.cell? ⟨b, o + q, none⟩ = some (.int .i64 (nth L q)) := (hd'.cell _).trans (HC.out _ (by omega))
          have i1 : (k : Int) < (n : Int) := by omega
          have i2 : (q : Int) < (n : Int) := by omega
          obtain ⟨x1, x2⟩ := fv_bd (floorsV_iff.1 HF.out) (i := k) (by rw [hS.1]; exact hlt)
          obtain ⟨y1, y2⟩ := fv_bd (floorsV_iff.1 HF.out) (i := q) (by rw [hS.1]; omega)
          have hnx : nearI L a (k + 1) = if dist (nth L k) a < dist (nth L q) a then k else q := by rw [← HQ.out]; rfl
          have HN := Lib.hid hnx; clear hnx
          by_cases he : dist (nth L k) a < dist (nth L q) a
          · go_wp2
            go_quiet ((go_at_call 46; exact quiet_left (c_l1Far _ _ _ (by omega) (by omega) (by omega) (by omega))))
            go_wp2
            go_roundw
            case rel => exact ⟨k + 1, k, by omega, by go_num, by rw [HN.out, if_pos he], rfl, hd'.more _⟩
            case measure => simp [intOf]; omega
          · go_wp2
            go_quiet ((go_at_call 46; exact quiet_left (c_l1Far _ _ _ (by omega) (by omega) (by omega) (by omega))))
            go_wp2
            go_roundw
            case rel => exact ⟨k + 1, q, by omega, by go_num, by rw [HN.out, if_neg (by omega)], rfl, hd'.more _⟩
            case measure => simp [intOf]; omega
        · obtain rfl : n = k := by omega
          go_wp2
          go_ret
          exact ⟨ret_int (by rw [HZ.out, hS.1, HQ.out]), hd'⟩
theorem c_isFloor (a : Int) (n : Nat) (b : Bool) (h : inB a 0 ((n : Int) - 1) = b) (w : World) :
    Calls Try.prog 44 #[.int .i64 a, .int .i64 (n : Int)] w fun e w' => e = .returned (.bool b) ∧ w = w' := by
  have hz : b = (decide (0 ≤ a) && decide (a < (n : Int))) := by
    rw [← h, Bool.eq_iff_iff, inB_iff]; simp; omega
  have HZ := Lib.hid hz; clear hz h
  by_cases h0 : 0 ≤ a
  · go_enter Try.func44, Try.ntmps44
    go_wp2
    go_ret
    exact ⟨ret_bool (by rw [HZ.out]; simp [h0]), rfl⟩
  · have d0 : decide (0 ≤ a) = false := by simpa using h0
    have D0 := Lib.hid d0
    go_enter Try.func44, Try.ntmps44
    go_wp2
    go_ret
    exact ⟨ret_bool (by rw [HZ.out, D0.out]; rfl), rfl⟩
set_option maxHeartbeats 1000000 in
theorem c_fwI (A : Option Addr) (n c : Nat) (L : List Int) (x y : Int) (w : World) (hS : Sl w A n L) (hn : n ≤ 2097152) :
    Calls Try.prog 26 #[.slice A n c, .int .i64 x, .int .i64 y] w (Quiet w (.int .i64 (floorWay L x y))) := by
  have hl := hS.1
  have HL := Lib.hid hl; clear hl
  rcases hf : floorsV L
  · have hz : floorWay L x y = -1 := by unfold floorWay; rw [hf]; rfl
    have HZ := Lib.hid hz; clear hz
    have HF := Lib.hid hf; clear hf
    go_enter Try.func26, Try.ntmps26
    go_wp2_with (go_at_call 12; refine (c_fvI _ _ _ _ _ hS hn).mono ?_; rintro e w1 ⟨rfl, hd⟩; rw [HF.out])
    go_ret
    exact ⟨ret_int (by rw [HZ.out]), hd⟩
  · rcases hx : isFl L x
    · have hz : floorWay L x y = -1 := by unfold floorWay; rw [hx]; simp
      have HZ := Lib.hid hz; clear hz
      have HF := Lib.hid hf; clear hf
      have hx' : inB x 0 ((n : Int) - 1) = false := by rw [← HL.out]; exact hx
      have HX := Lib.hid hx'; clear hx hx'
      go_enter Try.func26, Try.ntmps26
      go_wp2_with (first | (go_at_call 12; refine (c_fvI _ _ _ _ _ hS hn).mono ?_; rintro e w1 ⟨rfl, hd⟩; rw [HF.out]) | (go_at_call 44; refine (c_isFloor _ _ false HX.out _).mono ?_; rintro e w' ⟨rfl, rfl⟩))
      go_ret
      exact ⟨ret_int (by rw [HZ.out]), hd⟩
    · rcases hy : isFl L y
      · have hz : floorWay L x y = -1 := by unfold floorWay; rw [hy]; simp
        have HZ := Lib.hid hz; clear hz
        have HF := Lib.hid hf; clear hf
        have hx' : inB x 0 ((n : Int) - 1) = true := by rw [← HL.out]; exact hx
        have HX := Lib.hid hx'; clear hx hx'
        have hy' : inB y 0 ((n : Int) - 1) = false := by rw [← HL.out]; exact hy
        have HY := Lib.hid hy'; clear hy hy'
        go_enter Try.func26, Try.ntmps26
        go_wp2_with fail
        refine (c_fvI _ _ _ _ _ hS hn).mono ?_
        rintro e w1 ⟨rfl, hd⟩
        rw [HF.out]
        go_wp2_with fail
        refine (c_isFloor _ _ true HX.out _).mono ?_
        rintro e w' ⟨rfl, rfl⟩
        go_wp2_with fail
        refine (c_isFloor _ _ false HY.out _).mono ?_
        rintro e w' ⟨rfl, rfl⟩
        go_wp2
        go_ret
        exact ⟨ret_int (by rw [HZ.out]), hd⟩
      · have hz : floorWay L x y = Pl.dist (nth L x.toNat) (nth L y.toNat) := by unfold floorWay; rw [hf, hx, hy]; rfl
        have hx' : inB x 0 ((n : Int) - 1) = true := by rw [← HL.out]; exact hx
        have HX := Lib.hid hx'; clear hx'
        have hy' : inB y 0 ((n : Int) - 1) = true := by rw [← HL.out]; exact hy
        have HY := Lib.hid hy'; clear hy'
        obtain ⟨i, hi, rfl⟩ := isFl_nat hx
        obtain ⟨j, hj, rfl⟩ := isFl_nat hy
        rw [Int.toNat_natCast, Int.toNat_natCast] at hz
        have HZ := Lib.hid hz; clear hz hx hy
        obtain ⟨x1, x2⟩ := fv_bd (floorsV_iff.1 hf) hi
        obtain ⟨y1, y2⟩ := fv_bd (floorsV_iff.1 hf) hj
        rw [HL.out] at hi hj
        obtain ⟨b, o, rfl, hbl, hc⟩ := hS.2 (by omega)
        have ci := hc i hi
        have cj := hc j hj
        have HF := Lib.hid hf; clear hf hc
        have i1 : (i : Int) < (n : Int) := by omega
        have i2 : (j : Int) < (n : Int) := by omega
        go_enter Try.func26, Try.ntmps26
        go_wp2_with fail
        refine (c_fvI _ _ _ _ _ hS hn).mono ?_
        rintro e w1 ⟨rfl, hd⟩
        rw [HF.out]
        rw [← hd.cell] at ci cj
        go_wp2_with fail
        refine (c_isFloor _ _ true HX.out _).mono ?_
        rintro e w' ⟨rfl, rfl⟩
        go_wp2_with fail
        refine (c_isFloor _ _ true HY.out _).mono ?_
        rintro e w' ⟨rfl, rfl⟩
        go_wp2
        go_quiet ((go_at_call 45; exact quiet_left (c_stepsBetween _ _ _ (by omega) (by omega) (by omega) (by omega))))
        go_wp2
        go_ret
        exact ⟨ret_int (by rw [HZ.out]), hd.more _⟩
set_option maxHeartbeats 1000000 in
theorem c_fwS (A : Option Addr) (n c : Nat) (L : List Int) (x y : Int) (w : World) (hS : Sl w A n L) (hn : n ≤ 2097152) :
    Calls Try.prog 27 #[.slice A n c, .int .i64 x, .int .i64 y] w (Quiet w (.int .i64 (floorWay L x y))) := by
  have hl := hS.1
  have HL := Lib.hid hl; clear hl
  rcases hf : floorsV L
  · have hz : floorWay L x y = -1 := by unfold floorWay; rw [hf]; rfl
    have HZ := Lib.hid hz; clear hz
    have HF := Lib.hid hf; clear hf
    go_enter Try.func27, Try.ntmps27
    go_wp2_with (go_at_call 13; refine (c_fvS _ _ _ _ _ hS hn).mono ?_; rintro e w1 ⟨rfl, hd⟩; rw [HF.out])
    go_ret
    exact ⟨ret_int (by rw [HZ.out]), hd⟩
  · rcases hx : isFl L x
    · have hz : floorWay L x y = -1 := by unfold floorWay; rw [hx]; simp
      have HZ := Lib.hid hz; clear hz
      have HF := Lib.hid hf; clear hf
      have hx' : inB x 0 ((n : Int) - 1) = false := by rw [← HL.out]; exact hx
      have HX := Lib.hid hx'; clear hx hx'
      go_enter Try.func27, Try.ntmps27
      go_wp2_with (first | (go_at_call 13; refine (c_fvS _ _ _ _ _ hS hn).mono ?_; rintro e w1 ⟨rfl, hd⟩; rw [HF.out]) | (go_at_call 40; refine (c_l1In_at _ _ _ false HX.out _).mono ?_; rintro e w' ⟨rfl, rfl⟩))
      go_ret
      exact ⟨ret_int (by rw [HZ.out]), hd⟩
    · rcases hy : isFl L y
      · have hz : floorWay L x y = -1 := by unfold floorWay; rw [hy]; simp
        have HZ := Lib.hid hz; clear hz
        have HF := Lib.hid hf; clear hf
        have hx' : inB x 0 ((n : Int) - 1) = true := by rw [← HL.out]; exact hx
        have HX := Lib.hid hx'; clear hx hx'
        have hy' : inB y 0 ((n : Int) - 1) = false := by rw [← HL.out]; exact hy
        have HY := Lib.hid hy'; clear hy hy'
        go_enter Try.func27, Try.ntmps27
        go_wp2_with fail
        refine (c_fvS _ _ _ _ _ hS hn).mono ?_
        rintro e w1 ⟨rfl, hd⟩
        rw [HF.out]
        go_wp2_with fail
        refine (c_l1In_at _ _ _ true HX.out _).mono ?_
        rintro e w' ⟨rfl, rfl⟩
        go_wp2_with fail
        refine (c_l1In_at _ _ _ false HY.out _).mono ?_
        rintro e w' ⟨rfl, rfl⟩
        go_wp2
        go_ret
        exact ⟨ret_int (by rw [HZ.out]), hd⟩
      · have hz : floorWay L x y = Pl.dist (nth L x.toNat) (nth L y.toNat) := by unfold floorWay; rw [hf, hx, hy]; rfl
        have hx' : inB x 0 ((n : Int) - 1) = true := by rw [← HL.out]; exact hx
        have HX := Lib.hid hx'; clear hx'
        have hy' : inB y 0 ((n : Int) - 1) = true := by rw [← HL.out]; exact hy
        have HY := Lib.hid hy'; clear hy'
        obtain ⟨i, hi, rfl⟩ := isFl_nat hx
        obtain ⟨j, hj, rfl⟩ := isFl_nat hy
        rw [Int.toNat_natCast, Int.toNat_natCast] at hz
        have HZ := Lib.hid hz; clear hz hx hy
        obtain ⟨x1, x2⟩ := fv_bd (floorsV_iff.1 hf) hi
        obtain ⟨y1, y2⟩ := fv_bd (floorsV_iff.1 hf) hj
        rw [HL.out] at hi hj
        obtain ⟨b, o, rfl, hbl, hc⟩ := hS.2 (by omega)
        have ci := hc i hi
        have cj := hc j hj
        have HF := Lib.hid hf; clear hf hc
        have i1 : (i : Int) < (n : Int) := by omega
        have i2 : (j : Int) < (n : Int) := by omega
        go_enter Try.func27, Try.ntmps27
        go_wp2_with fail
        refine (c_fvS _ _ _ _ _ hS hn).mono ?_
        rintro e w1 ⟨rfl, hd⟩
        rw [HF.out]
        rw [← hd.cell] at ci cj
        go_wp2_with fail
        refine (c_l1In_at _ _ _ true HX.out _).mono ?_
        rintro e w' ⟨rfl, rfl⟩
        go_wp2_with fail
        refine (c_l1In_at _ _ _ true HY.out _).mono ?_
        rintro e w' ⟨rfl, rfl⟩
        go_wp2
        go_quiet ((go_at_call 46; exact quiet_left (c_l1Far _ _ _ (by omega) (by omega) (by omega) (by omega))))
        go_wp2
        go_ret
        exact ⟨ret_int (by rw [HZ.out]), hd.more _⟩
end Go.Proofs.Ytkigpogamjgngaa
