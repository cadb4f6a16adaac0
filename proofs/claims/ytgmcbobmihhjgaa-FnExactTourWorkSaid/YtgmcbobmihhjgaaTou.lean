/- Contracts of TripWork and TourWork: each returns what its plain function gives, and only draws. No conditions but those that stand at each. -/
import Derived.Test.YtgmcbobmihhjgaaFloB
namespace Go.Proofs.Ytgmcbobmihhjgaa
open Go.RowKit Pl

theorem ret_pair {a a' : Int} {b b' : Bool} (h : a = a') (h' : b = b') : Ending.returned (.tuple #[.int .i64 a, .bool b]) = .returned (.tuple #[.int .i64 a', .bool b']) := by rw [h, h']
theorem trip_no {L : List Int} {f t l : Int} (h : tripOk L f t l = false) : trip L f t l = 0 := by unfold trip; rw [h]; rfl
theorem trip_yes {L : List Int} {i j : Nat} {l : Int} (h : tripOk L (i : Int) (j : Int) l = true) : trip L (i : Int) (j : Int) l = (l - 20) * (nth L j - nth L i) := by unfold trip; rw [h]; simp
theorem tripOk_cases (L : List Int) (f t l : Int) : (floorsV L = false ∧ tripOk L f t l = false) ∨ (floorsV L = true ∧ isFl L f = false ∧ tripOk L f t l = false) ∨ (floorsV L = true ∧ isFl L f = true ∧ isFl L t = false ∧ tripOk L f t l = false) ∨
    (floorsV L = true ∧ isFl L f = true ∧ isFl L t = true ∧ l < 0 ∧ tripOk L f t l = false) ∨ (floorsV L = true ∧ isFl L f = true ∧ isFl L t = true ∧ 0 ≤ l ∧ 40 < l ∧ tripOk L f t l = false) ∨
    (floorsV L = true ∧ isFl L f = true ∧ isFl L t = true ∧ 0 ≤ l ∧ l ≤ 40 ∧ tripOk L f t l = true) := by
  unfold tripOk
  rcases floorsV L
  · simp
  · rcases isFl L f
    · simp
    · rcases isFl L t
      · simp
      · by_cases h1 : l < 0
        · rw [inB_lo h1]; simp [h1]
        · by_cases h2 : 40 < l
          · rw [inB_hi h2]; simp; omega
          · rw [inB_mk (by omega) (by omega)]; simp; omega
theorem way_neg {L : List Int} {x y : Int} (h : (floorsV L && (isFl L x && isFl L y)) = false) : floorWay L x y = -1 := by unfold floorWay; rw [h]; rfl
theorem way_pos {L : List Int} {x y : Int} (h : (floorsV L && (isFl L x && isFl L y)) = true) : 0 ≤ floorWay L x y := by unfold floorWay; rw [h]; exact dist_nn _ _
theorem way_self {L : List Int} {x : Int} (h : floorsV L = true) (h' : isFl L x = true) : floorWay L x x = 0 := by unfold floorWay; rw [h, h']; simp [Pl.dist]
theorem prod_bd {u v : Int} (a1 : -20 ≤ u) (a2 : u ≤ 20) (b1 : -60 ≤ v) (b2 : v ≤ 60) : -1200 ≤ u * v ∧ u * v ≤ 1200 := by
  have p1 : 0 ≤ (20 - u) * (v + 60) := Int.mul_nonneg (by omega) (by omega)
  have p2 : 0 ≤ (u + 20) * (60 - v) := Int.mul_nonneg (by omega) (by omega)
  have p3 : 0 ≤ (20 - u) * (60 - v) := Int.mul_nonneg (by omega) (by omega)
  have p4 : 0 ≤ (u + 20) * (v + 60) := Int.mul_nonneg (by omega) (by omega)
  rw [Int.sub_mul, Int.mul_add, Int.mul_add] at p1
  rw [Int.add_mul, Int.mul_sub, Int.mul_sub] at p2
  rw [Int.sub_mul, Int.mul_sub, Int.mul_sub] at p3
  rw [Int.add_mul, Int.mul_add, Int.mul_add] at p4
  omega
set_option maxHeartbeats 2000000 in
theorem c_twI (A : Option Addr) (n c : Nat) (L : List Int) (f t l : Int) (w : World) (hS : Sl w A n L) (hn : n ≤ 2097152) :
    Calls Try.prog 32 #[.slice A n c, .int .i64 f, .int .i64 t, .int .i64 l] w (Quiet w (.tuple #[.int .i64 (trip L f t l), .bool (tripOk L f t l)])) := by
  have hl := hS.1
  have HL := Lib.hid hl; clear hl
  rcases tripOk_cases L f t l with ⟨hf, hz⟩ | ⟨hf, hx, hz⟩ | ⟨hf, hx, hy, hz⟩ | ⟨hf, hx, hy, h1, hz⟩ | ⟨hf, hx, hy, h1, h2, hz⟩ | ⟨hf, hx, hy, h1, h2, hz⟩
  · have HZ := Lib.hid hz; clear hz
    have HF := Lib.hid hf; clear hf
    go_enter Try.func32, Try.ntmps32
    go_wp2_with (go_at_call 17; refine (c_fvI _ _ _ _ _ hS hn).mono ?_; rintro e w1 ⟨rfl, hd⟩; rw [HF.out])
    go_ret2
    exact ⟨ret_pair (by rw [trip_no HZ.out]) (by rw [HZ.out]), hd⟩
  · have HZ := Lib.hid hz; clear hz
    have HF := Lib.hid hf; clear hf
    have hx' : inB f 0 ((n : Int) - 1) = false := by rw [← HL.out]; exact hx
    have HX := Lib.hid hx'; clear hx hx'
    go_enter Try.func32, Try.ntmps32
    go_wp2_with (first | (go_at_call 17; refine (c_fvI _ _ _ _ _ hS hn).mono ?_; rintro e w1 ⟨rfl, hd⟩; rw [HF.out]) | (go_at_call 50; refine (c_isFloor _ _ false HX.out _).mono ?_; rintro e w' ⟨rfl, rfl⟩))
    go_ret2
    exact ⟨ret_pair (by rw [trip_no HZ.out]) (by rw [HZ.out]), hd⟩
  all_goals
    have HZ := Lib.hid hz; clear hz
    obtain ⟨i, hi, rfl⟩ := isFl_nat hx
    have hx' : inB (i : Int) 0 ((n : Int) - 1) = true := by rw [← HL.out]; exact hx
    have HX := Lib.hid hx'; clear hx hx'
  · have HF := Lib.hid hf; clear hf
    have hy' : inB t 0 ((n : Int) - 1) = false := by rw [← HL.out]; exact hy
    have HY := Lib.hid hy'; clear hy hy'
    go_enter Try.func32, Try.ntmps32
    go_wp2_with fail
    refine (c_fvI _ _ _ _ _ hS hn).mono ?_
    rintro e w1 ⟨rfl, hd⟩
    rw [HF.out]
    go_wp2_with fail
    refine (c_isFloor _ _ true HX.out _).mono ?_
    rintro e w' ⟨rfl, rfl⟩
    go_wp2_with fail
    refine (c_isFloor _ _ false HY.out _).mono ?_
    rintro e w' ⟨rfl, rfl⟩
    go_wp2
    go_ret2
    exact ⟨ret_pair (by rw [trip_no HZ.out]) (by rw [HZ.out]), hd⟩
  all_goals
    obtain ⟨j, hj, rfl⟩ := isFl_nat hy
    have hy' : inB (j : Int) 0 ((n : Int) - 1) = true := by rw [← HL.out]; exact hy
    have HY := Lib.hid hy'; clear hy hy'
    obtain ⟨x1, x2⟩ := fv_bd (floorsV_iff.1 hf) hi
    obtain ⟨y1, y2⟩ := fv_bd (floorsV_iff.1 hf) hj
    have HF := Lib.hid hf; clear hf
    rw [HL.out] at hi hj
    obtain ⟨b, o, rfl, hbl, hc⟩ := hS.2 (by omega)
    have ci := hc i hi
    have cj := hc j hj
    clear hc
    have i1 : (i : Int) < (n : Int) := by omega
    have i2 : (j : Int) < (n : Int) := by omega
    go_enter Try.func32, Try.ntmps32
    go_wp2_with fail
    refine (c_fvI _ _ _ _ _ hS hn).mono ?_
    rintro e w1 ⟨rfl, hd⟩
    rw [HF.out]
    rw [← hd.cell] at ci cj
    go_wp2_with fail
    refine (c_isFloor _ _ true HX.out _).mono ?_
    rintro e w' ⟨rfl, rfl⟩
    go_wp2_with fail
    refine (c_isFloor _ _ true HY.out _).mono ?_
    rintro e w' ⟨rfl, rfl⟩
  · go_wp2
    go_ret2
    exact ⟨ret_pair (by rw [trip_no HZ.out]) (by rw [HZ.out]), hd⟩
  · have d1 : decide (l < 0) = false := by simp; omega
    go_wp2
    go_ret2
    exact ⟨ret_pair (by rw [trip_no HZ.out]) (by rw [HZ.out]), hd⟩
  · have d1 : decide (l < 0) = false := by simp; omega
    have d2 : decide (40 < l) = false := by simp; omega
    obtain ⟨m1, m2⟩ := prod_bd (u := l - 20) (v := nth L j - nth L i) (by omega) (by omega) (by omega) (by omega)
    go_wp2
    have p1 : IntKind.i64.wrap (l - 20) = l - 20 := IntWalk.i64_in _ (by omega)
    have p2 : IntKind.i64.wrap (nth L j - nth L i) = nth L j - nth L i := IntWalk.i64_in _ (by omega)
    have p3 : IntKind.i64.wrap ((l - 20) * (nth L j - nth L i)) = (l - 20) * (nth L j - nth L i) := IntWalk.i64_in _ (by omega)
    go_quiet (fail)
    clear p1 p2 p3
    go_wp2
    go_ret2
    exact ⟨ret_pair (by rw [trip_yes HZ.out]) (by rw [HZ.out]), hd.more _⟩
set_option maxHeartbeats 2000000 in
theorem c_twS (A : Option Addr) (n c : Nat) (L : List Int) (f t l : Int) (w : World) (hS : Sl w A n L) (hn : n ≤ 2097152) :
    Calls Try.prog 31 #[.slice A n c, .int .i64 f, .int .i64 t, .int .i64 l] w (Quiet w (.tuple #[.int .i64 (trip L f t l), .bool (tripOk L f t l)])) := by
  have hl := hS.1
  have HL := Lib.hid hl; clear hl
  rcases hok : (floorsV L && (isFl L f && isFl L t))
  · have hw := way_neg hok
    have hz : tripOk L f t l = false := by
      have e : tripOk L f t l = ((floorsV L && (isFl L f && isFl L t)) && inB l 0 40) := by unfold tripOk; cases floorsV L <;> cases isFl L f <;> cases isFl L t <;> simp
      rw [e, hok]; rfl
    have HZ := Lib.hid hz; clear hz hok
    have HW := Lib.hid hw; clear hw
    go_enter Try.func31, Try.ntmps31
    go_wp2_with (go_at_call 29; refine (c_fwS _ _ _ _ _ _ _ hS hn).mono ?_; rintro e w1 ⟨rfl, hd⟩; rw [HW.out])
    go_ret2
    exact ⟨ret_pair (by rw [trip_no HZ.out]) (by rw [HZ.out]), hd⟩
  · have hw := way_pos hok
    have hz : tripOk L f t l = inB l 0 40 := by
      have e : tripOk L f t l = ((floorsV L && (isFl L f && isFl L t)) && inB l 0 40) := by unfold tripOk; cases floorsV L <;> cases isFl L f <;> cases isFl L t <;> simp
      rw [e, hok]; rfl
    simp only [Bool.and_eq_true] at hok
    obtain ⟨hf, hx, hy⟩ := hok
    obtain ⟨q, hq⟩ : ∃ q, floorWay L f t = q := ⟨_, rfl⟩
    rw [hq] at hw
    have d0 : decide (q < 0) = false := by simp; omega
    have HQ := Lib.hid hq; clear hq
    rcases hi : inB l 0 40
    · rw [hi] at hz
      have HZ := Lib.hid hz; clear hz
      have HI := Lib.hid hi; clear hi
      go_enter Try.func31, Try.ntmps31
      go_wp2_with (first | (go_at_call 29; refine (c_fwS _ _ _ _ _ _ _ hS hn).mono ?_; rintro e w1 ⟨rfl, hd⟩; rw [HQ.out]) | (go_at_call 43; refine (c_l1In_at _ _ _ false HI.out _).mono ?_; rintro e w' ⟨rfl, rfl⟩))
      go_ret2
      exact ⟨ret_pair (by rw [trip_no HZ.out]) (by rw [HZ.out]), hd⟩
    · rw [hi] at hz
      have HZ := Lib.hid hz; clear hz
      obtain ⟨l1, l2⟩ := inB_iff.1 hi
      have HI := Lib.hid hi; clear hi
      obtain ⟨i, hi, rfl⟩ := isFl_nat hx
      obtain ⟨j, hj, rfl⟩ := isFl_nat hy
      obtain ⟨x1, x2⟩ := fv_bd (floorsV_iff.1 hf) hi
      obtain ⟨y1, y2⟩ := fv_bd (floorsV_iff.1 hf) hj
      rw [HL.out] at hi hj
      obtain ⟨b, o, rfl, hbl, hc⟩ := hS.2 (by omega)
      have ci := hc i hi
      have cj := hc j hj
      clear hc hx hy hf
      have i1 : (i : Int) < (n : Int) := by omega
      have i2 : (j : Int) < (n : Int) := by omega
      obtain ⟨m1, m2⟩ := prod_bd (u := l - 20) (v := nth L j - nth L i) (by omega) (by omega) (by omega) (by omega)
      go_enter Try.func31, Try.ntmps31
      go_wp2_with (first | (go_at_call 29; refine (c_fwS _ _ _ _ _ _ _ hS hn).mono ?_; rintro e w1 ⟨rfl, hd⟩; rw [HQ.out]; rw [← hd.cell] at ci cj) | (go_at_call 43; refine (c_l1In_at _ _ _ true HI.out _).mono ?_; rintro e w' ⟨rfl, rfl⟩))
      have p1 : IntKind.i64.wrap (l - 20) = l - 20 := IntWalk.i64_in _ (by omega)
      have p2 : IntKind.i64.wrap (nth L j - nth L i) = nth L j - nth L i := IntWalk.i64_in _ (by omega)
      have p3 : IntKind.i64.wrap ((l - 20) * (nth L j - nth L i)) = (l - 20) * (nth L j - nth L i) := IntWalk.i64_in _ (by omega)
      go_quiet (fail)
      clear p1 p2 p3
      go_wp2
      go_ret2
      exact ⟨ret_pair (by rw [trip_yes HZ.out]) (by rw [HZ.out]), hd.more _⟩
theorem tourB_no1 {L S W : List Int} (h : floorsV L = false) : tourB L S W = false := by unfold tourB; rw [h]; rfl
theorem tourB_no2 {L S W : List Int} (h : S.length ≠ W.length + 1) : tourB L S W = false := by unfold tourB; rw [decide_eq_false h]; simp
theorem tourB_no3 {L S W : List Int} (h : isFl L (nth S 0) = false) : tourB L S W = false := by unfold tourB; rw [h]; simp
theorem tourB_no4 {L S W : List Int} {k : Nat} (hk : k < W.length) (h : tripOk L (nth S k) (nth S (k + 1)) (nth W k) = false) : tourB L S W = false := by unfold tourB; rw [tourOk_no h _ hk]; simp
theorem tourB_yes {L S W : List Int} (h1 : floorsV L = true) (h2 : S.length = W.length + 1) (h3 : isFl L (nth S 0) = true) (h4 : tourOk L S W W.length = true) : tourB L S W = true := by unfold tourB; rw [h1, decide_eq_true h2, h3, h4]; rfl
theorem tour_no {L S W : List Int} (h : tourB L S W = false) : tour L S W = 0 := by unfold tour; rw [h]; rfl
theorem tour_yes {L S W : List Int} (h : tourB L S W = true) : tour L S W = tourSum L S W W.length := by unfold tour; rw [h]; rfl
theorem c_twI_at (A : Option Addr) (n c : Nat) (L : List Int) (f t l x : Int) (ok : Bool) (w : World) (h1 : trip L f t l = x) (h2 : tripOk L f t l = ok) (hS : Sl w A n L) (hn : n ≤ 2097152) :
    Calls Try.prog 32 #[.slice A n c, .int .i64 f, .int .i64 t, .int .i64 l] w (Quiet w (.tuple #[.int .i64 x, .bool ok])) := by
  have := c_twI A n c L f t l w hS hn
  rw [h1, h2] at this; exact this
theorem c_twS_at (A : Option Addr) (n c : Nat) (L : List Int) (f t l x : Int) (ok : Bool) (w : World) (h1 : trip L f t l = x) (h2 : tripOk L f t l = ok) (hS : Sl w A n L) (hn : n ≤ 2097152) :
    Calls Try.prog 31 #[.slice A n c, .int .i64 f, .int .i64 t, .int .i64 l] w (Quiet w (.tuple #[.int .i64 x, .bool ok])) := by
  have := c_twS A n c L f t l w hS hn
  rw [h1, h2] at this; exact this
theorem c_fwS_at (A : Option Addr) (n c : Nat) (L : List Int) (x y v : Int) (w : World) (h1 : floorWay L x y = v) (hS : Sl w A n L) (hn : n ≤ 2097152) :
    Calls Try.prog 29 #[.slice A n c, .int .i64 x, .int .i64 y] w (Quiet w (.int .i64 v)) := by
  have := c_fwS A n c L x y w hS hn
  rw [h1] at this; exact this
set_option maxHeartbeats 2000000 in
theorem c_toI (A : Option Addr) (n c : Nat) (L : List Int) (AS : Option Addr) (ns cs : Nat) (S : List Int) (AW : Option Addr) (nw cw : Nat) (W : List Int) (w : World) (hS : Sl w A n L) (hn : n ≤ 2097152) (hT : Sl w AS ns S) (hns : ns ≤ 2097152) (hW : Sl w AW nw W) (hnw : nw ≤ 2097152) :
    Calls Try.prog 38 #[.slice A n c, .slice AS ns cs, .slice AW nw cw] w (Quiet w (.tuple #[.int .i64 (tour L S W), .bool (tourB L S W)])) := by
  have hl := hS.1
  have HL := Lib.hid hl; clear hl
  have hl := hT.1
  have HLS := Lib.hid hl; clear hl
  have hl := hW.1
  have HLW := Lib.hid hl; clear hl
  rcases hf : floorsV L
  · have hz := tourB_no1 (S := S) (W := W) hf
    have HZ := Lib.hid hz; clear hz
    have HF := Lib.hid hf; clear hf
    go_enter Try.func38, Try.ntmps38
    go_wp2_with (go_at_call 17; refine (c_fvI _ _ _ _ _ hS hn).mono ?_; rintro e w1 ⟨rfl, hd⟩; rw [HF.out])
    go_ret2
    exact ⟨ret_pair (by rw [tour_no HZ.out]) (by rw [HZ.out]), hd⟩
  · by_cases hlen : ns = nw + 1
    · subst hlen
      have e0 : ((((nw + 1 : Nat) : Int)) != (nw : Int) + 1) = false := by simp
      have e0' : ((nw : Int) + 1 != (nw : Int) + 1) = false := by simp
      obtain ⟨b, o, rfl, hbl, hc⟩ := hT.2 (by omega)
      have c0 := hc 0 (by omega)
      rw [Nat.add_zero] at c0
      rcases hx : isFl L (nth S 0)
      · have hz := tourB_no3 (W := W) hx
        have HZ := Lib.hid hz; clear hz
        have HF := Lib.hid hf; clear hf
        have hx' : inB (nth S 0) 0 ((n : Int) - 1) = false := by rw [← HL.out]; exact hx
        have HX := Lib.hid hx'; clear hx hx' hc
        go_enter Try.func38, Try.ntmps38
        go_wp2_with (first | (go_at_call 17; refine (c_fvI _ _ _ _ _ hS hn).mono ?_; rintro e w1 ⟨rfl, hd⟩; rw [HF.out]; rw [← hd.cell] at c0) | (go_at_call 50; refine (c_isFloor _ _ false HX.out _).mono ?_; rintro e w' ⟨rfl, rfl⟩))
        go_ret2
        exact ⟨ret_pair (by rw [tour_no HZ.out]) (by rw [HZ.out]), hd⟩
      · have hx' : inB (nth S 0) 0 ((n : Int) - 1) = true := by rw [← HL.out]; exact hx
        have HX := Lib.hid hx'; clear hx'
        have HX2 := Lib.hid hx; clear hx
        have HF := Lib.hid hf; clear hf
        have HC := Lib.hid hc; clear hc
        go_enter Try.func38, Try.ntmps38
        go_wp2_with (first | (go_at_call 17; refine (c_fvI _ _ _ _ _ hS hn).mono ?_; rintro e w1 ⟨rfl, hd⟩; rw [HF.out]; rw [← hd.cell] at c0) | (go_at_call 50; refine (c_isFloor _ _ true HX.out _).mono ?_; rintro e w' ⟨rfl, rfl⟩))
        clear c0 e0 e0'
        go_loopw [8, 35] (fun t s wr => ∃ (k : Nat) (x : Int), k ≤ nw ∧ s = .int .i64 (k : Int) ∧ tourSum L S W k = x ∧ t = .int .i64 x ∧ DN w wr ∧ tourOk L S W k = true) (fun _ s _ => nw - (intOf s).toNat)
        case atStart => exact ⟨0, 0, by omega, rfl, rfl, rfl, hd, rfl⟩
        case round =>
          obtain ⟨k, x, hk, rfl, hx, rfl, hd', hok⟩ := hrel
          have hb := tourSum_bd L S W k
          rw [hx] at hb
          obtain ⟨b1, b2⟩ := hb
          have HXS := Lib.hid hx; clear hx
          have HOK := Lib.hid hok; clear hok
          by_cases hlt : k < nw
          · obtain ⟨b', o', rfl, hbl', hc'⟩ := hW.2 (by omega)
            have ck : wr.cell? ⟨b', o' + k, none⟩ = some (.int .i64 (nth W k)) := (hd'.cell _).trans (hc' k hlt)
            have s0 : wr.cell? ⟨b, o + k, none⟩ = some (.int .i64 (nth S k)) := (hd'.cell _).trans (HC.out k (by omega))
            have s1 : wr.cell? ⟨b, o + (k + 1), none⟩ = some (.int .i64 (nth S (k + 1))) := (hd'.cell _).trans (HC.out (k + 1) (by omega))
            clear hc'
            have i1 : (k : Int) < (nw : Int) := by omega
            have i2 : (k : Int) < (((nw + 1 : Nat)) : Int) := by omega
            have i3 : (k : Int) + 1 < (((nw + 1 : Nat)) : Int) := by omega
            obtain ⟨y, hy⟩ : ∃ y, trip L (nth S k) (nth S (k + 1)) (nth W k) = y := ⟨_, rfl⟩
            have hyb := trip_bd L (nth S k) (nth S (k + 1)) (nth W k)
            rw [hy] at hyb
            obtain ⟨y1, y2⟩ := hyb
            have HY := Lib.hid hy; clear hy
            rcases hto : tripOk L (nth S k) (nth S (k + 1)) (nth W k)
            · have hz := tourB_no4 (L := L) (S := S) (W := W) (k := k) (by rw [HLW.out]; exact hlt) hto
              have HZ := Lib.hid hz; clear hz
              have HTO := Lib.hid hto; clear hto
              go_wp2
              have p1 : (0 : Int) ≤ (k : Int) + 1 := by omega
              have p2 : ((k : Int) + 1).toNat = k + 1 := by omega
              have p3 : IntKind.i64.wrap ((k : Int) + 1) = (k : Int) + 1 := IntWalk.i64_in _ (by omega)
              go_quiet ((go_at_call 32; exact quiet_of_quiet (c_twI_at _ _ _ _ _ _ _ _ false _ HY.out HTO.out ((hd'.sl hS).drewN _) hn)))
              clear p1 p2 p3
              go_wp2
              go_ret2
              exact ⟨ret_pair (by rw [tour_no HZ.out]) (by rw [HZ.out]), hd'.more _⟩
            · have HTO := Lib.hid hto; clear hto
              go_wp2
              have p1 : (0 : Int) ≤ (k : Int) + 1 := by omega
              have p2 : ((k : Int) + 1).toNat = k + 1 := by omega
              have p3 : IntKind.i64.wrap ((k : Int) + 1) = (k : Int) + 1 := IntWalk.i64_in _ (by omega)
              go_quiet ((go_at_call 32; exact quiet_of_quiet (c_twI_at _ _ _ _ _ _ _ _ true _ HY.out HTO.out ((hd'.sl hS).drewN _) hn)))
              clear p1 p2 p3
              go_wp2
              go_roundw
              case rel => exact ⟨k + 1, x + y, by omega, by go_num, by show tourSum L S W k + _ = _; rw [HXS.out, HY.out], rfl, hd'.more _, by show (tourOk L S W k && _) = true; rw [HOK.out, HTO.out]; rfl⟩
              case measure => simp [intOf]; omega
          · obtain rfl : nw = k := by omega
            have hz := tourB_yes (L := L) (S := S) (W := W) HF.out (by rw [HLS.out, HLW.out]) HX2.out (by rw [HLW.out]; exact HOK.out)
            have HZ := Lib.hid hz; clear hz
            go_wp2
            go_ret2
            exact ⟨ret_pair (by rw [tour_yes HZ.out, HLW.out, HXS.out]) (by rw [HZ.out]), hd'⟩
    · have hz := tourB_no2 (L := L) (S := S) (W := W) (by rw [HLS.out, HLW.out]; exact hlen)
      have HZ := Lib.hid hz; clear hz
      have HF := Lib.hid hf; clear hf
      have e0 : ((ns : Int) != (nw : Int) + 1) = true := by simp; omega
      go_enter Try.func38, Try.ntmps38
      go_wp2_with (go_at_call 17; refine (c_fvI _ _ _ _ _ hS hn).mono ?_; rintro e w1 ⟨rfl, hd⟩; rw [HF.out])
      go_ret2
      exact ⟨ret_pair (by rw [tour_no HZ.out]) (by rw [HZ.out]), hd⟩
set_option maxHeartbeats 2000000 in
theorem c_toS (A : Option Addr) (n c : Nat) (L : List Int) (AS : Option Addr) (ns cs : Nat) (S : List Int) (AW : Option Addr) (nw cw : Nat) (W : List Int) (w : World) (hS : Sl w A n L) (hn : n ≤ 2097152) (hT : Sl w AS ns S) (hns : ns ≤ 2097152) (hW : Sl w AW nw W) (hnw : nw ≤ 2097152) :
    Calls Try.prog 37 #[.slice A n c, .slice AS ns cs, .slice AW nw cw] w (Quiet w (.tuple #[.int .i64 (tour L S W), .bool (tourB L S W)])) := by
  have hl := hS.1
  have HL := Lib.hid hl; clear hl
  have hl := hT.1
  have HLS := Lib.hid hl; clear hl
  have hl := hW.1
  have HLW := Lib.hid hl; clear hl
  by_cases hlen : ns = nw + 1
  · subst hlen
    obtain ⟨b, o, rfl, hbl, hc⟩ := hT.2 (by omega)
    have c0 := hc 0 (by omega)
    rw [Nat.add_zero] at c0
    have j1 : (0 : Int) < (((nw + 1 : Nat)) : Int) := by omega
    rcases hok : (floorsV L && (isFl L (nth S 0) && isFl L (nth S 0)))
    · have hz : tourB L S W = false := by
        unfold tourB; cases hf : floorsV L <;> cases hx : isFl L (nth S 0) <;> simp [hf, hx] at hok ⊢
      have hw := way_neg hok
      have HZ := Lib.hid hz; clear hz hok
      have HW := Lib.hid hw; clear hw hc
      go_enter Try.func37, Try.ntmps37
      go_wp2
      have e0 : ((nw : Int) + 1 != (nw : Int) + 1) = false := by simp
      have p3 : IntKind.i64.wrap ((nw : Int) + 1) = (nw : Int) + 1 := IntWalk.i64_in _ (by omega)
      go_quiet ((go_at_call 29; exact quiet_of_quiet (c_fwS_at _ _ _ _ _ _ _ _ HW.out (hS.drewN _) hn)))
      clear p3
      go_wp2
      go_ret2
      exact ⟨ret_pair (by rw [tour_no HZ.out]) (by rw [HZ.out]), (DN.refl _).more _⟩
    · have hok' := hok
      simp only [Bool.and_eq_true] at hok'
      obtain ⟨hf, hx, _⟩ := hok'
      have hw := way_self hf hx
      have HW := Lib.hid hw; clear hw hok
      have HF := Lib.hid hf; clear hf
      have HX2 := Lib.hid hx; clear hx
      have HC := Lib.hid hc; clear hc
      go_enter Try.func37, Try.ntmps37
      go_wp2
      have e0 : ((nw : Int) + 1 != (nw : Int) + 1) = false := by simp
      have p3 : IntKind.i64.wrap ((nw : Int) + 1) = (nw : Int) + 1 := IntWalk.i64_in _ (by omega)
      go_quiet ((go_at_call 29; exact quiet_of_quiet (c_fwS_at _ _ _ _ _ _ _ _ HW.out (hS.drewN _) hn)))
      clear p3 e0 c0
      go_wp2
      go_loopw [8, 9] (fun t s wr => ∃ (k : Nat) (x : Int), k ≤ nw ∧ s = .int .i64 (k : Int) ∧ tourSum L S W k = x ∧ t = .int .i64 x ∧ DN w wr ∧ tourOk L S W k = true) (fun _ s _ => nw - (intOf s).toNat)
      case atStart => exact ⟨0, 0, by omega, rfl, rfl, rfl, (DN.refl _).more _, rfl⟩
      case round =>
        obtain ⟨k, x, hk, rfl, hx, rfl, hd', hok⟩ := hrel
        have hb := tourSum_bd L S W k
        rw [hx] at hb
        obtain ⟨b1, b2⟩ := hb
        have HXS := Lib.hid hx; clear hx
        have HOK := Lib.hid hok; clear hok
        by_cases hlt : k < nw
        · obtain ⟨b', o', rfl, hbl', hc'⟩ := hW.2 (by omega)
          have ck : wr.cell? ⟨b', o' + k, none⟩ = some (.int .i64 (nth W k)) := (hd'.cell _).trans (hc' k hlt)
          have s0 : wr.cell? ⟨b, o + k, none⟩ = some (.int .i64 (nth S k)) := (hd'.cell _).trans (HC.out k (by omega))
          have s1 : wr.cell? ⟨b, o + (k + 1), none⟩ = some (.int .i64 (nth S (k + 1))) := (hd'.cell _).trans (HC.out (k + 1) (by omega))
          clear hc'
          have i1 : (k : Int) < (nw : Int) := by omega
          have i2 : (k : Int) < (((nw + 1 : Nat)) : Int) := by omega
          have i3 : (k : Int) + 1 < (((nw + 1 : Nat)) : Int) := by omega
          obtain ⟨y, hy⟩ : ∃ y, trip L (nth S k) (nth S (k + 1)) (nth W k) = y := ⟨_, rfl⟩
          have hyb := trip_bd L (nth S k) (nth S (k + 1)) (nth W k)
          rw [hy] at hyb
          obtain ⟨y1, y2⟩ := hyb
          have HY := Lib.hid hy; clear hy
          rcases hto : tripOk L (nth S k) (nth S (k + 1)) (nth W k)
          · have hz := tourB_no4 (L := L) (S := S) (W := W) (k := k) (by rw [HLW.out]; exact hlt) hto
            have HZ := Lib.hid hz; clear hz
            have HTO := Lib.hid hto; clear hto
            go_wp2
            have p1 : (0 : Int) ≤ (k : Int) + 1 := by omega
            have p2 : ((k : Int) + 1).toNat = k + 1 := by omega
            have p3 : IntKind.i64.wrap ((k : Int) + 1) = (k : Int) + 1 := IntWalk.i64_in _ (by omega)
            go_quiet ((go_at_call 31; exact quiet_of_quiet (c_twS_at _ _ _ _ _ _ _ _ false _ HY.out HTO.out ((hd'.sl hS).drewN _) hn)))
            clear p1 p2 p3
            go_wp2
            go_ret2
            exact ⟨ret_pair (by rw [tour_no HZ.out]) (by rw [HZ.out]), hd'.more _⟩
          · have HTO := Lib.hid hto; clear hto
            go_wp2
            have p1 : (0 : Int) ≤ (k : Int) + 1 := by omega
            have p2 : ((k : Int) + 1).toNat = k + 1 := by omega
            have p3 : IntKind.i64.wrap ((k : Int) + 1) = (k : Int) + 1 := IntWalk.i64_in _ (by omega)
            go_quiet ((go_at_call 31; exact quiet_of_quiet (c_twS_at _ _ _ _ _ _ _ _ true _ HY.out HTO.out ((hd'.sl hS).drewN _) hn)))
            clear p1 p2 p3
            go_wp2
            go_roundw
            case rel => exact ⟨k + 1, x + y, by omega, by go_num, by show tourSum L S W k + _ = _; rw [HXS.out, HY.out], rfl, hd'.more _, by show (tourOk L S W k && _) = true; rw [HOK.out, HTO.out]; rfl⟩
            case measure => simp [intOf]; omega
        · obtain rfl : nw = k := by omega
          have hz := tourB_yes (L := L) (S := S) (W := W) HF.out (by rw [HLS.out, HLW.out]) HX2.out (by rw [HLW.out]; exact HOK.out)
          have HZ := Lib.hid hz; clear hz
          go_wp2
          go_ret2
          exact ⟨ret_pair (by rw [tour_yes HZ.out, HLW.out, HXS.out]) (by rw [HZ.out]), hd'⟩
  · have hz := tourB_no2 (L := L) (S := S) (W := W) (by rw [HLS.out, HLW.out]; exact hlen)
    have HZ := Lib.hid hz; clear hz
    go_enter Try.func37, Try.ntmps37
    go_wp2
    have e0 : ((ns : Int) != (nw : Int) + 1) = true := by simp; omega
    have p3 : IntKind.i64.wrap ((nw : Int) + 1) = (nw : Int) + 1 := IntWalk.i64_in _ (by omega)
    go_quiet (fail)
    clear p3
    go_wp2
    go_ret2
    exact ⟨ret_pair (by rw [tour_no HZ.out]) (by rw [HZ.out]), (DN.refl _).more _⟩
end Go.Proofs.Ytgmcbobmihhjgaa
