/- Contracts of the functions on floors: each returns what its plain function gives, and only draws. No conditions but those that stand at each. -/
import Derived.Test.YtkigpogamjgngaaSli
namespace Go.Proofs.Ytkigpogamjgngaa
open Go.RowKit Pl

theorem fv_pos {L : List Int} {n : Nat} (h : floorsV L = true) (hl : L.length = n) : 0 < n ∧ n ≤ 8 := by
  have := floorsV_iff.1 h
  exact ⟨by have := this.1; omega, by have := this.2.1; omega⟩
theorem floorAt_no {L : List Int} {a : Int} (h : floorsV L = false) : floorAt L a = -1 := by unfold floorAt; rw [h]; rfl
theorem floorAt_none {L : List Int} {a : Int} (hn : ∀ j, j < L.length → nth L j ≠ a) : floorAt L a = -1 := by
  rcases floorAt_cases L a with ⟨e, _⟩ | ⟨k, hk, _, e, _⟩
  · exact e
  · exact absurd e (hn k hk)
theorem floorAt_hit {L : List Int} {a : Int} {k : Nat} (h : floorsV L = true) (hk : k < L.length) (e : nth L k = a) : floorAt L a = (k : Int) := by rw [← e]; exact floorAt_nat h hk
set_option maxHeartbeats 1000000 in
theorem c_faI (A : Option Addr) (n c : Nat) (L : List Int) (a : Int) (w : World) (hS : Sl w A n L) (hn : n ≤ 2097152) :
    Calls Try.prog 16 #[.slice A n c, .int .i64 a] w (Quiet w (.int .i64 (floorAt L a))) := by
  rcases hf : floorsV L
  · have hz := floorAt_no (a := a) hf
    have HZ := Lib.hid hz; clear hz
    have HF := Lib.hid hf; clear hf
    go_enter Try.func16, Try.ntmps16
    go_wp2_with (go_at_call 12; refine (c_fvI _ _ _ _ _ hS hn).mono ?_; rintro e w1 ⟨rfl, hd⟩; rw [HF.out])
    go_ret
    exact ⟨ret_int (by rw [HZ.out]), hd⟩
  · obtain ⟨q1, q2⟩ := fv_pos hf hS.1
    obtain ⟨b, o, rfl, hbl, hc⟩ := hS.2 q1
    have HF := Lib.hid hf; clear hf
    have HC := Lib.hid hc; clear hc
    go_enter Try.func16, Try.ntmps16
    go_wp2_with (go_at_call 12; refine (c_fvI _ _ _ _ _ hS hn).mono ?_; rintro e w1 ⟨rfl, hd⟩; rw [HF.out])
    go_loop [12] (fun s => ∃ k : Nat, k ≤ n ∧ s = .int .i64 (k : Int) ∧ ∀ j, j < k → nth L j ≠ a) (fun s => n - (intOf s).toNat)
    case atStart => exact ⟨0, by omega, rfl, fun j hj => by omega⟩
    case round =>
      obtain ⟨k, hk, rfl, ha⟩ := hrel
      have HA := Lib.hid ha; clear ha
      by_cases hlt : k < n
      · have ck : w1.cell? ⟨b, o + k, none⟩ = some (.int .i64 (nth L k)) := (hd.cell _).trans (HC.out _ hlt)
        have i1 : (k : Int) < (n : Int) := by omega
        by_cases he : nth L k = a
        · have hz := floorAt_hit HF.out (by rw [hS.1]; exact hlt) he
          have e1 : (nth L k == a) = true := by simp [he]
          have HZ := Lib.hid hz; clear hz he
          go_wp2
          go_ret
          exact ⟨ret_int (by rw [HZ.out]), hd⟩
        · have e1 : (nth L k == a) = false := by simp [he]
          have HE := Lib.hid he; clear he
          go_wp2
          go_round
          case rel => exact ⟨k + 1, by omega, by go_num, fun j hj => by
            by_cases e : j = k
            · rw [e]; exact HE.out
            · exact HA.out j (by omega)⟩
          case measure => simp [intOf]; omega
      · obtain rfl : n = k := by omega
        have hz := floorAt_none (L := L) (a := a) (by rw [hS.1]; exact HA.out)
        have HZ := Lib.hid hz; clear hz
        go_wp2
        go_ret
        exact ⟨ret_int (by rw [HZ.out]), hd⟩
set_option maxHeartbeats 1000000 in
theorem c_faS (A : Option Addr) (n c : Nat) (L : List Int) (a : Int) (w : World) (hS : Sl w A n L) (hn : n ≤ 2097152) :
    Calls Try.prog 17 #[.slice A n c, .int .i64 a] w (Quiet w (.int .i64 (floorAt L a))) := by
  go_enter Try.func17, Try.ntmps17
  go_wp2
  go_loopw [5] (fun s wr => ∃ k : Nat, k ≤ n ∧ s = .int .i64 (k : Int) ∧ DN w wr ∧ ∀ j, j < k → nth L j ≠ a) (fun s _ => n - (intOf s).toNat)
  case atStart => exact ⟨0, by omega, rfl, DN.refl _, fun j hj => by omega⟩
  case round =>
    obtain ⟨k, hk, rfl, hd, ha⟩ := hrel
    have HA := Lib.hid ha; clear ha
    by_cases hlt : k < n
    · obtain ⟨b, o, rfl, hbl, hc⟩ := hS.2 (by omega)
      have hck := hc k hlt
      clear hc
      have i1 : (k : Int) < (n : Int) := by omega
      rcases hf : floorsV L
      · have hz := floorAt_no (a := a) hf
        have HZ := Lib.hid hz; clear hz
        have HF := Lib.hid hf; clear hf hck
        go_wp2_with (go_at_call 13; refine (c_fvS _ _ _ _ _ (hd.sl hS) hn).mono ?_; rintro e w1 ⟨rfl, hd1⟩; rw [HF.out])
        go_ret
        exact ⟨ret_int (by rw [HZ.out]), hd.trans hd1⟩
      · have HF := Lib.hid hf; clear hf
        by_cases he : nth L k = a
        · have hz := floorAt_hit HF.out (by rw [hS.1]; exact hlt) he
          have e1 : (nth L k == a) = true := by simp [he]
          have HZ := Lib.hid hz; clear hz he
          go_wp2_with (go_at_call 13; refine (c_fvS _ _ _ _ _ (hd.sl hS) hn).mono ?_; rintro e w1 ⟨rfl, hd1⟩; rw [HF.out]; have ck := ((hd.trans hd1).cell _).trans hck)
          go_ret
          exact ⟨ret_int (by rw [HZ.out]), hd.trans hd1⟩
        · have e1 : (nth L k == a) = false := by simp [he]
          have HE := Lib.hid he; clear he
          go_wp2_with (go_at_call 13; refine (c_fvS _ _ _ _ _ (hd.sl hS) hn).mono ?_; rintro e w1 ⟨rfl, hd1⟩; rw [HF.out]; have ck := ((hd.trans hd1).cell _).trans hck)
          go_roundw
          case rel => exact ⟨k + 1, by omega, by go_num, hd.trans hd1, fun j hj => by
            by_cases e : j = k
            · rw [e]; exact HE.out
            · exact HA.out j (by omega)⟩
          case measure => simp [intOf]; omega
    · obtain rfl : n = k := by omega
      have hz := floorAt_none (L := L) (a := a) (by rw [hS.1]; exact HA.out)
      have HZ := Lib.hid hz; clear hz
      go_wp2
      go_ret
      exact ⟨ret_int (by rw [HZ.out]), hd⟩
theorem below_no1 {L : List Int} {a : Int} (h : floorsV L = false) : floorBelow L a = -1 := by unfold floorBelow; rw [h]; rfl
theorem below_no2 {L : List Int} {a : Int} (h : inB a 0 60 = false) : floorBelow L a = -1 := by unfold floorBelow; rw [h]; simp
theorem near_no1 {L : List Int} {a : Int} (h : floorsV L = false) : floorNear L a = -1 := by unfold floorNear; rw [h]; rfl
theorem near_no2 {L : List Int} {a : Int} (h : inB a 0 60 = false) : floorNear L a = -1 := by unfold floorNear; rw [h]; simp
theorem c_stepValid_at (n : Int) (b : Bool) (h : inB n 0 60 = b) (w : World) :
    Calls Try.prog 47 #[.int .i64 n] w fun e w' => e = .returned (.bool b) ∧ w = w' := by
  have := c_stepValid n w
  rw [h] at this; exact this
set_option maxHeartbeats 1000000 in
theorem c_fbI (A : Option Addr) (n c : Nat) (L : List Int) (a : Int) (w : World) (hS : Sl w A n L) (hn : n ≤ 2097152) :
    Calls Try.prog 29 #[.slice A n c, .int .i64 a] w (Quiet w (.int .i64 (floorBelow L a))) := by
  rcases hf : floorsV L
  · have hz := below_no1 (a := a) hf
    have HZ := Lib.hid hz; clear hz
    have HF := Lib.hid hf; clear hf
    go_enter Try.func29, Try.ntmps29
    go_wp2_with (go_at_call 12; refine (c_fvI _ _ _ _ _ hS hn).mono ?_; rintro e w1 ⟨rfl, hd⟩; rw [HF.out])
    go_ret
    exact ⟨ret_int (by rw [HZ.out]), hd⟩
  · rcases hi : inB a 0 60
    · have hz := below_no2 (L := L) hi
      have HZ := Lib.hid hz; clear hz
      have HF := Lib.hid hf; clear hf
      have HI := Lib.hid hi; clear hi
      go_enter Try.func29, Try.ntmps29
      go_wp2_with (first | (go_at_call 12; refine (c_fvI _ _ _ _ _ hS hn).mono ?_; rintro e w1 ⟨rfl, hd⟩; rw [HF.out]) | (go_at_call 47; refine (c_stepValid_at _ false HI.out _).mono ?_; rintro e w' ⟨rfl, rfl⟩))
      go_ret
      exact ⟨ret_int (by rw [HZ.out]), hd⟩
    · have hz := floorBelow_Z hf hi
      have HZ := Lib.hid hz; clear hz
      obtain ⟨q1, q2⟩ := fv_pos hf hS.1
      obtain ⟨b, o, rfl, hbl, hc⟩ := hS.2 q1
      have HF := Lib.hid hf; clear hf
      have HI := Lib.hid hi; clear hi
      have HC := Lib.hid hc; clear hc
      go_enter Try.func29, Try.ntmps29
      go_wp2_with (first | (go_at_call 12; refine (c_fvI _ _ _ _ _ hS hn).mono ?_; rintro e w1 ⟨rfl, hd⟩; rw [HF.out]) | (go_at_call 47; refine (c_stepValid_at _ true HI.out _).mono ?_; rintro e w' ⟨rfl, rfl⟩))
      go_loop [5, 18] (fun t s => ∃ k : Nat, k ≤ n ∧ s = .int .i64 (k : Int) ∧ t = .int .i64 (lastZ (belowP L a) k : Int)) (fun _ s => n - (intOf s).toNat)
      case atStart => exact ⟨0, by omega, rfl, rfl⟩
      case round =>
        obtain ⟨k, hk, rfl, rfl⟩ := hrel
        by_cases hlt : k < n
        · have ck : w1.cell? ⟨b, o + k, none⟩ = some (.int .i64 (nth L k)) := (hd.cell _).trans (HC.out _ hlt)
          have i1 : (k : Int) < (n : Int) := by omega
          by_cases he : nth L k ≤ a
          · have hz : lastZ (belowP L a) (k + 1) = k := by simp [lastZ, belowP, he]
            have HY := Lib.hid hz; clear hz
            go_wp2
            go_round
            case rel => exact ⟨k + 1, by omega, by go_num, by rw [HY.out]⟩
            case measure => simp [intOf]; omega
          · have hz : lastZ (belowP L a) (k + 1) = lastZ (belowP L a) k := by simp [lastZ, belowP, he]
            have HY := Lib.hid hz; clear hz
            go_wp2
            go_round
            case rel => exact ⟨k + 1, by omega, by go_num, by rw [HY.out]⟩
            case measure => simp [intOf]; omega
        · obtain rfl : n = k := by omega
          go_wp2
          go_ret
          exact ⟨ret_int (by rw [HZ.out, hS.1]), hd⟩
set_option maxHeartbeats 1000000 in
theorem c_fbS (A : Option Addr) (n c : Nat) (L : List Int) (a : Int) (w : World) (hS : Sl w A n L) (hn : n ≤ 2097152) :
    Calls Try.prog 30 #[.slice A n c, .int .i64 a] w (Quiet w (.int .i64 (floorBelow L a))) := by
  rcases hf : floorsV L
  · have hz := below_no1 (a := a) hf
    have HZ := Lib.hid hz; clear hz
    have HF := Lib.hid hf; clear hf
    by_cases h0 : n = 0
    · subst h0
      go_enter Try.func30, Try.ntmps30
      go_wp2
      go_loopw [5, 6] (fun t s wr => t = .int .i64 (-1) ∧ s = .int .i64 0 ∧ DN w wr) (fun _ _ _ => 0)
      case atStart => exact ⟨rfl, rfl, DN.refl _⟩
      case round =>
        obtain ⟨rfl, rfl, hd⟩ := hrel
        go_wp2
        go_ret
        exact ⟨ret_int (by rw [HZ.out]), hd⟩
    · have i1 : (0 : Int) < (n : Int) := by omega
      have i2 : 0 < n := by omega
      go_enter Try.func30, Try.ntmps30
      go_wp2
      go_loopw [5, 6] (fun t s wr => t = .int .i64 (-1) ∧ s = .int .i64 0 ∧ DN w wr) (fun _ _ _ => 0)
      case atStart => exact ⟨rfl, rfl, DN.refl _⟩
      case round =>
        obtain ⟨rfl, rfl, hd⟩ := hrel
        go_wp2_with (go_at_call 13; refine (c_fvS _ _ _ _ _ (hd.sl hS) hn).mono ?_; rintro e w1 ⟨rfl, hd1⟩; rw [HF.out])
        go_ret
        exact ⟨ret_int (by rw [HZ.out]), hd.trans hd1⟩
  · obtain ⟨q1, q2⟩ := fv_pos hf hS.1
    obtain ⟨b, o, rfl, hbl, hc⟩ := hS.2 q1
    have HC := Lib.hid hc; clear hc
    rcases hi : inB a 0 60
    · have hz := below_no2 (L := L) hi
      have HZ := Lib.hid hz; clear hz
      have HF := Lib.hid hf; clear hf
      have HI := Lib.hid hi; clear hi
      have i1 : (0 : Int) < (n : Int) := by omega
      go_enter Try.func30, Try.ntmps30
      go_wp2
      go_loopw [5, 6] (fun t s wr => t = .int .i64 (-1) ∧ s = .int .i64 0 ∧ DN w wr) (fun _ _ _ => 0)
      case atStart => exact ⟨rfl, rfl, DN.refl _⟩
      case round =>
        obtain ⟨rfl, rfl, hd⟩ := hrel
        go_wp2_with (first | (go_at_call 13; refine (c_fvS _ _ _ _ _ (hd.sl hS) hn).mono ?_; rintro e w1 ⟨rfl, hd1⟩; rw [HF.out]) | (go_at_call 40; refine (c_l1In_at _ _ _ false HI.out _).mono ?_; rintro e w' ⟨rfl, rfl⟩))
        go_ret
        exact ⟨ret_int (by rw [HZ.out]), hd.trans hd1⟩
    · have hz : floorBelow L a = lastI (belowP L a) L.length := by unfold floorBelow; rw [hf, hi]; rfl
      have HZ := Lib.hid hz; clear hz
      have HF := Lib.hid hf; clear hf
      have HI := Lib.hid hi; clear hi
      go_enter Try.func30, Try.ntmps30
      go_wp2
      go_loopw [5, 6] (fun t s wr => ∃ k : Nat, k ≤ n ∧ s = .int .i64 (k : Int) ∧ t = .int .i64 (lastI (belowP L a) k) ∧ DN w wr) (fun _ s _ => n - (intOf s).toNat)
      case atStart => exact ⟨0, by omega, rfl, rfl, DN.refl _⟩
      case round =>
        obtain ⟨k, hk, rfl, rfl, hd⟩ := hrel
        by_cases hlt : k < n
        · have hck := HC.out k hlt
          have i1 : (k : Int) < (n : Int) := by omega
          by_cases he : nth L k ≤ a
          · have hz : lastI (belowP L a) (k + 1) = (k : Int) := by simp [lastI, belowP, he]
            have HY := Lib.hid hz; clear hz
            go_wp2_with (first | (go_at_call 13; refine (c_fvS _ _ _ _ _ (hd.sl hS) hn).mono ?_; rintro e w1 ⟨rfl, hd1⟩; rw [HF.out]; have ck := ((hd.trans hd1).cell _).trans hck) | (go_at_call 40; refine (c_l1In_at _ _ _ true HI.out _).mono ?_; rintro e w' ⟨rfl, rfl⟩))
            go_roundw
            case rel => exact ⟨k + 1, by omega, by go_num, by rw [HY.out], hd.trans hd1⟩
            case measure => simp [intOf]; omega
          · have hz : lastI (belowP L a) (k + 1) = lastI (belowP L a) k := by simp [lastI, belowP, he]
            have HY := Lib.hid hz; clear hz
            go_wp2_with (first | (go_at_call 13; refine (c_fvS _ _ _ _ _ (hd.sl hS) hn).mono ?_; rintro e w1 ⟨rfl, hd1⟩; rw [HF.out]; have ck := ((hd.trans hd1).cell _).trans hck) | (go_at_call 40; refine (c_l1In_at _ _ _ true HI.out _).mono ?_; rintro e w' ⟨rfl, rfl⟩))
            go_roundw
            case rel => exact ⟨k + 1, by omega, by go_num, by rw [HY.out], hd.trans hd1⟩
            case measure => simp [intOf]; omega
        · obtain rfl : n = k := by omega
          go_wp2
          go_ret
          exact ⟨ret_int (by rw [HZ.out, hS.1]), hd⟩
end Go.Proofs.Ytkigpogamjgngaa
