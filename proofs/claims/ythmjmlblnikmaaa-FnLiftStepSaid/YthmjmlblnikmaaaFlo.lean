/- Contracts of the functions on floors: each returns what its plain function gives, and only draws. No conditions but those that stand at each. -/
import Derived.Test.YthmjmlblnikmaaaSli
namespace Go.Proofs.Ythmjmlblnikmaaa
open Go.RowKit Pl

theorem fv_pos {L : List Int} {n : Nat} (h : floorsV L = true) (hl : L.length = n) : 0 < n ∧ n ≤ 8 := by
  have := floorsV_iff.1 h
  exact ⟨by have := this.1; omega, by have := this.2.1; omega⟩
theorem floorAt_no {L : List Int} {a : Int} (h : floorsV L = false) : floorAt L a = -1 := by unfold floorAt; rw [h]; rfl
theorem floorAt_none {L : List Int} {a : Int} (hn : ∀ j, j < L.length → nth L j ≠ a) : floorAt L a = -1 := by
  rcases floorAt_cases L a with ⟨e, _⟩ | ⟨k, hk, _, e, _⟩
  · exact e
  · exact absurd e (hn k hk)
theorem floorAt_hit {L : List Int} {a : Int} {k : Nat} (h : floorsV L = true) (hk : k < L.length) (e : nth L k = a) : floorAt L a = (k : Int) := by rw [← e]; exact floorAt_nat h hk
set_option maxHeartbeats 1000000 in
theorem c_faI (A : Option Addr) (n c : Nat) (L : List Int) (a : Int) (w : World) (hS : Sl w A n L) (hn : n ≤ 2097152) :
    Calls Try.prog 24 #[.slice A n c, .int .i64 a] w (Quiet w (.int .i64 (floorAt L a))) := by
  rcases hf : floorsV L
  · have hz := floorAt_no (a := a) hf
    have HZ := Lib.hid hz; clear hz
    have HF := Lib.hid hf; clear hf
    go_enter Try.func24, Try.ntmps24
    go_wp2_with (go_at_call 43; refine (c_fvI _ _ _ _ _ hS hn).mono ?_; rintro e w1 ⟨rfl, hd⟩; rw [HF.out])
    go_ret
    exact ⟨ret_int (by rw [HZ.out]), hd⟩
  · obtain ⟨q1, q2⟩ := fv_pos hf hS.1
    obtain ⟨b, o, rfl, hbl, hc⟩ := hS.2 q1
    have HF := Lib.hid hf; clear hf
    have HC := Lib.hid hc; clear hc
    go_enter Try.func24, Try.ntmps24
    go_wp2_with (go_at_call 43; refine (c_fvI _ _ _ _ _ hS hn).mono ?_; rintro e w1 ⟨rfl, hd⟩; rw [HF.out])
    go_loop [12] (fun s => ∃ k : Nat, k ≤ n ∧ s = .int .i64 (k : Int) ∧ ∀ j, j < k → nth L j ≠ a) (fun s => n - (intOf s).toNat)
    case atStart => exact ⟨0, by omega, rfl, fun j hj => by omega⟩
    case round =>
      obtain ⟨k, hk, rfl, ha⟩ := hrel
      have HA := Lib.hid ha; clear ha
      by_cases hlt : k < n
      · have ck : w1.cell? ⟨b, o + k, none⟩ = some (.int .i64 (nth L k)) := (hd.cell _).trans (HC.out _ hlt)
        have i1 : (k : Int) < (n : Int) := by omega
        by_cases he : nth L k = a
        · have hz := floorAt_hit HF.out (by rw [hS.1]; exact hlt) he
          have e1 : (nth L k == a) = true := by simp [he]
          have HZ := Lib.hid hz; clear hz he
          go_wp2
          go_ret
          exact ⟨ret_int (by rw [HZ.out]), hd⟩
        · have e1 : (nth L k == a) = false := by simp [he]
          have HE := Lib.hid he; clear he
          go_wp2
          go_round
          case rel => exact ⟨k + 1, by omega, by go_num, fun j hj => by
            by_cases e : j = k
            · rw [e]; exact HE.out
            · exact HA.out j (by omega)⟩
          case measure => simp [intOf]; omega
      · obtain rfl : n = k := by omega
        have hz := floorAt_none (L := L) (a := a) (by rw [hS.1]; exact HA.out)
        have HZ := Lib.hid hz; clear hz
        go_wp2
        go_ret
        exact ⟨ret_int (by rw [HZ.out]), hd⟩
set_option maxHeartbeats 1000000 in
theorem c_faS (A : Option Addr) (n c : Nat) (L : List Int) (a : Int) (w : World) (hS : Sl w A n L) (hn : n ≤ 2097152) :
    Calls Try.prog 37 #[.slice A n c, .int .i64 a] w (Quiet w (.int .i64 (floorAt L a))) := by
  go_enter Try.func37, Try.ntmps37
  go_wp2
  go_loopw [5] (fun s wr => ∃ k : Nat, k ≤ n ∧ s = .int .i64 (k : Int) ∧ DN w wr ∧ ∀ j, j < k → nth L j ≠ a) (fun s _ => n - (intOf s).toNat)
  case atStart => exact ⟨0, by omega, rfl, DN.refl _, fun j hj => by omega⟩
  case round =>
    obtain ⟨k, hk, rfl, hd, ha⟩ := hrel
    have HA := Lib.hid ha; clear ha
    by_cases hlt : k < n
    · obtain ⟨b, o, rfl, hbl, hc⟩ := hS.2 (by omega)
      have hck := hc k hlt
      clear hc
      have i1 : (k : Int) < (n : Int) := by omega
      rcases hf : floorsV L
      · have hz := floorAt_no (a := a) hf
        have HZ := Lib.hid hz; clear hz
        have HF := Lib.hid hf; clear hf hck
        go_wp2_with (go_at_call 40; refine (c_fvS _ _ _ _ _ (hd.sl hS) hn).mono ?_; rintro e w1 ⟨rfl, hd1⟩; rw [HF.out])
        go_ret
        exact ⟨ret_int (by rw [HZ.out]), hd.trans hd1⟩
      · have HF := Lib.hid hf; clear hf
        by_cases he : nth L k = a
        · have hz := floorAt_hit HF.out (by rw [hS.1]; exact hlt) he
          have e1 : (nth L k == a) = true := by simp [he]
          have HZ := Lib.hid hz; clear hz he
          go_wp2_with (go_at_call 40; refine (c_fvS _ _ _ _ _ (hd.sl hS) hn).mono ?_; rintro e w1 ⟨rfl, hd1⟩; rw [HF.out]; have ck := ((hd.trans hd1).cell _).trans hck)
          go_ret
          exact ⟨ret_int (by rw [HZ.out]), hd.trans hd1⟩
        · have e1 : (nth L k == a) = false := by simp [he]
          have HE := Lib.hid he; clear he
          go_wp2_with (go_at_call 40; refine (c_fvS _ _ _ _ _ (hd.sl hS) hn).mono ?_; rintro e w1 ⟨rfl, hd1⟩; rw [HF.out]; have ck := ((hd.trans hd1).cell _).trans hck)
          go_roundw
          case rel => exact ⟨k + 1, by omega, by go_num, hd.trans hd1, fun j hj => by
            by_cases e : j = k
            · rw [e]; exact HE.out
            · exact HA.out j (by omega)⟩
          case measure => simp [intOf]; omega
    · obtain rfl : n = k := by omega
      have hz := floorAt_none (L := L) (a := a) (by rw [hS.1]; exact HA.out)
      have HZ := Lib.hid hz; clear hz
      go_wp2
      go_ret
      exact ⟨ret_int (by rw [HZ.out]), hd⟩
theorem below_no1 {L : List Int} {a : Int} (h : floorsV L = false) : floorBelow L a = -1 := by unfold floorBelow; rw [h]; rfl
theorem below_no2 {L : List Int} {a : Int} (h : inB a 0 60 = false) : floorBelow L a = -1 := by unfold floorBelow; rw [h]; simp
theorem near_no1 {L : List Int} {a : Int} (h : floorsV L = false) : floorNear L a = -1 := by unfold floorNear; rw [h]; rfl
theorem near_no2 {L : List Int} {a : Int} (h : inB a 0 60 = false) : floorNear L a = -1 := by unfold floorNear; rw [h]; simp
theorem c_stepValid_at (n : Int) (b : Bool) (h : inB n 0 60 = b) (w : World) :
    Calls Try.prog 56 #[.int .i64 n] w fun e w' => e = .returned (.bool b) ∧ w = w' := by
  have := c_stepValid n w
  rw [h] at this; exact this
end Go.Proofs.Ythmjmlblnikmaaa
