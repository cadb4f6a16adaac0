/- Contracts of the functions that look for a number in a list, and of GovernorRun. No conditions but those that stand at each. -/
import Derived.Test.YtjnoejlccbfcjaaSli
namespace Go.Proofs.Ytjnoejlccbfcjaa
open Go.RowKit Pl

set_option maxHeartbeats 1000000 in
theorem c_has (A : Option Addr) (n c : Nat) (L : List Int) (x : Int) (w : World) (hS : Sl w A n L) (hn : n ≤ 2097152) :
    Calls Try.prog 63 #[.slice A n c, .int .i64 x] w (Quiet w (.bool (hasI L x))) := by
  have hl := hS.1
  have HL := Lib.hid hl; clear hl
  go_enter Try.func63, Try.ntmps63
  go_wp2
  go_loop [5] (fun s => ∃ k : Nat, k ≤ n ∧ s = .int .i64 (k : Int) ∧ ∀ j, j < k → nth L j ≠ x) (fun s => n - (intOf s).toNat)
  case atStart => exact ⟨0, by omega, rfl, fun j hj => by omega⟩
  case round =>
    obtain ⟨k, hk, rfl, ha⟩ := hrel
    have HA := Lib.hid ha; clear ha
    by_cases hlt : k < n
    · obtain ⟨b, o, rfl, hbl, hc⟩ := hS.2 (by omega)
      have ck := hc k hlt
      clear hc
      have i1 : (k : Int) < (n : Int) := by omega
      by_cases he : nth L k = x
      · have hz := hasI_at (L := L) (k := k) (by rw [HL.out]; exact hlt) he
        have e1 : (nth L k == x) = true := by simp [he]
        have HZ := Lib.hid hz; clear hz he
        go_wp2
        go_ret
        exact ⟨ret_bool (by rw [HZ.out]), DN.refl _⟩
      · have e1 : (nth L k == x) = false := by simp [he]
        have HE := Lib.hid he; clear he
        go_wp2
        go_round
        case rel => exact ⟨k + 1, by omega, by go_num, fun j hj => by
          by_cases e : j = k
          · rw [e]; exact HE.out
          · exact HA.out j (by omega)⟩
        case measure => simp [intOf]; omega
    · obtain rfl : n = k := by omega
      have hz := hasI_no (L := L) (x := x) (by rw [HL.out]; exact HA.out)
      have HZ := Lib.hid hz; clear hz
      go_wp2
      go_ret
      exact ⟨ret_bool (by rw [HZ.out]), DN.refl _⟩
set_option maxHeartbeats 1000000 in
theorem c_index (A : Option Addr) (n c : Nat) (L : List Int) (x : Int) (w : World) (hS : Sl w A n L) (hn : n ≤ 2097152) :
    Calls Try.prog 70 #[.slice A n c, .int .i64 x] w (Quiet w (.int .i64 (firstI (atP L x) L.length))) := by
  have hl := hS.1
  have HL := Lib.hid hl; clear hl
  go_enter Try.func70, Try.ntmps70
  go_wp2
  go_loop [8] (fun s => ∃ k : Nat, k ≤ n ∧ s = .int .i64 (k : Int) ∧ ∀ j, j < k → nth L j ≠ x) (fun s => n - (intOf s).toNat)
  case atStart => exact ⟨0, by omega, rfl, fun j hj => by omega⟩
  case round =>
    obtain ⟨k, hk, rfl, ha⟩ := hrel
    have HA := Lib.hid ha; clear ha
    by_cases hlt : k < n
    · obtain ⟨b, o, rfl, hbl, hc⟩ := hS.2 (by omega)
      have ck := hc k hlt
      clear hc
      have i1 : (k : Int) < (n : Int) := by omega
      by_cases he : nth L k = x
      · have hz : firstI (atP L x) L.length = (k : Int) := firstI_at (by rw [HL.out]; exact hlt) (by simp [atP, he]) (fun j hj => by have := HA.out j hj; simp [atP, this])
        have e1 : (x == nth L k) = true := by simp [he]
        have HZ := Lib.hid hz; clear hz he
        go_wp2
        go_ret
        exact ⟨ret_int (by rw [HZ.out]), DN.refl _⟩
      · have e1 : (x == nth L k) = false := by simp; intro e; exact he e.symm
        have HE := Lib.hid he; clear he
        go_wp2
        go_round
        case rel => exact ⟨k + 1, by omega, by go_num, fun j hj => by
          by_cases e : j = k
          · rw [e]; exact HE.out
          · exact HA.out j (by omega)⟩
        case measure => simp [intOf]; omega
    · obtain rfl : n = k := by omega
      have hz : firstI (atP L x) L.length = -1 := firstI_none (fun j hj => by rw [HL.out] at hj; have := HA.out j hj; simp [atP, this])
      have HZ := Lib.hid hz; clear hz
      go_wp2
      go_ret
      exact ⟨ret_int (by rw [HZ.out]), DN.refl _⟩
theorem c_contains (A : Option Addr) (n c : Nat) (L : List Int) (x : Int) (w : World) (hS : Sl w A n L) (hn : n ≤ 2097152) :
    Calls Try.prog 62 #[.slice A n c, .int .i64 x] w (Quiet w (.bool (hasI L x))) := by
  have hz : hasI L x = decide (0 ≤ firstI (atP L x) L.length) := by
    rcases firstI_spec (atP L x) L.length with ⟨e, hn⟩ | ⟨k, hk, e, hp, _⟩
    · rw [e, hasI_no (fun j hj => by have := hn j hj; simpa [atP] using this)]; rfl
    · rw [e, hasI_at hk (by simpa [atP] using hp), decide_eq_true (by omega)]
  have HZ := Lib.hid hz; clear hz
  go_enter Try.func62, Try.ntmps62
  go_wp2_with (go_at_call 70; refine (c_index _ _ _ _ _ _ hS hn).mono ?_; rintro e w1 ⟨rfl, hd⟩)
  go_ret
  exact ⟨ret_bool (by rw [HZ.out]), hd⟩
set_option maxHeartbeats 1000000 in
theorem c_grI (tr : Bool) (A : Option Addr) (n c : Nat) (S : List Int) (A' : Option Addr) (n' c' : Nat) (R : List Int) (w : World) (hS : Sl w A n S) (hn : n ≤ 2097152) (hR : Sl w A' n' R) (hn' : n' ≤ 2097152) :
    Calls Try.prog 32 #[.bool tr, .slice A n c, .slice A' n' c'] w (Quiet w (.bool (govRun tr S R S.length))) := by
  have hl := hS.1
  have HL := Lib.hid hl; clear hl
  go_enter Try.func32, Try.ntmps32
  go_wp2
  go_loopw [0, 11] (fun t s wr => ∃ (k : Nat) (x : Bool), k ≤ n ∧ s = .int .i64 (k : Int) ∧ govRun tr S R k = x ∧ t = .bool x ∧ DN w wr) (fun _ s _ => n - (intOf s).toNat)
  case atStart => exact ⟨0, tr, by omega, rfl, rfl, rfl, DN.refl _⟩
  case round =>
    obtain ⟨k, x, hk, rfl, hx, rfl, hd⟩ := hrel
    by_cases hlt : k < n
    · obtain ⟨b, o, rfl, hbl, hc⟩ := hS.2 (by omega)
      have ck : wr.cell? ⟨b, o + k, none⟩ = some (.int .i64 (nth S k)) := (hd.cell _).trans (hc k hlt)
      clear hc
      have i1 : (k : Int) < (n : Int) := by omega
      have hnx : govRun tr S R (k + 1) = govStep x (nth S k) (hasI R (k : Int)) := by rw [← hx]; rfl
      have HN := Lib.hid hnx; clear hnx hx
      go_wp2_with (first | (go_at_call 62; refine (c_contains _ _ _ _ _ _ (hd.sl hR) hn').mono ?_; rintro e w1 ⟨rfl, hd1⟩) | (go_at_call 16; refine (c_govI _ _ _ _).mono ?_; rintro e w' ⟨rfl, rfl⟩))
      go_roundw
      case rel => exact ⟨k + 1, _, by omega, by go_num, HN.out, rfl, hd.trans hd1⟩
      case measure => simp [intOf]; omega
    · obtain rfl : n = k := by omega
      have HX := Lib.hid hx; clear hx
      go_wp2
      go_ret
      exact ⟨ret_bool (by rw [HL.out, HX.out]), hd⟩
set_option maxHeartbeats 1000000 in
theorem c_grS (tr : Bool) (A : Option Addr) (n c : Nat) (S : List Int) (A' : Option Addr) (n' c' : Nat) (R : List Int) (w : World) (hS : Sl w A n S) (hn : n ≤ 2097152) (hR : Sl w A' n' R) (hn' : n' ≤ 2097152) :
    Calls Try.prog 33 #[.bool tr, .slice A n c, .slice A' n' c'] w (Quiet w (.bool (govRun tr S R S.length))) := by
  have hl := hS.1
  have HL := Lib.hid hl; clear hl
  go_enter Try.func33, Try.ntmps33
  go_wp2
  go_loopw [0, 7] (fun t s wr => ∃ (k : Nat) (x : Bool), k ≤ n ∧ s = .int .i64 (k : Int) ∧ govRun tr S R k = x ∧ t = .bool x ∧ DN w wr) (fun _ s _ => n - (intOf s).toNat)
  case atStart => exact ⟨0, tr, by omega, rfl, rfl, rfl, DN.refl _⟩
  case round =>
    obtain ⟨k, x, hk, rfl, hx, rfl, hd⟩ := hrel
    by_cases hlt : k < n
    · obtain ⟨b, o, rfl, hbl, hc⟩ := hS.2 (by omega)
      have ck : wr.cell? ⟨b, o + k, none⟩ = some (.int .i64 (nth S k)) := (hd.cell _).trans (hc k hlt)
      clear hc
      have i1 : (k : Int) < (n : Int) := by omega
      have hnx : govRun tr S R (k + 1) = govStep x (nth S k) (hasI R (k : Int)) := by rw [← hx]; rfl
      have HN := Lib.hid hnx; clear hnx hx
      go_wp2
      go_quiet ((first | (go_at_call 63; exact quiet_of_quiet (c_has _ _ _ _ _ _ ((hd.sl hR).drewN _) hn')) | (go_at_call 17; exact quiet_left (c_govS _ _ _ _))))
      go_wp2
      go_roundw
      case rel => exact ⟨k + 1, _, by omega, by go_num, HN.out, rfl, hd.more _⟩
      case measure => simp [intOf]; omega
    · obtain rfl : n = k := by omega
      have HX := Lib.hid hx; clear hx
      go_wp2
      go_ret
      exact ⟨ret_bool (by rw [HL.out, HX.out]), hd⟩
end Go.Proofs.Ytjnoejlccbfcjaa
