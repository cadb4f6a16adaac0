/- Contracts of the functions on loads: each returns what its plain function gives, and only draws. No conditions but those that stand at each. -/
import Derived.Test.YtkigpogamjgngaaSli
import Derived.WalkSpells
namespace Go.Proofs.Ytkigpogamjgngaa
open Go.RowKit Pl

theorem sum_next {L : List Int} {k : Nat} (hk : k < L.length) : (L.take (k + 1)).sum = (L.take k).sum + nth L k := by rw [take_succ hk, sum_snoc]
theorem wt_next {L : List Int} {k : Nat} (hk : k < L.length) (h : wtV (L.take k) = true) (hi : inB (nth L k) 1 40 = true) : wtV (L.take (k + 1)) = true := by rw [take_succ hk, wtV_snoc, h, hi]; rfl
theorem take_bd {L : List Int} {k : Nat} (h : wtV (L.take k) = true) : 0 ≤ (L.take k).sum ∧ (L.take k).sum ≤ 40 * (k : Int) := by
  have := wt_sum h
  have : (L.take k).length ≤ k := List.length_take_le _ _
  omega
theorem wtV_at {L : List Int} {k : Nat} (h : wtV L = true) (hk : k < L.length) : 1 ≤ nth L k ∧ nth L k ≤ 40 := wtV_iff.1 h _ (nth_mem hk)
/-- The first elements of a slice. -/
theorem Sl.first {w : World} {A : Option Addr} {n : Nat} {L : List Int} (h : Sl w A n L) {k : Nat} (hk : k ≤ n) : Sl w A k (L.take k) := by
  refine ⟨by rw [List.length_take, h.1]; omega, fun h0 => ?_⟩
  obtain ⟨b, o, e, hb, hc⟩ := h.2 (by omega)
  exact ⟨b, o, e, hb, fun j hj => by rw [nth_take hj]; exact hc j (by omega)⟩
set_option maxHeartbeats 1000000 in
theorem c_lsI (A : Option Addr) (n c : Nat) (L : List Int) (w : World) (hS : Sl w A n L) (hn : n ≤ 2097152) :
    Calls Try.prog 21 #[.slice A n c] w (Quiet w (.int .i64 (loadSum L))) := by
  have hl := hS.1
  have HL := Lib.hid hl; clear hl
  by_cases h8 : 8 < n
  · have hz := loadSum_long (L := L) (by rw [HL.out]; exact h8)
    have HZ := Lib.hid hz; clear hz
    go_enter Try.func21, Try.ntmps21
    go_wp2
    go_ret
    exact ⟨ret_int (by rw [HZ.out]), DN.refl _⟩
  · go_enter Try.func21, Try.ntmps21
    go_wp2
    go_loop [3, 11] (fun t s => ∃ k : Nat, k ≤ n ∧ s = .int .i64 (k : Int) ∧ t = .int .i64 ((L.take k).sum) ∧ wtV (L.take k) = true) (fun _ s => n - (intOf s).toNat)
    case atStart => exact ⟨0, by omega, rfl, rfl, rfl⟩
    case round =>
      obtain ⟨k, hk, rfl, rfl, hv⟩ := hrel
      obtain ⟨t1, t2⟩ := take_bd hv
      have HV := Lib.hid hv; clear hv
      by_cases hlt : k < n
      · obtain ⟨b, o, rfl, hbl, hc⟩ := hS.2 (by omega)
        have ck := hc k hlt
        clear hc
        have i1 : (k : Int) < (n : Int) := by omega
        have hnx := sum_next (L := L) (k := k) (by rw [HL.out]; exact hlt)
        have HN := Lib.hid hnx; clear hnx
        by_cases h1 : nth L k < 1
        · have hz := loadSum_bad (wtV_bad (L := L) (k := k) (by rw [HL.out]; exact hlt) (inB_lo h1))
          have HZ := Lib.hid hz; clear hz
          go_wp2
          go_ret
          exact ⟨ret_int (by rw [HZ.out]), DN.refl _⟩
        · have d1 : decide (nth L k < 1) = false := by simpa using h1
          by_cases h2 : 40 < nth L k
          · have hz := loadSum_bad (wtV_bad (L := L) (k := k) (by rw [HL.out]; exact hlt) (inB_hi h2))
            have HZ := Lib.hid hz; clear hz
            go_wp2
            go_ret
            exact ⟨ret_int (by rw [HZ.out]), DN.refl _⟩
          · have d2 : decide (40 < nth L k) = false := by simpa using h2
            go_wp2
            go_round
            case rel => exact ⟨k + 1, by omega, by go_num, by rw [HN.out], wt_next (by rw [HL.out]; exact hlt) HV.out (inB_mk (by omega) (by omega))⟩
            case measure => simp [intOf]; omega
      · obtain rfl : n = k := by omega
        have e : L.take n = L := List.take_of_length_le (by rw [HL.out]; omega)
        have hz := loadSum_val (L := L) (by rw [HL.out]; omega) (by have := HV.out; rw [e] at this; exact this)
        have HZ := Lib.hid hz; clear hz
        have HE := Lib.hid e; clear e
        go_wp2
        go_ret
        exact ⟨ret_int (by rw [HZ.out, HE.out]), DN.refl _⟩
set_option maxHeartbeats 1000000 in
theorem c_lsS (A : Option Addr) (n c : Nat) (L : List Int) (w : World) (hS : Sl w A n L) (hn : n ≤ 2097152) :
    Calls Try.prog 23 #[.slice A n c] w (Quiet w (.int .i64 (loadSum L))) := by
  have hl := hS.1
  have HL := Lib.hid hl; clear hl
  go_enter Try.func23, Try.ntmps23
  go_wp2
  go_loop [3, 4] (fun t s => ∃ k : Nat, k ≤ n ∧ s = .int .i64 (k : Int) ∧ t = .int .i64 ((L.take k).sum) ∧ wtV (L.take k) = true) (fun _ s => n - (intOf s).toNat)
  case atStart => exact ⟨0, by omega, rfl, rfl, rfl⟩
  case round =>
    obtain ⟨k, hk, rfl, rfl, hv⟩ := hrel
    obtain ⟨t1, t2⟩ := take_bd hv
    have HV := Lib.hid hv; clear hv
    by_cases hlt : k < n
    · obtain ⟨b, o, rfl, hbl, hc⟩ := hS.2 (by omega)
      have ck := hc k hlt
      clear hc
      have i1 : (k : Int) < (n : Int) := by omega
      have hnx := sum_next (L := L) (k := k) (by rw [HL.out]; exact hlt)
      have HN := Lib.hid hnx; clear hnx
      rcases hi : inB (nth L k) 1 40
      · have hz := loadSum_bad (wtV_bad (L := L) (k := k) (by rw [HL.out]; exact hlt) hi)
        have HZ := Lib.hid hz; clear hz
        have HI := Lib.hid hi; clear hi
        go_wp2_with (go_at_call 40; refine (c_l1In_at _ _ _ false HI.out _).mono ?_; rintro e w' ⟨rfl, rfl⟩)
        go_ret
        exact ⟨ret_int (by rw [HZ.out]), DN.refl _⟩
      · obtain ⟨x1, x2⟩ := inB_iff.1 hi
        have HI := Lib.hid hi; clear hi
        go_wp2_with (go_at_call 40; refine (c_l1In_at _ _ _ true HI.out _).mono ?_; rintro e w' ⟨rfl, rfl⟩)
        go_round
        case rel => exact ⟨k + 1, by omega, by go_num, by rw [HN.out], wt_next (by rw [HL.out]; exact hlt) HV.out HI.out⟩
        case measure => simp [intOf]; omega
    · obtain rfl : n = k := by omega
      have e : L.take n = L := List.take_of_length_le (by rw [HL.out]; omega)
      by_cases h8 : 8 < n
      · have hz := loadSum_long (L := L) (by rw [HL.out]; exact h8)
        have HZ := Lib.hid hz; clear hz e
        go_wp2
        go_ret
        exact ⟨ret_int (by rw [HZ.out]), DN.refl _⟩
      · have hz := loadSum_val (L := L) (by rw [HL.out]; omega) (by have := HV.out; rw [e] at this; exact this)
        have HZ := Lib.hid hz; clear hz
        have HE := Lib.hid e; clear e
        go_wp2
        go_ret
        exact ⟨ret_int (by rw [HZ.out, HE.out]), DN.refl _⟩
theorem c_ovI (A : Option Addr) (n c : Nat) (L : List Int) (w : World) (hS : Sl w A n L) (hn : n ≤ 2097152) :
    Calls Try.prog 19 #[.slice A n c] w (Quiet w (.bool (decide (40 < loadSum L)))) := by
  go_enter Try.func19, Try.ntmps19
  go_wp2_with (go_at_call 21; refine (c_lsI _ _ _ _ _ hS hn).mono ?_; rintro e w1 ⟨rfl, hd⟩)
  go_ret
  exact ⟨rfl, hd⟩
theorem c_ovS (A : Option Addr) (n c : Nat) (L : List Int) (w : World) (hS : Sl w A n L) (hn : n ≤ 2097152) :
    Calls Try.prog 20 #[.slice A n c] w (Quiet w (.bool (decide (40 < loadSum L)))) := by
  go_enter Try.func20, Try.ntmps20
  go_wp2_with (go_at_call 23; refine (c_lsS _ _ _ _ _ hS hn).mono ?_; rintro e w1 ⟨rfl, hd⟩)
  go_ret
  exact ⟨rfl, hd⟩
theorem first_no {L : List Int} (h : loadSum L < 0) : loadFirst L = -1 := by unfold loadFirst; rw [if_pos h]
theorem first_at {L : List Int} {k : Nat} (h : 0 ≤ loadSum L) (hk : k < L.length) (hp : 40 < (L.take (k + 1)).sum) (hn : ∀ j, j < k → (L.take (j + 1)).sum ≤ 40) : loadFirst L = (k : Int) := by
  have e : firstI (overP L) L.length = (k : Int) := firstI_at hk (by simpa [overP] using hp) (fun j hj => by have := hn j hj; simp [overP]; omega)
  unfold loadFirst; rw [if_neg (by omega), e, if_pos (by omega)]
theorem first_all {L : List Int} (h : 0 ≤ loadSum L) (hn : ∀ j, j < L.length → (L.take (j + 1)).sum ≤ 40) : loadFirst L = (L.length : Int) := by
  have e : firstI (overP L) L.length = -1 := firstI_none (fun j hj => by have := hn j hj; simp [overP]; omega)
  unfold loadFirst; rw [if_neg (by omega), e, if_neg (by omega)]
end Go.Proofs.Ytkigpogamjgngaa
