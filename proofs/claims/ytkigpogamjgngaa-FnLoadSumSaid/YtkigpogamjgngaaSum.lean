/- Contract of the laws' sumOf. No conditions but those that stand at it. -/
import Derived.Test.YtkigpogamjgngaaSli
namespace Go.Proofs.Ytkigpogamjgngaa
open Go.RowKit Pl
theorem sum_take_bd {L : List Int} (h : ∀ x ∈ L, 0 ≤ x ∧ x ≤ 41) : ∀ k, 0 ≤ (L.take k).sum ∧ (L.take k).sum ≤ 41 * (k : Int) := by
  intro k
  induction k with
  | zero => simp
  | succ k ih =>
    by_cases hk : k < L.length
    · rw [List.take_succ_eq_append_getElem hk, List.sum_append]
      have := h _ (List.getElem_mem hk)
      simp only [List.sum_cons, List.sum_nil]
      omega
    · rw [List.take_of_length_le (by omega)]
      rw [List.take_of_length_le (by omega)] at ih
      omega
theorem sum_take_snoc {L : List Int} {k : Nat} (hk : k < L.length) : (L.take (k + 1)).sum = (L.take k).sum + nth L k := by
  rw [List.take_succ_eq_append_getElem hk, List.sum_append]
  simp [nth, hk]
set_option maxHeartbeats 1000000 in
theorem c_sumOf (A : Option Addr) (n c : Nat) (L : List Int) (w : World) (hS : Sl w A n L) (hn : n ≤ 1000) (hL : ∀ x ∈ L, 0 ≤ x ∧ x ≤ 41) :
    Calls Try.prog 24 #[.slice A n c] w (Quiet w (.int .i64 L.sum)) := by
  have hl := hS.1
  have HL := Lib.hid hl; clear hl
  have HB := Lib.hid hL; clear hL
  go_enter Try.func24, Try.ntmps24
  go_wp2
  go_loopw [3, 4] (fun s3 s4 wr => ∃ k : Nat, k ≤ n ∧ s4 = .int .i64 (k : Int) ∧ s3 = .int .i64 (L.take k).sum ∧ DN w wr) (fun _ s4 _ => n - (intOf s4).toNat)
  case atStart => exact ⟨0, by omega, rfl, rfl, DN.refl _⟩
  case round =>
    obtain ⟨k, hk, rfl, rfl, hd⟩ := hrel
    obtain ⟨s1, s2⟩ := sum_take_bd HB.out k
    by_cases hlt : k < n
    · obtain ⟨b, o, rfl, hbl, hc⟩ := hS.2 (by omega)
      have ck : wr.cell? ⟨b, o + k, none⟩ = some (.int .i64 (nth L k)) := (hd.cell _).trans (hc k hlt)
      have i1 : (k : Int) < (n : Int) := by omega
      obtain ⟨z1, z2⟩ := HB.out _ (nth_mem (L := L) (i := k) (by rw [HL.out]; exact hlt))
      have hnx := sum_take_snoc (L := L) (k := k) (by rw [HL.out]; exact hlt)
      have HN := Lib.hid hnx; clear hnx hc
      obtain ⟨s, hs⟩ : ∃ s, (L.take k).sum = s := ⟨_, rfl⟩
      rw [hs] at s1 s2 HN ⊢
      clear hs
      go_wp2
      go_roundw
      case rel => exact ⟨k + 1, by omega, by go_num, by rw [HN.out], hd⟩
      case measure => simp [intOf]; omega
    · obtain rfl : n = k := by omega
      have hz : (L.take n).sum = L.sum := by rw [List.take_of_length_le (by rw [HL.out]; omega)]
      have HZ := Lib.hid hz; clear hz
      go_wp2
      go_ret
      exact ⟨ret_int HZ.out, hd⟩
end Go.Proofs.Ytkigpogamjgngaa
