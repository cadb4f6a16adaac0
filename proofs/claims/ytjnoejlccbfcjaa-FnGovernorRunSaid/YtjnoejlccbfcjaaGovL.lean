/- Contract of the laws' hasInt. No conditions but those that stand at it. -/
import Derived.Test.YtjnoejlccbfcjaaGov
namespace Go.Proofs.Ytjnoejlccbfcjaa
open Go.RowKit Pl
set_option maxHeartbeats 1000000 in
theorem c_hasInt (A : Option Addr) (n c : Nat) (L : List Int) (x : Int) (w : World) (hS : Sl w A n L) (hn : n ≤ 2097152) :
    Calls Try.prog 34 #[.slice A n c, .int .i64 x] w (Quiet w (.bool (hasI L x))) := by
  have hl := hS.1
  have HL := Lib.hid hl; clear hl
  go_enter Try.func34, Try.ntmps34
  go_wp2
  go_loop [5] (fun s => ∃ k : Nat, k ≤ n ∧ s = .int .i64 (k : Int) ∧ ∀ j, j < k → nth L j ≠ x) (fun s => n - (intOf s).toNat)
  case atStart => exact ⟨0, by omega, rfl, fun j hj => by omega⟩
  case round =>
    obtain ⟨k, hk, rfl, ha⟩ := hrel
    have HA := Lib.hid ha; clear ha
    by_cases hlt : k < n
    · obtain ⟨b, o, rfl, hbl, hc⟩ := hS.2 (by omega)
      have ck := hc k hlt
      clear hc
      have i1 : (k : Int) < (n : Int) := by omega
      by_cases he : nth L k = x
      · have hz := hasI_at (L := L) (k := k) (by rw [HL.out]; exact hlt) he
        have e1 : (nth L k == x) = true := by simp [he]
        have HZ := Lib.hid hz; clear hz he
        go_wp2
        go_ret
        exact ⟨ret_bool (by rw [HZ.out]), DN.refl _⟩
      · have e1 : (nth L k == x) = false := by simp [he]
        have HE := Lib.hid he; clear he
        go_wp2
        go_round
        case rel => exact ⟨k + 1, by omega, by go_num, fun j hj => by
          by_cases e : j = k
          · rw [e]; exact HE.out
          · exact HA.out j (by omega)⟩
        case measure => simp [intOf]; omega
    · obtain rfl : n = k := by omega
      have hz := hasI_no (L := L) (x := x) (by rw [HL.out]; exact HA.out)
      have HZ := Lib.hid hz; clear hz
      go_wp2
      go_ret
      exact ⟨ret_bool (by rw [HZ.out]), DN.refl _⟩
end Go.Proofs.Ytjnoejlccbfcjaa
