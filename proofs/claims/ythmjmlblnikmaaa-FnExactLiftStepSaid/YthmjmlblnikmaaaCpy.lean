/- Contracts of toIntS and eqIntS: a copy of a slice of integers, and two copies compared. No conditions but those that stand at each. -/
import Derived.Test.YthmjmlblnikmaaaSli
import Derived.Deep.OwnRows
import Derived.KernelRfl
namespace Go.Proofs.Ythmjmlblnikmaaa
open Go.RowKit Pl

theorem intInfo : (Try.prog.info? 3).map (fun i => (i.zero, i.size, i.bytes)) = some (some (.int .i64 0), 1, 8) := by kernel_rfl
/-- A slice that came in, at whatever address. -/
def Src (w : World) (A : Option Addr) (n : Nat) (L : List Int) : Prop :=
  L.length = n ∧ (0 < n → ∃ ad : Addr, A = some ad ∧ ad.block < w.heap.size ∧ ∀ j, j < n → w.cell? (ad.add j) = some (.int .i64 (nth L j)))
theorem block_add (a : Addr) (n : Nat) : (a.add n).block = a.block := by unfold Addr.add; split <;> rfl
theorem Src.call {w w1 : World} {A : Option Addr} {n : Nat} {L : List Int} (h : Src w A n L) (hb : Below w.heap.size w w1) : Src w1 A n L :=
  ⟨h.1, fun hn => by
    obtain ⟨ad, e, hlt, hc⟩ := h.2 hn
    exact ⟨ad, e, Nat.lt_of_lt_of_le hlt hb.size, fun j hj => (hb.cell (by rw [block_add]; exact hlt)).trans (hc j hj)⟩⟩
theorem Src.alloc {w : World} {A : Option Addr} {n : Nat} {L : List Int} (h : Src w A n L) (o : Obj) : Src (w.alloc o) A n L := h.call ((Below.refl _ _).alloc (Nat.le_refl _) o)
theorem Src.drewN {w : World} {A : Option Addr} {n : Nat} {L : List Int} (h : Src w A n L) (k : Nat) : Src (w.drewN k) A n L := h
/-- What toIntS leaves: a new slice that reads as the list. -/
def Made (w : World) (n : Nat) (L : List Int) (e : Ending) (w' : World) : Prop :=
  e = .returned (.slice (some ⟨w.heap.size, 0, none⟩) n n) ∧ Sl w' (some ⟨w.heap.size, 0, none⟩) n L ∧ Below w.heap.size w w'
def part (L : List Int) (k : Nat) : Nat → Value := fun j => if j < k then .int .i64 (nth L j) else .int .i64 0
theorem part_set {w : World} {b : Nat} {t : TypeId} {n : Nat} {L : List Int} {k : Nat} (h : w.rowIs b t n (part L k)) : (w.setCell ⟨b, k, none⟩ (.int .i64 (nth L k))).rowIs b t n (part L (k + 1)) :=
  (h.set k _).congr fun j _ => by
    unfold part
    by_cases e : j = k
    · subst e; simp
    · rw [if_neg e]
      by_cases hlt : j < k
      · rw [if_pos hlt, if_pos (by omega)]
      · rw [if_neg hlt, if_neg (by omega)]
theorem sl_of_row {w : World} {b : Nat} {t : TypeId} {n : Nat} {L : List Int} (hl : L.length = n) (h : w.rowIs b t n (part L n)) : Sl w (some ⟨b, 0, none⟩) n L :=
  ⟨hl, fun _ => ⟨b, 0, rfl, h.lt, fun j hj => by rw [Nat.zero_add, h.cell hj]; unfold part; rw [if_pos hj]⟩⟩
set_option maxHeartbeats 1000000 in
theorem c_toIntS (A : Option Addr) (n c : Nat) (L : List Int) (w : World) (hS : Src w A n L) (hn : n ≤ 2097152) :
    Calls Try.prog 25 #[.slice A n c] w (Made w n L) := by
  have hmk := run_make_row' (P := Try.prog) 23 3 (.int .i64 0) 8 Try.underlying23 intInfo rfl .i64 .i64 n (by omega) (by omega)
  have hl := hS.1
  have HL := Lib.hid hl; clear hl
  go_enter Try.func25, Try.ntmps25
  go_wp2
  clear hmk
  go_loopw [4] (fun s wr => ∃ k : Nat, k ≤ n ∧ s = .int .i64 (k : Int) ∧ Below w.heap.size w wr ∧ wr.rowIs w.heap.size 3 n (part L k)) (fun s _ => n - (intOf s).toNat)
  case atStart => exact ⟨0, by omega, rfl, (Below.refl _ _).alloc (Nat.le_refl _) _, (World.rowIs_made w _ n 3).congr (fun j _ => by simp [part])⟩
  case round =>
    obtain ⟨k, hk, rfl, B, hr⟩ := hrel
    by_cases hlt : k < n
    · obtain ⟨ad, rfl, hbl, hc⟩ := hS.2 (by omega)
      have ck : wr.cell? (ad.add k) = some (.int .i64 (nth L k)) := (B.cell (by rw [block_add]; exact hbl)).trans (hc k hlt)
      have i1 : (k : Int) < (n : Int) := by omega
      have t1 := hr.cell hlt
      have t2 := hr.frozen k
      have HR := Lib.hid hr; clear hr hc
      go_wp2
      go_roundw
      case rel => exact ⟨k + 1, by omega, by go_num, B.setCell (Nat.le_refl _) _, part_set HR.out⟩
      case measure => simp [intOf]; omega
    · obtain rfl : n = k := by omega
      have HR := Lib.hid hr; clear hr
      go_wp2
      go_ret
      exact ⟨rfl, sl_of_row HL.out HR.out, B⟩
set_option maxHeartbeats 1000000 in
theorem c_eqIntS (A A' : Option Addr) (n c c' : Nat) (L : List Int) (w : World) (hS : Sl w A n L) (hT : Sl w A' n L) (hn : n ≤ 2097152) :
    Calls Try.prog 27 #[.slice A n c, .slice A' n c'] w (Quiet w (.bool true)) := by
  have e0 : ((n : Int) != (n : Int)) = false := by simp
  go_enter Try.func27, Try.ntmps27
  go_wp2
  clear e0
  go_loopw [5] (fun s wr => ∃ k : Nat, k ≤ n ∧ s = .int .i64 (k : Int) ∧ DN w wr) (fun s _ => n - (intOf s).toNat)
  case atStart => exact ⟨0, by omega, rfl, DN.refl _⟩
  case round =>
    obtain ⟨k, hk, rfl, hd⟩ := hrel
    by_cases hlt : k < n
    · obtain ⟨b, o, rfl, hbl, hc⟩ := hS.2 (by omega)
      obtain ⟨b', o', rfl, hbl', hc'⟩ := hT.2 (by omega)
      have ck : wr.cell? ⟨b, o + k, none⟩ = some (.int .i64 (nth L k)) := (hd.cell _).trans (hc k hlt)
      have ck' : wr.cell? ⟨b', o' + k, none⟩ = some (.int .i64 (nth L k)) := (hd.cell _).trans (hc' k hlt)
      have i1 : (k : Int) < (n : Int) := by omega
      have e1 : (nth L k != nth L k) = false := by simp
      clear hc hc'
      go_wp2
      go_quiet (fail)
      go_wp2
      go_roundw
      case rel => exact ⟨k + 1, by omega, by go_num, hd.more _⟩
      case measure => simp [intOf]; omega
    · obtain rfl : n = k := by omega
      go_wp2
      go_ret
      exact ⟨rfl, hd⟩
end Go.Proofs.Ythmjmlblnikmaaa
