/- How a code (a slice of bytes) that came in is told to the walks. No conditions. -/
import Derived.Test.YthmjmlblnikmaaaFrame
import Derived.Test.YthmjmlblnikmaaaRdr
import Derived.Test.YthmjmlblnikmaaaAlv
namespace Go.Proofs.Ythmjmlblnikmaaa
open Go.RowKit Pl
theorem srcB_of_row {w : World} {a : Option Addr} {len cap : Nat} {zs : List Int} (h : IsRow .u8 w a len cap zs) : SrcB w a len zs ∧ len ≤ cap := by
  rcases h with ⟨rfl, rfl, rfl, rfl⟩ | ⟨x, rfl, hl, hm, hz, hc, hw⟩
  · exact ⟨⟨fun j => by simp [nth], fun h => absurd h (by omega)⟩, Nat.le_refl _⟩
  · refine ⟨⟨fun j => ?_, fun h0 => ⟨x, rfl, ?_, fun j hj => hc j (by omega)⟩⟩, hl⟩
    · by_cases hj : j < zs.length
      · have := hw _ (nth_mem hj)
        simp only [Lit.wf, Bool.and_eq_true, decide_eq_true_eq] at this
        have h1 : IntKind.u8.min = 0 := by decide
        have h2 : IntKind.u8.max = 255 := by decide
        omega
      · have : nth zs j = 0 := by unfold nth; rw [List.getD_eq_getElem?_getD, List.getElem?_eq_none (by omega)]; rfl
        omega
    · have hb := World.block_lt_of_cell? _ _ (hc 0 (by omega))
      rw [blk_add] at hb
      exact hb
end Go.Proofs.Ythmjmlblnikmaaa
