/- How a slice that came in, opened, is told to the walks. No conditions. -/
import Derived.Test.YthmjmlblnikmaaaFrame
import Derived.Test.YthmjmlblnikmaaaCpy
namespace Go.Proofs.Ythmjmlblnikmaaa
open Go.RowKit Pl
theorem src_of_row {w : World} {a : Option Addr} {len cap : Nat} {zs : List Int} (h : IsRow .i64 w a len cap zs) : Src w a len (zs.take len) := by
  rcases h with ⟨rfl, rfl, rfl, rfl⟩ | ⟨x, rfl, hl, hm, hz, hc, _⟩
  · exact ⟨rfl, fun h => absurd h (by omega)⟩
  · refine ⟨by rw [List.length_take]; omega, fun h0 => ?_⟩
    have hcell : ∀ j, j < len → w.cell? (x.add j) = some (.int .i64 (nth (zs.take len) j)) := fun j hj => by rw [nth_take hj]; exact hc j (by omega)
    have hb := World.block_lt_of_cell? _ _ (hcell 0 h0)
    rw [block_add] at hb
    exact ⟨x, rfl, hb, hcell⟩
theorem row_cap {w : World} {a : Option Addr} {len cap : Nat} {zs : List Int} (h : IsRow .i64 w a len cap zs) : len ≤ 9223372036854775807 := by
  rcases h with ⟨rfl, rfl, rfl, rfl⟩ | ⟨x, rfl, hl, hm, hz, hc, _⟩
  · omega
  · unfold maxLen at hm; omega
end Go.Proofs.Ythmjmlblnikmaaa
