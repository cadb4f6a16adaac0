/- Contracts of the functions that draw lists of numbers, and a target: the reader goes on, and nothing else of what was there is changed. No conditions but those that stand at each. -/
import Derived.Test.YthmjmlblnikmaaaRdB
import Derived.Lib.SmallJoins
import Derived.Deep.RegionWith
import Derived.KernelRfl
import Derived.Outline
namespace Go.Proofs.Ythmjmlblnikmaaa
open Go.RowKit Go.Joins Pl
theorem row_read {w w' : World} {R base : Nat} {e : TypeId} {size : Nat} {v : Value} {n : Nat} {xs : List Value} (h : w.ownsRow base e size v n xs) (hg : w.grownBy w' (some R)) (hR : R < base) : w'.ownsRow base e size v n xs := by
  refine ⟨h.1, ?_⟩
  rcases h.2 with h | ⟨g, cap, cur, hv, hb, hc, hr⟩
  · exact .inl h
  · refine .inr ⟨g, cap, cur, hv, hb, ?_, hr⟩
    have hlt : g < w.heap.size := by
      rcases Nat.lt_or_ge g w.heap.size with h | h
      · exact h
      · rw [Array.getElem?_eq_none h] at hc; cases hc
    rw [hg.block g hlt (by intro e; cases e; omega)]; exact hc
theorem own_ge {w : World} {base : Nat} {e : TypeId} {size : Nat} {v : Value} {n : Nat} {xs : List Value} (h : w.ownsRow base e size v n xs) : ∀ k, v.ownBlock = some k → base ≤ k := fun k hk => (h.lt k hk).1
theorem intInfo' : (Try.prog.info? 3).map (fun i => (i.zero, i.size, i.bytes)) = some (some (.int .i64 0), 1, 8) := by kernel_rfl
/-- A list was drawn, of at most m numbers in lo .. hi. -/
def DrawnL (w : World) (R q m : Nat) (lo hi : Int) (e : Ending) (w' : World) : Prop :=
  ∃ (A : Option Addr) (n c : Nat) (L : List Int), n ≤ m ∧ e = .returned (.slice A n c) ∧ n ≤ c ∧ SlR w' R A n L ∧ (∀ x ∈ L, lo ≤ x ∧ x ≤ hi) ∧ Rd w' R q ∧ w.grownBy w' (some R)
theorem drawnL_end {w wr : World} {R q q' m base : Nat} {lo hi : Int} {v : Value} {L : List Int} {t : TypeId} (ho : wr.ownsRow base t 1 v L.length (L.map (Value.int .i64))) (hb : R < base) (hm : L.length ≤ m) (hL : ∀ x ∈ L, lo ≤ x ∧ x ≤ hi)
    (RD : Rd wr R q) (hq : q ≤ q') (G : Gr R w.heap.size w wr) : DrawnL w R q' m lo hi (.returned v) wr := by
  obtain ⟨A, c, rfl, hc, hs⟩ := slR_of_row ho hb
  exact ⟨A, _, c, L, hm, rfl, hc, hs, hL, RD.mono hq, G.grown⟩
theorem all_snoc {L : List Int} {x lo hi : Int} (h : ∀ y ∈ L, lo ≤ y ∧ y ≤ hi) (h1 : lo ≤ x) (h2 : x ≤ hi) : ∀ y ∈ L ++ [x], lo ≤ y ∧ y ≤ hi := by
  intro y hy
  rcases List.mem_append.1 hy with h' | h'
  · exact h y h'
  · rw [List.mem_singleton.1 h']; exact ⟨h1, h2⟩
theorem row_snoc {w : World} {base : Nat} {t : TypeId} {v : Value} {L : List Int} {x : Int} (h : w.ownsRow base t 1 v (L.length + 1) (L.map (Value.int .i64) ++ [.int .i64 x])) : w.ownsRow base t 1 v (L ++ [x]).length ((L ++ [x]).map (Value.int .i64)) := by
  rw [List.map_append, List.length_append]; exact h
theorem nine_at {w : World} {b : Nat} {t : TypeId} {y : Int} (h : w.heap[b]? = some (.cells #[.int .i64 0, .int .i64 0, .int .i64 3, .int .i64 (-4), .int .i64 5, .int .i64 6, .int .i64 (-6), .int .i64 7, .int .i64 (-9)] t)) (h1 : 0 ≤ y) (h2 : y ≤ 8) :
    ∃ z : Int, w.cell? ⟨b, y.toNat, none⟩ = some (.int .i64 z) ∧ -9 ≤ z ∧ z ≤ 9 := by
  have hy : y = 0 ∨ y = 1 ∨ y = 2 ∨ y = 3 ∨ y = 4 ∨ y = 5 ∨ y = 6 ∨ y = 7 ∨ y = 8 := by omega
  rw [cell_of_row _ _ _ _ _ _ h]
  rcases hy with rfl | rfl | rfl | rfl | rfl | rfl | rfl | rfl | rfl
  · exact ⟨0, rfl, by omega, by omega⟩
  · exact ⟨0, rfl, by omega, by omega⟩
  · exact ⟨3, rfl, by omega, by omega⟩
  · exact ⟨-4, rfl, by omega, by omega⟩
  · exact ⟨5, rfl, by omega, by omega⟩
  · exact ⟨6, rfl, by omega, by omega⟩
  · exact ⟨-6, rfl, by omega, by omega⟩
  · exact ⟨7, rfl, by omega, by omega⟩
  · exact ⟨-9, rfl, by omega, by omega⟩
/-- A number was drawn. -/
def DrawnI (w : World) (R q : Nat) (lo hi : Int) (e : Ending) (w' : World) : Prop :=
  ∃ x : Int, lo ≤ x ∧ x ≤ hi ∧ e = .returned (.int .i64 x) ∧ Rd w' R q ∧ w.grownBy w' (some R)
end Go.Proofs.Ythmjmlblnikmaaa
