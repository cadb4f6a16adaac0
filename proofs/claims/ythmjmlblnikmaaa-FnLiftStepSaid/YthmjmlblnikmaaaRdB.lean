/- What stays of memory while the reader of the draws reads on: small facts. No conditions but those that stand at each. -/
import Derived.Test.YthmjmlblnikmaaaRdr
import Derived.Maps.AppendAt
import Derived.Deep.AppendLies
import Derived.OwnWalk
namespace Go.Proofs.Ythmjmlblnikmaaa
open Go.RowKit Pl

theorem Rd.mono {w : World} {R q q' : Nat} (h : Rd w R q) (hq : q ≤ q') : Rd w R q' := by
  obtain ⟨A, m, c, p, bs, r0, r1, f0, f1, hlt, hm, hp, hb, hA⟩ := h
  exact ⟨A, m, c, p, bs, r0, r1, f0, f1, hlt, hm, by omega, hb, hA⟩
theorem Rd.lt {w : World} {R q : Nat} (h : Rd w R q) : R < w.heap.size := by
  obtain ⟨A, m, c, p, bs, r0, r1, f0, f1, hlt, _⟩ := h
  exact hlt
/-- The reader in a world that has all blocks up to it as they were. -/
theorem Rd.of {w w' : World} {R q : Nat} (h : Rd w R q) (hb : ∀ k, k ≤ R → w'.heap[k]? = w.heap[k]?) : Rd w' R q := by
  obtain ⟨A, m, c, p, bs, r0, r1, f0, f1, hlt, hm, hp, hbs, hA⟩ := h
  have e := hb R (Nat.le_refl _)
  have hlt' : R < w'.heap.size := by
    rcases Nat.lt_or_ge R w'.heap.size with h | h
    · exact h
    · rw [Array.getElem?_eq_none h, Array.getElem?_eq_getElem hlt] at e; cases e
  refine ⟨A, m, c, p, bs, (World.cell?_of_block e).trans r0, (World.cell?_of_block e).trans r1, (World.frozen?_of_block e).trans f0, (World.frozen?_of_block e).trans f1, hlt', hm, hp, hbs, fun h0 => ?_⟩
  obtain ⟨ad, ea, hbl, hc⟩ := hA h0
  exact ⟨ad, ea, hbl, fun j hj => (World.cell?_of_block (hb _ (by rw [blk_add]; omega))).trans (hc j hj)⟩
theorem Rd.alloc {w : World} {R q : Nat} (h : Rd w R q) (o : Obj) : Rd (w.alloc o) R q :=
  h.of fun k hk => Below.heap_alloc w o k (by have := h.lt; omega)
theorem Rd.set {w : World} {R q : Nat} (h : Rd w R q) {p : Addr} (hp : R < p.block) (v : Value) : Rd (w.setCell p v) R q :=
  h.of fun k hk => Below.heap_setCell w p v k (by omega)
theorem Rd.drewN {w : World} {R q : Nat} (h : Rd w R q) (n : Nat) : Rd (w.drewN n) R q := h.of fun _ _ => rfl
theorem Rd.drew {w : World} {R q : Nat} (h : Rd w R q) : Rd w.drew R q := h.of fun _ _ => rfl
theorem Rd.below {w w' : World} {R q : Nat} (h : Rd w R q) (hb : Below w.heap.size w w') : Rd w' R q :=
  h.of fun k hk => hb.block k (by have := h.lt; omega)
theorem Rd.far {w w' : World} {R q b : Nat} (h : Rd w R q) (hg : w.grownBy w' (some b)) (hb : R < b) : Rd w' R q :=
  h.of fun k hk => hg.block k (by have := h.lt; omega) (by intro e; cases e; omega)
theorem Rd.far' {w w' : World} {R q : Nat} {row : Option Nat} (h : Rd w R q) (hg : w.grownBy w' row) (hb : ∀ k, row = some k → R < k) : Rd w' R q :=
  h.of fun k hk => hg.block k (by have := h.lt; omega) (fun e => by have := hb k e.symm; omega)

/-- All blocks below B are as they were, but for that of the reader. -/
structure Gr (R B : Nat) (a w : World) : Prop where
  os : w.os = a.os
  tape : w.tape = a.tape
  output : w.output = a.output
  size : a.heap.size ≤ w.heap.size
  block : ∀ k, k < B → k ≠ R → w.heap[k]? = a.heap[k]?
theorem Gr.refl (R B : Nat) (w : World) : Gr R B w w := ⟨rfl, rfl, rfl, Nat.le_refl _, fun _ _ _ => rfl⟩
theorem Gr.trans {R B : Nat} {a w w' : World} (h : Gr R B a w) (k : Gr R B w w') : Gr R B a w' :=
  ⟨k.os.trans h.os, k.tape.trans h.tape, k.output.trans h.output, Nat.le_trans h.size k.size, fun i hi hn => (k.block i hi hn).trans (h.block i hi hn)⟩
theorem Gr.read {R B : Nat} {a w w' : World} (h : Gr R B a w) (hB : B ≤ w.heap.size) (hg : w.grownBy w' (some R)) : Gr R B a w' :=
  h.trans ⟨hg.os, hg.tape, hg.output, hg.size, fun k hk hn => hg.block k (by omega) (fun e => hn (by cases e; rfl))⟩
theorem Gr.row {R B : Nat} {a w w' : World} {row : Option Nat} (h : Gr R B a w) (hB : B ≤ w.heap.size) (hg : w.grownBy w' row) (hr : ∀ k, row = some k → B ≤ k) : Gr R B a w' :=
  h.trans ⟨hg.os, hg.tape, hg.output, hg.size, fun k hk hn => hg.block k (by omega) (fun e => by have := hr k e.symm; omega)⟩
theorem Gr.alloc {R B : Nat} {a w : World} (h : Gr R B a w) (hB : B ≤ w.heap.size) (o : Obj) : Gr R B a (w.alloc o) :=
  h.trans ⟨rfl, rfl, rfl, by simp, fun k hk hn => Below.heap_alloc w o k (by omega)⟩
theorem Gr.set {R B : Nat} {a w : World} (h : Gr R B a w) {p : Addr} (hp : B ≤ p.block) (v : Value) : Gr R B a (w.setCell p v) :=
  h.trans ⟨rfl, rfl, rfl, by simp [World.setCell], fun k hk hn => Below.heap_setCell w p v k (by omega)⟩
theorem Gr.drewN {R B : Nat} {a w : World} (h : Gr R B a w) (n : Nat) : Gr R B a (w.drewN n) := ⟨h.os, h.tape, h.output, h.size, h.block⟩
theorem Gr.drew {R B : Nat} {a w : World} (h : Gr R B a w) : Gr R B a w.drew := ⟨h.os, h.tape, h.output, h.size, h.block⟩
theorem Gr.below {R B : Nat} {a w w' : World} (h : Gr R B a w) (hB : B ≤ w.heap.size) (hb : Below w.heap.size w w') : Gr R B a w' :=
  h.trans ⟨hb.os, hb.tape, hb.output, hb.size, fun k hk hn => hb.block k (by omega)⟩
theorem Gr.grown {R : Nat} {a w : World} (h : Gr R a.heap.size a w) : a.grownBy w (some R) :=
  ⟨h.os, h.tape, h.output, h.size, fun k hk hn => h.block k hk (fun e => hn (by rw [e]))⟩
/-- The reader was made behind B0: what was there ahead of it is as it was. -/
theorem below_read {w0 w w' : World} {R : Nat} (B : Below w0.heap.size w0 w) (hR : w0.heap.size ≤ R) (hg : w.grownBy w' (some R)) : Below w0.heap.size w0 w' :=
  ⟨hg.os.trans B.os, hg.tape.trans B.tape, hg.output.trans B.output, Nat.le_trans B.size hg.size, fun k hk => (hg.block k (Nat.lt_of_lt_of_le hk B.size) (by intro e; cases e; omega)).trans (B.block k hk)⟩
theorem Own2.read {w w' : World} {b R : Nat} {x y : Value} (h : Own2 w b x y) (hg : w.grownBy w' (some R)) (hn : b ≠ R) : Own2 w' b x y := by
  have e := hg.block b h.lt (by intro e; cases e; exact hn rfl)
  exact ⟨(World.cell?_of_block e).trans h.c0, (World.cell?_of_block e).trans h.c1, (World.frozen?_of_block e).trans h.f0, (World.frozen?_of_block e).trans h.f1, Nat.lt_of_lt_of_le h.lt hg.size⟩
/-- A slice whose block is not the reader's. -/
def SlR (w : World) (R : Nat) (A : Option Addr) (n : Nat) (L : List Int) : Prop :=
  L.length = n ∧ (0 < n → ∃ b o : Nat, A = some ⟨b, o, none⟩ ∧ R < b ∧ b < w.heap.size ∧ ∀ j, j < n → w.cell? ⟨b, o + j, none⟩ = some (.int .i64 (nth L j)))
theorem SlR.sl {w : World} {R : Nat} {A : Option Addr} {n : Nat} {L : List Int} (h : SlR w R A n L) : Sl w A n L :=
  ⟨h.1, fun hn => by obtain ⟨b, o, e, _, hlt, hc⟩ := h.2 hn; exact ⟨b, o, e, hlt, hc⟩⟩
theorem SlR.read {w w' : World} {R : Nat} {A : Option Addr} {n : Nat} {L : List Int} (h : SlR w R A n L) (hg : w.grownBy w' (some R)) : SlR w' R A n L :=
  ⟨h.1, fun hn => by
    obtain ⟨b, o, e, hR, hlt, hc⟩ := h.2 hn
    exact ⟨b, o, e, hR, Nat.lt_of_lt_of_le hlt hg.size, fun j hj => (World.cell?_of_block (hg.block b hlt (by intro e; cases e; omega))).trans (hc j hj)⟩⟩
theorem SlR.call {w w' : World} {R : Nat} {A : Option Addr} {n : Nat} {L : List Int} (h : SlR w R A n L) (hb : Below w.heap.size w w') : SlR w' R A n L :=
  ⟨h.1, fun hn => by
    obtain ⟨b, o, e, hR, hlt, hc⟩ := h.2 hn
    exact ⟨b, o, e, hR, Nat.lt_of_lt_of_le hlt hb.size, fun j hj => (hb.cell (p := ⟨b, o + j, none⟩) hlt).trans (hc j hj)⟩⟩
theorem SlR.nil (w : World) (R : Nat) (A : Option Addr) : SlR w R A 0 [] := ⟨rfl, fun h => absurd h (by omega)⟩
/-- A slice of ours, made by 'append', read as a list of integers. -/
theorem slR_of_row {w : World} {R base : Nat} {e : TypeId} {v : Value} {n : Nat} {L : List Int} (h : w.ownsRow base e 1 v n (L.map (Value.int .i64))) (hR : R < base) :
    ∃ A c, v = .slice A n c ∧ n ≤ c ∧ SlR w R A n L := by
  have hl : L.length = n := by have := h.1; simpa using this
  rcases h.2 with ⟨rfl, rfl⟩ | ⟨g, cap, cur, rfl, hb, hg, hnc, _, _, ht⟩
  · obtain rfl : L = [] := List.eq_nil_of_length_eq_zero hl
    exact ⟨none, 0, rfl, Nat.le_refl _, SlR.nil _ _ _⟩
  · refine ⟨_, cap, rfl, hnc, hl, fun _ => ⟨g, 0, rfl, by omega, ?_, fun j hj => ?_⟩⟩
    · rcases Nat.lt_or_ge g w.heap.size with h | h
      · exact h
      · rw [Array.getElem?_eq_none h] at hg; cases hg
    · rw [cell_of_row w g (0 + j) cur e (0, 0) hg, Nat.zero_add]
      have e1 : (cur.toList.take (n * 1))[j]? = (L.map (Value.int .i64))[j]? := by rw [ht]
      rw [List.getElem?_take_of_lt (by omega)] at e1
      rw [← Array.getElem?_toList, e1, List.getElem?_map]
      unfold nth
      rw [List.getD_eq_getElem?_getD]
      have : j < L.length := by omega
      simp [this]
end Go.Proofs.Ythmjmlblnikmaaa
