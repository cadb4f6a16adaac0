/- Small facts on memory that the walks use. No conditions but those that stand at each. -/
import Derived.Below
import Derived.Deep.QuietTactic
import Derived.Deep.Draws
import Derived.Lib.Hide
import Derived.WalkKit
namespace Go.Proofs.Ythmjmlblnikmaaa
open Go.RowKit

theorem bcell {W w1 : World} (hb : Below W.heap.size W w1) : (∀ b o, b < W.heap.size → w1.cell? ⟨b, o, none⟩ = W.cell? ⟨b, o, none⟩) ∧ (∀ b o, b < W.heap.size → w1.frozen? ⟨b, o, none⟩ = W.frozen? ⟨b, o, none⟩) :=
  ⟨fun b o h => hb.cell (p := ⟨b, o, none⟩) h, fun b o h => hb.frozen (p := ⟨b, o, none⟩) h⟩

theorem below_after {w w1 : World} {o : Obj} (hb : Below (w.alloc o).heap.size (w.alloc o) w1) : Below w.heap.size w w1 :=
  ((Below.refl _ _).alloc (Nat.le_refl _) _).trans (hb.mono (by simp))
theorem below_after2 {w w1 : World} {o o' : Obj} (hb : Below ((w.alloc o).alloc o').heap.size ((w.alloc o).alloc o') w1) : Below w.heap.size w w1 :=
  (((Below.refl _ _).alloc (Nat.le_refl _) _).alloc (by simp) _).trans (hb.mono (by simp; omega))
theorem size_after {w w1 : World} {o : Obj} (hb : Below (w.alloc o).heap.size (w.alloc o) w1) : w.heap.size < w1.heap.size := by have := hb.size; simp at this; omega
theorem size_after2 {w w1 : World} {o o' : Obj} (hb : Below ((w.alloc o).alloc o').heap.size ((w.alloc o).alloc o') w1) : w.heap.size + 1 < w1.heap.size := by have := hb.size; simp at this; omega
/-- What a callee leaves of a struct of two cells in a block of ours. -/
theorem cells2 {w w1 : World} {B b : Nat} {x y : Value} {t : TypeId} (hb : Below B w w1) (hlt : b < B) (h : w.heap[b]? = some (.cells #[x, y] t (0, 0))) :
    w1.cell? ⟨b, 0, none⟩ = some x ∧ w1.cell? ⟨b, 1, none⟩ = some y ∧ w1.frozen? ⟨b, 0, none⟩ = false ∧ w1.frozen? ⟨b, 1, none⟩ = false := by
  have h' := (hb.block b hlt).trans h
  refine ⟨?_, ?_, ?_, ?_⟩ <;> simp [World.cell?, World.frozen?, h']
theorem heap_new (w : World) (o : Obj) : (w.alloc o).heap[w.heap.size]? = some o := by
  show (w.heap.push o)[w.heap.size]? = some o
  simp
theorem heap_new2 (w : World) (o o' : Obj) : ((w.alloc o).alloc o').heap[w.heap.size]? = some o := by
  rw [Below.heap_alloc _ _ _ (by simp)]; exact heap_new w o
theorem heap_new2' (w : World) (o o' : Obj) : ((w.alloc o).alloc o').heap[w.heap.size + 1]? = some o' := by
  have := heap_new (w.alloc o) o'; simpa using this
theorem below_drewN {B : Nat} {a w : World} (h : Below B a w) (n : Nat) : Below B a (w.drewN n) := ⟨h.os, h.tape, h.output, h.size, h.block⟩
/-- One call more behind those that were made. -/
theorem stepB {w0 w1 w2 : World} (B : Below w0.heap.size w0 w1) (hb : Below w1.heap.size w1 w2) : Below w0.heap.size w0 w2 := B.trans (hb.mono B.size)
/-- A block of ours that holds a struct of two cells. -/
structure Own2 (w : World) (b : Nat) (x y : Value) : Prop where
  c0 : w.cell? ⟨b, 0, none⟩ = some x
  c1 : w.cell? ⟨b, 1, none⟩ = some y
  f0 : w.frozen? ⟨b, 0, none⟩ = false
  f1 : w.frozen? ⟨b, 1, none⟩ = false
  lt : b < w.heap.size
theorem Own2.call {w w1 : World} {b : Nat} {x y : Value} (h : Own2 w b x y) (hb : Below w.heap.size w w1) : Own2 w1 b x y :=
  ⟨(hb.cell (p := ⟨b, 0, none⟩) h.lt).trans h.c0, (hb.cell (p := ⟨b, 1, none⟩) h.lt).trans h.c1, (hb.frozen (p := ⟨b, 0, none⟩) h.lt).trans h.f0, (hb.frozen (p := ⟨b, 1, none⟩) h.lt).trans h.f1, Nat.lt_of_lt_of_le h.lt hb.size⟩
theorem Own2.new (w : World) (x y : Value) (t : TypeId) : Own2 (w.alloc (.cells #[x, y] t)) w.heap.size x y := by
  have h := heap_new w (.cells #[x, y] t)
  refine ⟨?_, ?_, ?_, ?_, by simp⟩ <;> simp only [World.cell?, World.frozen?, h] <;> simp
theorem Own2.alloc {w : World} {b : Nat} {x y : Value} (h : Own2 w b x y) (o : Obj) : Own2 (w.alloc o) b x y := h.call ((Below.refl _ _).alloc (Nat.le_refl _) o)
theorem Own2.drewN {w : World} {b : Nat} {x y : Value} (h : Own2 w b x y) (n : Nat) : Own2 (w.drewN n) b x y := ⟨h.c0, h.c1, h.f0, h.f1, h.lt⟩
theorem Own2.drew {w : World} {b : Nat} {x y : Value} (h : Own2 w b x y) : Own2 w.drew b x y := ⟨h.c0, h.c1, h.f0, h.f1, h.lt⟩
theorem frozen_setCell (w : World) (p q : Addr) (v : Value) : (w.setCell p v).frozen? q = w.frozen? q := by simp [go_sem]
theorem Own2.set0 {w : World} {b : Nat} {x y : Value} (h : Own2 w b x y) (u : Value) : Own2 (w.setCell ⟨b, 0, none⟩ u) b u y :=
  ⟨World.cell?_setCell_same _ _ _ h.c0, (World.cell?_setCell_other _ _ _ _ (by simp)).trans h.c1, (frozen_setCell _ _ _ _).trans h.f0, (frozen_setCell _ _ _ _).trans h.f1, by simpa [World.setCell] using h.lt⟩
theorem Own2.set1 {w : World} {b : Nat} {x y : Value} (h : Own2 w b x y) (u : Value) : Own2 (w.setCell ⟨b, 1, none⟩ u) b x u :=
  ⟨(World.cell?_setCell_other _ _ _ _ (by simp)).trans h.c0, World.cell?_setCell_same _ _ _ h.c1, (frozen_setCell _ _ _ _).trans h.f0, (frozen_setCell _ _ _ _).trans h.f1, by simpa [World.setCell] using h.lt⟩
theorem Own2.far {w : World} {b : Nat} {x y : Value} (h : Own2 w b x y) {p : Addr} (hp : p.block ≠ b) (u : Value) : Own2 (w.setCell p u) b x y :=
  ⟨(World.cell?_setCell_other _ _ _ _ (fun e => hp (by rw [e]))).trans h.c0, (World.cell?_setCell_other _ _ _ _ (fun e => hp (by rw [e]))).trans h.c1, (frozen_setCell _ _ _ _).trans h.f0, (frozen_setCell _ _ _ _).trans h.f1, by simpa [World.setCell] using h.lt⟩
/-- A struct that came in, boxed. -/
theorem start1 (w : World) (x y : Value) (t : TypeId) : Below w.heap.size w (w.alloc (.cells #[x, y] t)) ∧ Own2 (w.alloc (.cells #[x, y] t)) w.heap.size x y :=
  ⟨(Below.refl _ _).alloc (Nat.le_refl _) _, Own2.new _ _ _ _⟩
/-- .. and room for a result. -/
theorem start2 (w : World) (x y x' y' : Value) (t t' : TypeId) : Below w.heap.size w ((w.alloc (.cells #[x, y] t)).alloc (.cells #[x', y'] t')) ∧
    Own2 ((w.alloc (.cells #[x, y] t)).alloc (.cells #[x', y'] t')) w.heap.size x y ∧ Own2 ((w.alloc (.cells #[x, y] t)).alloc (.cells #[x', y'] t')) (w.heap.size + 1) x' y' := by
  refine ⟨((Below.refl _ _).alloc (Nat.le_refl _) _).alloc (by simp) _, (Own2.new _ _ _ _).alloc _, ?_⟩
  have := Own2.new (w.alloc (.cells #[x, y] t)) x' y' t'
  simpa using this
theorem quiet_left {P : Program} {f : FuncId} {args : Array Value} {w : World} {n : Nat} {v : Value}
    (h : Calls P f args (w.drewN n) fun e w' => e = .returned v ∧ w.drewN n = w') : Calls P f args (w.drewN n) fun e w'' => e = .returned v ∧ ∃ m, w'' = w.drewN m :=
  h.mono fun _ _ ⟨he, hm⟩ => ⟨he, n, hm.symm⟩
end Go.Proofs.Ythmjmlblnikmaaa
