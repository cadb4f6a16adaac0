/- Contracts of the functions that draw a law's arguments out of a code: some arguments within narrow bounds, and all memory that was there is as it was. No conditions but those that stand at each. -/
import Derived.Test.YthmjmlblnikmaaaDrM
import Derived.Test.YthmjmlblnikmaaaDrT
namespace Go.Proofs.Ythmjmlblnikmaaa
open Go.RowKit Go.Joins Pl
theorem SrcB.call {w w' : World} {A : Option Addr} {m : Nat} {bs : List Int} (h : SrcB w A m bs) (hb : Below w.heap.size w w') : SrcB w' A m bs :=
  ⟨h.1, fun h0 => by
    obtain ⟨ad, e, hlt, hc⟩ := h.2 h0
    exact ⟨ad, e, Nat.lt_of_lt_of_le hlt hb.size, fun j hj => (hb.cell (by rw [blk_add]; exact hlt)).trans (hc j hj)⟩⟩
theorem SrcB.alloc {w : World} {A : Option Addr} {m : Nat} {bs : List Int} (h : SrcB w A m bs) (o : Obj) : SrcB (w.alloc o) A m bs := h.call ((Below.refl _ _).alloc (Nat.le_refl _) o)
theorem SlR.put {w : World} {R : Nat} {A : Option Addr} {n : Nat} {L : List Int} (h : SlR w R A n L) {p : Addr} (hp : p.block ≤ R) (v : Value) : SlR (w.setCell p v) R A n L :=
  ⟨h.1, fun hn => by
    obtain ⟨b, o, e, hR, hlt, hc⟩ := h.2 hn
    exact ⟨b, o, e, hR, by simpa [World.setCell] using hlt, fun j hj => (World.cell?_setCell_other _ _ _ _ (fun h => by have := congrArg Addr.block h; simp at this; omega)).trans (hc j hj)⟩⟩
theorem c_openR (A : Option Addr) (m c : Nat) (bs : List Int) (w : World) (hS : SrcB w A m bs) (hm : m ≤ 2097152) (hmc : m ≤ c) (R : Nat) (hH : w.heap.size = R) :
    Calls Try.prog 29 #[.slice A m c] w fun e w' => e = .returned (.pointer (some ⟨R, 0, none⟩)) ∧ Rd w' R 0 ∧ Below w.heap.size w w' := by
  subst hH; exact c_open A m c bs w hS hm hmc
/-- A car was drawn out of a code. -/
def GotM (w : World) (e : Ending) (w' : World) : Prop :=
  ∃ a v : Int, (-1 ≤ a ∧ a ≤ 61) ∧ (-6 ≤ v ∧ v ≤ 6) ∧ e = .returned (.agg #[.int .i64 a, .int .i64 v]) ∧ Below w.heap.size w w'
/-- A door was drawn out of a code. -/
def GotD (w : World) (e : Ending) (w' : World) : Prop :=
  ∃ a v : Int, (-1 ≤ a ∧ a ≤ 5) ∧ (-1 ≤ v ∧ v ≤ 4) ∧ e = .returned (.agg #[.int .i64 a, .int .i64 v]) ∧ Below w.heap.size w w'
/-- A number was drawn out of a code. -/
def GotI (lo hi : Int) (w : World) (e : Ending) (w' : World) : Prop := ∃ x : Int, lo ≤ x ∧ x ≤ hi ∧ e = .returned (.int .i64 x) ∧ Below w.heap.size w w'
/-- A door and two bools were drawn out of a code. -/
def GotDS (w : World) (e : Ending) (w' : World) : Prop :=
  ∃ (a v : Int) (p q : Bool), (-1 ≤ a ∧ a ≤ 5) ∧ (-1 ≤ v ∧ v ≤ 4) ∧ e = .returned (.tuple #[.agg #[.int .i64 a, .int .i64 v], .bool p, .bool q]) ∧ Below w.heap.size w w'
/-- A bool and two lists were drawn out of a code. -/
def GotGR (w : World) (e : Ending) (w' : World) : Prop :=
  ∃ (p : Bool) (A : Option Addr) (n c : Nat) (L : List Int) (A' : Option Addr) (n' c' : Nat) (L' : List Int), n ≤ 15 ∧ n' ≤ 4 ∧ Sl w' A n L ∧ Sl w' A' n' L' ∧ (∀ x ∈ L, -9 ≤ x ∧ x ≤ 9) ∧ e = .returned (.tuple #[.bool p, .slice A n c, .slice A' n' c']) ∧ Below w.heap.size w w'
/-- A door, a number and two lists were drawn out of a code. -/
def GotDR (w : World) (e : Ending) (w' : World) : Prop :=
  ∃ (a v t : Int) (A : Option Addr) (n c : Nat) (L : List Int) (A' : Option Addr) (n' c' : Nat) (L' : List Int), n ≤ 4 ∧ n' ≤ 4 ∧ Sl w' A n L ∧ Sl w' A' n' L' ∧ (∀ x ∈ L, 0 ≤ x ∧ x ≤ 19) ∧ (∀ x ∈ L', 0 ≤ x ∧ x ≤ 19) ∧ (-1 ≤ a ∧ a ≤ 5) ∧ (-1 ≤ v ∧ v ≤ 4) ∧ (-30 ≤ t ∧ t ≤ 103) ∧
    e = .returned (.tuple #[.agg #[.int .i64 a, .int .i64 v], .int .i64 t, .slice A n c, .slice A' n' c']) ∧ Below w.heap.size w w'
/-- A car and a target were drawn out of a code. -/
def GotMT (w : World) (e : Ending) (w' : World) : Prop :=
  ∃ a v t : Int, (-1 ≤ a ∧ a ≤ 61) ∧ (-6 ≤ v ∧ v ≤ 6) ∧ (-61 ≤ t ∧ t ≤ 60) ∧ e = .returned (.tuple #[.agg #[.int .i64 a, .int .i64 v], .int .i64 t]) ∧ Below w.heap.size w w'
end Go.Proofs.Ythmjmlblnikmaaa
