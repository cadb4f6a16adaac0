/- How a car that came in (a struct of two structs of two integers) is opened. No conditions. -/
import Derived.Test.YthmjmlblnikmaaaFrame
import Derived.Test.YthmjmlblnikmaaaRow
namespace Go.Proofs.Ythmjmlblnikmaaa
open Go.ChangeShapes Go.WideShapes Go.ChangeAt Go.RowKit Go.Joins
theorem cellsL : Try.prog.cellsOf 45 = 4 := by kernel_rfl
theorem cellsM : Try.prog.cellsOf 42 = 2 := by kernel_rfl
theorem cellsD : Try.prog.cellsOf 43 = 2 := by kernel_rfl
theorem cellsI : Try.prog.cellsOf 3 = 1 := by kernel_rfl
theorem four_of {cs : Array Value} (h : cs.size = 4) : ∃ a b c d, cs = #[a, b, c, d] := by
  obtain ⟨l⟩ := cs
  match l, h with
  | [a, b, c, d], _ => exact ⟨a, b, c, d, rfl⟩
theorem open_lift {H : Type} {enc : TypeId × Value → H} {W : World} {base : Nat} {spare : Nat → Bool} {held : Bool} {r : Reach} {b0 : Nat} {v : Value} {d : DataW H} {p : List MemPlace}
    (hv : Value.okWide Try.prog W r b0 45 v) (h : DataW.Trod enc Try.prog W base spare held 45 v d p) :
    ∃ a b c e : Int, v = .agg #[.int .i64 a, .int .i64 b, .int .i64 c, .int .i64 e] ∧ (Lit.int .i64 a).wf = true ∧ (Lit.int .i64 b).wf = true ∧ (Lit.int .i64 c).wf = true ∧ (Lit.int .i64 e).wf = true := by
  obtain ⟨cs, rfl, hsz⟩ := okWide_struct Try.underlying45 hv
  obtain ⟨c0, c1, c2, c3, rfl⟩ := four_of (hsz.trans cellsL)
  obtain ⟨fuel, hf⟩ := h
  obtain ⟨y0, y1, n, hx, _, h0, h1⟩ := trod_struct2 Try.underlying45 hf
  simp only [cellsM, cellsD, Value.cells] at h0 h1
  obtain ⟨z0, z1, n0, _, _, g0, g1⟩ := trod_struct2 Try.underlying42 h0
  obtain ⟨z2, z3, n1, _, _, g2, g3⟩ := trod_struct2 Try.underlying43 h1
  simp only [cellsI] at g0 g1 g2 g3
  obtain ⟨a, ea, rfl, wa⟩ := DataW.trod_int Try.underlying3 g0
  obtain ⟨b, eb, rfl, wb⟩ := DataW.trod_int Try.underlying3 g1
  obtain ⟨c, ec, rfl, wc⟩ := DataW.trod_int Try.underlying3 g2
  obtain ⟨e, ee, rfl, we⟩ := DataW.trod_int Try.underlying3 g3
  simp at ea eb ec ee
  subst ea eb ec ee
  exact ⟨a, b, c, e, rfl, wa, wb, wc, we⟩
end Go.Proofs.Ythmjmlblnikmaaa
