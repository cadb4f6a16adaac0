/- FnExactTripWork returns true for all arguments: the program's TripWork and the reference's return the same, and leave their slices as they were. No conditions. -/
import Derived.Test.YtgmcbobmihhjgaaFrame
import Derived.Test.YtgmcbobmihhjgaaRow
import Derived.Test.YtgmcbobmihhjgaaCpy
import Derived.Test.YtgmcbobmihhjgaaTou
namespace Go.Proofs.Ytgmcbobmihhjgaa
open Go.ChangeShapes Go.WideShapes Go.ChangeAt Go.RowKit Go.Joins Pl
theorem walk_FnExactTripWork (a0 : Option Addr) (len0 cap0 : Nat) (z0 : List Int) (a1 : Int) (_ : (Lit.int .i64 a1).wf = true) (a2 : Int) (_ : (Lit.int .i64 a2).wf = true) (a3 : Int) (_ : (Lit.int .i64 a3).wf = true) (w : World) (h0 : IsRow .i64 w a0 len0 cap0 z0) :
    Calls Try.prog 10 #[.slice a0 len0 cap0, .int .i64 a1, .int .i64 a2, .int .i64 a3] w fun e w' => e = .returned (.bool true) ∧ Below w.heap.size w w' := by
  have src0 := src_of_row h0
  have hc0 := row_cap h0
  obtain ⟨L0, hL0⟩ : ∃ L, z0.take len0 = L := ⟨_, rfl⟩
  rw [hL0] at src0
  clear hL0 h0
  by_cases hbig0 : 1048576 < len0
  · go_enter Try.func10, Try.ntmps10
    go_wp2
    go_ret
    exact ⟨rfl, Below.refl _ _⟩
  obtain ⟨g, hg⟩ : ∃ g, tripOk L0 a1 a2 a3 = g := ⟨_, rfl⟩
  have HG := Lib.hid hg; clear hg
  cases g
  all_goals
    have B0 := Below.refl w.heap.size w
    go_enter Try.func10, Try.ntmps10
    go_wp2_with fail
    refine (c_toIntS _ _ _ _ _ (src0.call B0) (by omega)).mono ?_
    rintro e w1 ⟨rfl, s0, hb1⟩
    have B1 := stepB B0 hb1
    go_wp2_with fail
    refine (c_twS _ _ _ _ _ _ _ _ s0 (by omega)).mono ?_
    rintro e w2 ⟨rfl, dd2⟩
    rw [HG.out]
    have hb2 := dd2.below
    have B2 := stepB B1 hb2
    go_wp2_with fail
    refine (c_toIntS _ _ _ _ _ (src0.call B2) (by omega)).mono ?_
    rintro e w3 ⟨rfl, x0, hb3⟩
    have B3 := stepB B2 hb3
    go_wp2_with fail
    refine (c_twI _ _ _ _ _ _ _ _ x0 (by omega)).mono ?_
    rintro e w4 ⟨rfl, dd4⟩
    rw [HG.out]
    have hb4 := dd4.below
    have B4 := stepB B3 hb4
    go_wp2_with fail
    refine (c_toIntS _ _ _ _ _ (src0.call B4) (by omega)).mono ?_
    rintro e w5 ⟨rfl, y0, hb5⟩
    have B5 := stepB B4 hb5
    go_wp2_with fail
    refine (c_eqIntS _ _ _ _ _ _ _ (x0.call (stepB hb4 hb5)) y0 (by omega)).mono ?_
    rintro e w6 ⟨rfl, dd6⟩
    have hb6 := dd6.below
    have B6 := stepB B5 hb6
    go_wp2
    go_ret
    exact ⟨rfl, B6⟩
namespace fnExactTripWork
set_option linter.unusedVariables false
set_option maxRecDepth 100000 in
theorem lifted (os : Os) (started : os.Started) (H : Type) (enc : TypeId × Value → H) :
    ReturnsInHanded {} Try.checked os 10 .any (Rows.fnExactTripWorkSpec.pre6 enc Try.prog Try.f10 Rows.fnExactTripWorkRow.domain false) (Rows.fnExactTripWorkSpec.post enc Try.prog Try.f10 false true false false) := by
  refine returnsInHanded_of_change (C := Try.checked) own started (by kernel_rfl) Try.func10
    (ChangeSpec.witness6 (enc := enc) (C := Try.checked) false ⟨#[], #[.slice none 0 0, .int .i64 0, .int .i64 0, .int .i64 0], []⟩ 8 (by kernel_rfl) (by kernel_rfl) (by kernel_rfl) (by kernel_rfl)) ?_
  intro W base args ds gs before hval0 hW hcnd _
  have hval : ∀ (j : Nat) t v, Try.f10.params[j]? = some t → args[j]? = some v → Value.okWide Try.prog W .any base t v := hval0
  have hW' := hW
  obtain ⟨p, q, hA0, hV, rfl, hfz, hnd⟩ := hW
  have hA : DataW.TrodAll enc Try.prog W 0 (fun _ => true) true Try.f10.params.toList args.toList ds p := hA0
  rw [Try.params10] at hA hval
  obtain ⟨v0, vs0, d0, ds0, p0, q0, hargs, rfl, rfl, h0, r0⟩ := trodAll_cons hA
  obtain ⟨v1, vs1, d1, ds1, p1, q1, rfl, rfl, rfl, h1, r1⟩ := trodAll_cons r0
  obtain ⟨v2, vs2, d2, ds2, p2, q2, rfl, rfl, rfl, h2, r2⟩ := trodAll_cons r1
  obtain ⟨v3, vs3, d3, ds3, p3, q3, rfl, rfl, rfl, h3, r3⟩ := trodAll_cons r2
  obtain ⟨rfl, rfl, rfl⟩ := trodAll_nil r3
  obtain rfl : args = #[v0, v1, v2, v3] := by cases args; simp_all
  obtain ⟨rfl, rfl⟩ := trodVars_none hV
  have k0 := h0
  have lt0 : ∀ x ∈ p0, x.block < W.heap.size := by obtain ⟨m, hm⟩ := k0; exact DataW.trod_lt m _ _ _ hm
  obtain ⟨a0, len0, cap0, rfl⟩ := okWide_slice Try.underlying22 (hval 0 22 v0 rfl rfl)
  obtain ⟨z0, w0⟩ : ∃ zs, IsRow .i64 W a0 len0 cap0 zs := by
    obtain ⟨fuel, hf⟩ := h0
    rcases open_ints Try.underlying22 Try.underlying3 (by kernel_rfl) hf with ⟨hcs, _⟩ | ⟨x, l, c, zs, hcs, _, hl, hm, hz, _, hcell, hwz⟩
    · simp [Value.cells] at hcs
      obtain ⟨rfl, rfl, rfl⟩ := hcs
      exact ⟨[], .inl ⟨rfl, rfl, rfl, rfl⟩⟩
    · simp [Value.cells] at hcs
      obtain ⟨rfl, rfl, rfl⟩ := hcs
      exact ⟨zs, .inr ⟨_, rfl, hl, hm, by simpa using hz, hcell, hwz⟩⟩
  obtain ⟨a1, rfl, rfl, rfl, w1⟩ := open_int Try.underlying3 (hval 1 3 v1 rfl rfl) h1
  obtain ⟨a2, rfl, rfl, rfl, w2⟩ := open_int Try.underlying3 (hval 2 3 v2 rfl rfl) h2
  obtain ⟨a3, rfl, rfl, rfl, w3⟩ := open_int Try.underlying3 (hval 3 3 v3 rfl rfl) h3
  clear hA0 hval0
  refine (walk_FnExactTripWork a0 len0 cap0 z0 a1 w1 a2 w2 a3 w3 W w0).mono fun e W' ⟨he, bel⟩ => ?_
  subst he
  exact ⟨_, rfl, _, _, _, [], _, [], hW', trodAll_mk1 (shut_bool Try.underlying4 _), (trodAll_cons_mk (Below.trod laidOut (by kernel_rfl) (of_decide_eq_true (by kernel_rfl)) k0 bel lt0) (trodAll_cons_mk (shut_int Try.underlying3 w1) (trodAll_cons_mk (shut_int Try.underlying3 w2) (trodAll_cons_mk (shut_int Try.underlying3 w3) trodAll_mk0)))), rfl, bel.frame _, fun h => by cases h⟩
theorem over : Rows.fnExactTripWorkRow.holds Try.pinned (OpenSpec.ofChange Rows.fnExactTripWorkSpec) :=
  OpenClaim.holds_of_wide 10 Try.f10 rfl rfl rfl rfl rfl rfl rfl ⟨rfl, rfl, rfl, rfl, rfl⟩ rfl rfl rfl rfl rfl (by kernel_rfl) Try.func10 (by kernel_rfl)
    (of_decide_eq_true (by kernel_rfl)) (by unfold Func.isWrapper; first | (rw [if_pos (by decide +kernel)]; kernel_rfl) | (rw [if_neg (by decide +kernel)]; exact ⟨rfl, rfl⟩))
    (fun os started H enc _ => lifted os started H enc)
/-- The statement. -/
theorem proved : Rows.FnExactTripWorkSaid := over
end fnExactTripWork
#print axioms fnExactTripWork.proved
end Go.Proofs.Ytgmcbobmihhjgaa
