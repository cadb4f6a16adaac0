/- FnExactWithinLimit returns true for all arguments: the program's WithinLimit and the reference's return the same. No conditions. -/
import Derived.Test.YtblmnembkmnakaaFrame
import Derived.Test.YtblmnembkmnakaaWithin
namespace Go.Proofs.Ytblmnembkmnakaa
open Go.ChangeShapes Go.WideShapes Go.ChangeAt Go.RowKit Go.Joins Pl
theorem walk_FnExactWithinLimit (a0 b0 : Int) (_ : (Lit.int .i64 a0).wf = true) (_ : (Lit.int .i64 b0).wf = true) (w : World) :
    Calls Try.prog 12 #[.agg #[.int .i64 a0, .int .i64 b0]] w fun e w' => e = .returned (.bool true) ∧ Below w.heap.size w w' := by
  obtain ⟨B, own⟩ := start1 w (.int .i64 a0) (.int .i64 b0) 31
  have c0 : True := trivial
  have c1 : True := trivial
  obtain ⟨g, hg⟩ : ∃ g, withinL a0 b0 = g := ⟨_, rfl⟩
  have HG := Lib.hid hg; clear hg
  cases g
  all_goals
    go_enter Try.func12, Try.ntmps12
    go_wp2_with (first | (go_at_call 21; refine (c_toMotion _ _ _).mono ?_; rintro e w1 ⟨rfl, hb⟩; have B := stepB B hb; have own := own.call hb; clear c0 c1; have c0 := own.c0; have c1 := own.c1) | (go_at_call 34; refine (c_withS _ _ _).mono ?_; rintro e w1 ⟨rfl, hb⟩; rw [HG.out]; have B := stepB B hb; have own := own.call hb; clear c0 c1; have c0 := own.c0; have c1 := own.c1) | (go_at_call 35; refine (c_withI _ _ _).mono ?_; rintro e w1 ⟨rfl, hb⟩; rw [HG.out]; have B := stepB B hb; have own := own.call hb; clear c0 c1; have c0 := own.c0; have c1 := own.c1))
    go_ret
    exact ⟨rfl, B⟩
namespace fnExactWithinLimit
set_option linter.unusedVariables false
set_option maxRecDepth 100000 in
theorem lifted (os : Os) (started : os.Started) (H : Type) (enc : TypeId × Value → H) :
    ReturnsInHanded {} Try.checked os 12 .any (Rows.fnExactWithinLimitSpec.pre6 enc Try.prog Try.f12 Rows.fnExactWithinLimitRow.domain false) (Rows.fnExactWithinLimitSpec.post enc Try.prog Try.f12 false true false false) := by
  refine returnsInHanded_of_change (C := Try.checked) own started (by kernel_rfl) Try.func12
    (ChangeSpec.witness6 (enc := enc) (C := Try.checked) false ⟨#[], #[.agg #[.int .i64 0, .int .i64 0]], []⟩ 8 (by kernel_rfl) (by kernel_rfl) (by kernel_rfl) (by kernel_rfl)) ?_
  intro W base args ds gs before hval0 hW hcnd _
  have hval : ∀ (j : Nat) t v, Try.f12.params[j]? = some t → args[j]? = some v → Value.okWide Try.prog W .any base t v := hval0
  have hW' := hW
  obtain ⟨p, q, hA0, hV, rfl, hfz, hnd⟩ := hW
  have hA : DataW.TrodAll enc Try.prog W 0 (fun _ => true) true Try.f12.params.toList args.toList ds p := hA0
  rw [Try.params12] at hA hval
  obtain ⟨v0, vs0, d0, ds0, p0, q0, hargs, rfl, rfl, h0, r0⟩ := trodAll_cons hA
  obtain ⟨rfl, rfl, rfl⟩ := trodAll_nil r0
  obtain rfl : args = #[v0] := by cases args; simp_all
  obtain ⟨rfl, rfl⟩ := trodVars_none hV
  have k0 := h0
  have lt0 : ∀ x ∈ p0, x.block < W.heap.size := by obtain ⟨m, hm⟩ := k0; exact DataW.trod_lt m _ _ _ hm
  obtain ⟨c0a, c0b, y0a, y0b, m0, rfl, rfl, rfl, hy0a, hy0b⟩ := open_agg2 Try.underlying31 (by kernel_rfl) (by kernel_rfl) (hval 0 31 v0 rfl rfl) h0
  obtain ⟨a0, ea0, rfl, wa0⟩ := DataW.trod_int Try.underlying3 hy0a
  obtain ⟨b0, eb0, rfl, wb0⟩ := DataW.trod_int Try.underlying3 hy0b
  simp at ea0 eb0
  subst ea0 eb0
  clear hA0 hval0
  refine (walk_FnExactWithinLimit a0 b0 wa0 wb0 W).mono fun e W' ⟨he, bel⟩ => ?_
  subst he
  exact ⟨_, rfl, _, _, _, [], _, [], hW', trodAll_mk1 (shut_bool Try.underlying4 _), (trodAll_cons_mk (Below.trod laidOut (by kernel_rfl) (of_decide_eq_true (by kernel_rfl)) k0 bel lt0) trodAll_mk0), rfl, bel.frame _, fun h => by cases h⟩
theorem over : Rows.fnExactWithinLimitRow.holds Try.pinned (OpenSpec.ofChange Rows.fnExactWithinLimitSpec) :=
  OpenClaim.holds_of_wide 12 Try.f12 rfl rfl rfl rfl rfl rfl rfl ⟨rfl, rfl, rfl, rfl, rfl⟩ rfl rfl rfl rfl rfl (by kernel_rfl) Try.func12 (by kernel_rfl)
    (of_decide_eq_true (by kernel_rfl)) (by unfold Func.isWrapper; first | (rw [if_pos (by decide +kernel)]; kernel_rfl) | (rw [if_neg (by decide +kernel)]; exact ⟨rfl, rfl⟩))
    (fun os started H enc _ => lifted os started H enc)
/-- The statement. -/
theorem proved : Rows.FnExactWithinLimitSaid := over
end fnExactWithinLimit
#print axioms fnExactWithinLimit.proved
end Go.Proofs.Ytblmnembkmnakaa
