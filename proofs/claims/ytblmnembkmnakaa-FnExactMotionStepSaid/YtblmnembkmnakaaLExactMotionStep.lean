/- FnExactMotionStep returns true for all arguments: the program's MotionStep and the reference's return the same. No conditions. -/
import Derived.Test.YtblmnembkmnakaaFrame
import Derived.Test.YtblmnembkmnakaaDrive
namespace Go.Proofs.Ytblmnembkmnakaa
open Go.ChangeShapes Go.WideShapes Go.ChangeAt Go.RowKit Go.Joins Pl
theorem walk_FnExactMotionStep (a0 b0 : Int) (_ : (Lit.int .i64 a0).wf = true) (_ : (Lit.int .i64 b0).wf = true) (a1 : Int) (_ : (Lit.int .i64 a1).wf = true) (w : World) :
    Calls Try.prog 13 #[.agg #[.int .i64 a0, .int .i64 b0], .int .i64 a1] w fun e w' => e = .returned (.bool true) ∧ Below w.heap.size w w' := by
  obtain ⟨B, own⟩ := start1 w (.int .i64 a0) (.int .i64 b0) 31
  go_enter Try.func13, Try.ntmps13
  go_wp2_with fail
  refine (c_toMotion _ _ _).mono ?_
  rintro e w1 ⟨rfl, hb1⟩
  have B1 := stepB B hb1
  have o1 := own.call hb1
  have c0 := o1.c0
  have c1 := o1.c1
  go_wp2_with fail
  refine (c_stepS _ _ _ _).mono ?_
  rintro e w2 ⟨rfl, hb2⟩
  have B2 := stepB B1 hb2
  have o2 := o1.call hb2
  clear c0 c1
  have c0 := o2.c0
  have c1 := o2.c1
  have l2 := o2.lt
  go_wp2_with fail
  refine (c_toMotion _ _ _).mono ?_
  rintro e w3 ⟨rfl, hb3⟩
  have B3 := stepB (B2.alloc B2.size _) hb3
  have o3 := (o2.alloc _).call hb3
  have q3 := (Own2.new _ _ _ _).call hb3
  clear c0 c1
  have c0 := o3.c0
  have c1 := o3.c1
  have l3 := o3.lt
  go_wp2_with fail
  refine (c_stepI _ _ _ _).mono ?_
  rintro e w4 ⟨rfl, hb4⟩
  have B4 := stepB B3 hb4
  have q4 := q3.call hb4
  clear c0 c1
  have c0 := q4.c0
  have c1 := q4.c1
  have c2 := q4.lt
  go_wp2_with fail
  refine (c_eqMotion _ _ _ _ _ rfl rfl).mono ?_
  rintro e w5 ⟨rfl, hb5⟩
  go_wp2
  go_ret
  exact ⟨rfl, stepB (B4.alloc B4.size _) hb5⟩
namespace fnExactMotionStep
set_option linter.unusedVariables false
set_option maxRecDepth 100000 in
theorem lifted (os : Os) (started : os.Started) (H : Type) (enc : TypeId × Value → H) :
    ReturnsInHanded {} Try.checked os 13 .any (Rows.fnExactMotionStepSpec.pre6 enc Try.prog Try.f13 Rows.fnExactMotionStepRow.domain false) (Rows.fnExactMotionStepSpec.post enc Try.prog Try.f13 false true false false) := by
  refine returnsInHanded_of_change (C := Try.checked) own started (by kernel_rfl) Try.func13
    (ChangeSpec.witness6 (enc := enc) (C := Try.checked) false ⟨#[], #[.agg #[.int .i64 0, .int .i64 0], .int .i64 0], []⟩ 8 (by kernel_rfl) (by kernel_rfl) (by kernel_rfl) (by kernel_rfl)) ?_
  intro W base args ds gs before hval0 hW hcnd _
  have hval : ∀ (j : Nat) t v, Try.f13.params[j]? = some t → args[j]? = some v → Value.okWide Try.prog W .any base t v := hval0
  have hW' := hW
  obtain ⟨p, q, hA0, hV, rfl, hfz, hnd⟩ := hW
  have hA : DataW.TrodAll enc Try.prog W 0 (fun _ => true) true Try.f13.params.toList args.toList ds p := hA0
  rw [Try.params13] at hA hval
  obtain ⟨v0, vs0, d0, ds0, p0, q0, hargs, rfl, rfl, h0, r0⟩ := trodAll_cons hA
  obtain ⟨v1, vs1, d1, ds1, p1, q1, rfl, rfl, rfl, h1, r1⟩ := trodAll_cons r0
  obtain ⟨rfl, rfl, rfl⟩ := trodAll_nil r1
  obtain rfl : args = #[v0, v1] := by cases args; simp_all
  obtain ⟨rfl, rfl⟩ := trodVars_none hV
  have k0 := h0
  have lt0 : ∀ x ∈ p0, x.block < W.heap.size := by obtain ⟨m, hm⟩ := k0; exact DataW.trod_lt m _ _ _ hm
  obtain ⟨c0a, c0b, y0a, y0b, m0, rfl, rfl, rfl, hy0a, hy0b⟩ := open_agg2 Try.underlying31 (by kernel_rfl) (by kernel_rfl) (hval 0 31 v0 rfl rfl) h0
  obtain ⟨a0, ea0, rfl, wa0⟩ := DataW.trod_int Try.underlying3 hy0a
  obtain ⟨b0, eb0, rfl, wb0⟩ := DataW.trod_int Try.underlying3 hy0b
  simp at ea0 eb0
  subst ea0 eb0
  obtain ⟨a1, rfl, rfl, rfl, w1⟩ := open_int Try.underlying3 (hval 1 3 v1 rfl rfl) h1
  clear hA0 hval0
  refine (walk_FnExactMotionStep a0 b0 wa0 wb0 a1 w1 W).mono fun e W' ⟨he, bel⟩ => ?_
  subst he
  exact ⟨_, rfl, _, _, _, [], _, [], hW', trodAll_mk1 (shut_bool Try.underlying4 _), (trodAll_cons_mk (Below.trod laidOut (by kernel_rfl) (of_decide_eq_true (by kernel_rfl)) k0 bel lt0) (trodAll_cons_mk (shut_int Try.underlying3 w1) trodAll_mk0)), rfl, bel.frame _, fun h => by cases h⟩
theorem over : Rows.fnExactMotionStepRow.holds Try.pinned (OpenSpec.ofChange Rows.fnExactMotionStepSpec) :=
  OpenClaim.holds_of_wide 13 Try.f13 rfl rfl rfl rfl rfl rfl rfl ⟨rfl, rfl, rfl, rfl, rfl⟩ rfl rfl rfl rfl rfl (by kernel_rfl) Try.func13 (by kernel_rfl)
    (of_decide_eq_true (by kernel_rfl)) (by unfold Func.isWrapper; first | (rw [if_pos (by decide +kernel)]; kernel_rfl) | (rw [if_neg (by decide +kernel)]; exact ⟨rfl, rfl⟩))
    (fun os started H enc _ => lifted os started H enc)
/-- The statement. -/
theorem proved : Rows.FnExactMotionStepSaid := over
end fnExactMotionStep
#print axioms fnExactMotionStep.proved
end Go.Proofs.Ytblmnembkmnakaa
