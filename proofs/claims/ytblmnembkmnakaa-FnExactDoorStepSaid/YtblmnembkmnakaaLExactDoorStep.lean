/- FnExactDoorStep returns true for all arguments: the program's DoorStep and the reference's return the same. No conditions. -/
import Derived.Test.YtblmnembkmnakaaFrame
import Derived.Test.YtblmnembkmnakaaDoor
namespace Go.Proofs.Ytblmnembkmnakaa
open Go.ChangeShapes Go.WideShapes Go.ChangeAt Go.RowKit Go.Joins Pl
theorem walk_FnExactDoorStep (a0 b0 : Int) (_ : (Lit.int .i64 a0).wf = true) (_ : (Lit.int .i64 b0).wf = true) (a1 a2 : Bool) (w : World) :
    Calls Try.prog 10 #[.agg #[.int .i64 a0, .int .i64 b0], .bool a1, .bool a2] w fun e w' => e = .returned (.bool true) ∧ Below w.heap.size w w' := by
  obtain ⟨B, own⟩ := start1 w (.int .i64 a0) (.int .i64 b0) 25
  go_enter Try.func10, Try.ntmps10
  go_wp2_with fail
  refine (c_toDoor _ _ _).mono ?_
  rintro e w1 ⟨rfl, hb1⟩
  have B1 := stepB B hb1
  have o1 := own.call hb1
  have c0 := o1.c0
  have c1 := o1.c1
  go_wp2_with fail
  refine (c_doorStepS _ _ _ _ _).mono ?_
  rintro e w2 ⟨rfl, hb2⟩
  have B2 := stepB B1 hb2
  have o2 := o1.call hb2
  clear c0 c1
  have c0 := o2.c0
  have c1 := o2.c1
  have l2 := o2.lt
  go_wp2_with fail
  refine (c_toDoor _ _ _).mono ?_
  rintro e w3 ⟨rfl, hb3⟩
  have B3 := stepB (B2.alloc B2.size _) hb3
  have o3 := (o2.alloc _).call hb3
  have q3 := (Own2.new _ _ _ _).call hb3
  clear c0 c1
  have c0 := o3.c0
  have c1 := o3.c1
  have l3 := o3.lt
  go_wp2_with fail
  refine (c_doorStepI _ _ _ _ _).mono ?_
  rintro e w4 ⟨rfl, hb4⟩
  have B4 := stepB B3 hb4
  have q4 := q3.call hb4
  clear c0 c1
  have c0 := q4.c0
  have c1 := q4.c1
  have c2 := q4.lt
  go_wp2_with fail
  refine (c_eqDoor _ _ _ _ _ rfl rfl).mono ?_
  rintro e w5 ⟨rfl, hb5⟩
  go_wp2
  go_ret
  exact ⟨rfl, stepB (B4.alloc B4.size _) hb5⟩
namespace fnExactDoorStep
set_option linter.unusedVariables false
set_option maxRecDepth 100000 in
theorem lifted (os : Os) (started : os.Started) (H : Type) (enc : TypeId × Value → H) :
    ReturnsInHanded {} Try.checked os 10 .any (Rows.fnExactDoorStepSpec.pre6 enc Try.prog Try.f10 Rows.fnExactDoorStepRow.domain false) (Rows.fnExactDoorStepSpec.post enc Try.prog Try.f10 false true false false) := by
  refine returnsInHanded_of_change (C := Try.checked) own started (by kernel_rfl) Try.func10
    (ChangeSpec.witness6 (enc := enc) (C := Try.checked) false ⟨#[], #[.agg #[.int .i64 0, .int .i64 0], .bool false, .bool false], []⟩ 8 (by kernel_rfl) (by kernel_rfl) (by kernel_rfl) (by kernel_rfl)) ?_
  intro W base args ds gs before hval0 hW hcnd _
  have hval : ∀ (j : Nat) t v, Try.f10.params[j]? = some t → args[j]? = some v → Value.okWide Try.prog W .any base t v := hval0
  have hW' := hW
  obtain ⟨p, q, hA0, hV, rfl, hfz, hnd⟩ := hW
  have hA : DataW.TrodAll enc Try.prog W 0 (fun _ => true) true Try.f10.params.toList args.toList ds p := hA0
  rw [Try.params10] at hA hval
  obtain ⟨v0, vs0, d0, ds0, p0, q0, hargs, rfl, rfl, h0, r0⟩ := trodAll_cons hA
  obtain ⟨v1, vs1, d1, ds1, p1, q1, rfl, rfl, rfl, h1, r1⟩ := trodAll_cons r0
  obtain ⟨v2, vs2, d2, ds2, p2, q2, rfl, rfl, rfl, h2, r2⟩ := trodAll_cons r1
  obtain ⟨rfl, rfl, rfl⟩ := trodAll_nil r2
  obtain rfl : args = #[v0, v1, v2] := by cases args; simp_all
  obtain ⟨rfl, rfl⟩ := trodVars_none hV
  have k0 := h0
  have lt0 : ∀ x ∈ p0, x.block < W.heap.size := by obtain ⟨m, hm⟩ := k0; exact DataW.trod_lt m _ _ _ hm
  obtain ⟨c0a, c0b, y0a, y0b, m0, rfl, rfl, rfl, hy0a, hy0b⟩ := open_agg2 Try.underlying25 (by kernel_rfl) (by kernel_rfl) (hval 0 25 v0 rfl rfl) h0
  obtain ⟨a0, ea0, rfl, wa0⟩ := DataW.trod_int Try.underlying3 hy0a
  obtain ⟨b0, eb0, rfl, wb0⟩ := DataW.trod_int Try.underlying3 hy0b
  simp at ea0 eb0
  subst ea0 eb0
  obtain ⟨a1, rfl, rfl, rfl⟩ := open_bool Try.underlying4 (hval 1 4 v1 rfl rfl) h1
  obtain ⟨a2, rfl, rfl, rfl⟩ := open_bool Try.underlying4 (hval 2 4 v2 rfl rfl) h2
  clear hA0 hval0
  refine (walk_FnExactDoorStep a0 b0 wa0 wb0 a1 a2 W).mono fun e W' ⟨he, bel⟩ => ?_
  subst he
  exact ⟨_, rfl, _, _, _, [], _, [], hW', trodAll_mk1 (shut_bool Try.underlying4 _), (trodAll_cons_mk (Below.trod laidOut (by kernel_rfl) (of_decide_eq_true (by kernel_rfl)) k0 bel lt0) (trodAll_cons_mk (shut_bool Try.underlying4 _) (trodAll_cons_mk (shut_bool Try.underlying4 _) trodAll_mk0))), rfl, bel.frame _, fun h => by cases h⟩
theorem over : Rows.fnExactDoorStepRow.holds Try.pinned (OpenSpec.ofChange Rows.fnExactDoorStepSpec) :=
  OpenClaim.holds_of_wide 10 Try.f10 rfl rfl rfl rfl rfl rfl rfl ⟨rfl, rfl, rfl, rfl, rfl⟩ rfl rfl rfl rfl rfl (by kernel_rfl) Try.func10 (by kernel_rfl)
    (of_decide_eq_true (by kernel_rfl)) (by unfold Func.isWrapper; first | (rw [if_pos (by decide +kernel)]; kernel_rfl) | (rw [if_neg (by decide +kernel)]; exact ⟨rfl, rfl⟩))
    (fun os started H enc _ => lifted os started H enc)
/-- The statement. -/
theorem proved : Rows.FnExactDoorStepSaid := over
end fnExactDoorStep
#print axioms fnExactDoorStep.proved
end Go.Proofs.Ytblmnembkmnakaa
