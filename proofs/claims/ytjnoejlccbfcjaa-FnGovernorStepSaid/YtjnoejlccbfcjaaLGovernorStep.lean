/- FnGovernorStep returns true for every code: a governor that tripped stays so. No conditions. -/
import Derived.Test.YtjnoejlccbfcjaaOpn
import Derived.Test.YtjnoejlccbfcjaaDrB
import Derived.Test.YtjnoejlccbfcjaaLow
namespace Go.Proofs.Ytjnoejlccbfcjaa
open Go.ChangeShapes Go.WideShapes Go.ChangeAt Go.RowKit Go.Joins Pl
set_option maxHeartbeats 4000000 in
theorem walk_FnGovernorStep (a0 : Option Addr) (len0 cap0 : Nat) (z0 : List Int) (w : World) (h0 : IsRow .u8 w a0 len0 cap0 z0) :
    Calls Try.prog 3 #[.slice a0 len0 cap0] w fun e w' => e = .returned (.bool true) ∧ Below w.heap.size w w' := by
  obtain ⟨src, hcap⟩ := srcB_of_row h0
  clear h0
  by_cases hbig : 1048576 < len0
  · go_enter Try.func3, Try.ntmps3
    go_wp2
    go_ret
    exact ⟨rfl, Below.refl _ _⟩
  go_enter Try.func3, Try.ntmps3
  go_wp2_with fail
  refine (c_DrawGovernorStep _ _ _ _ _ src (by omega) hcap).mono ?_
  rintro e w1 ⟨tr, sp, rs, s1, s2, rfl, B1⟩
  by_cases h1 : 7 ≤ sp
  · have hz : govStep tr sp rs = true := if_pos (Or.inl h1)
    have HZ := Lib.hid hz; clear hz
    cases tr <;> cases rs
    all_goals
      go_wp2_with fail
      refine (c_govI _ _ _ _).mono ?_
      rintro e w9 ⟨rfl, rfl⟩
      rw [HZ.out]
      go_wp2_with fail
      refine (c_govS _ _ _ _).mono ?_
      rintro e w9 ⟨rfl, rfl⟩
      rw [HZ.out]
      go_wp2_with fail
      refine (c_alive _).mono ?_
      rintro e w2 ⟨rfl, hb2⟩
      go_wp2
      go_ret
      exact ⟨rfl, stepB B1 hb2⟩
  · have d1 : decide (7 ≤ sp) = false := by simpa using h1
    by_cases h2 : sp ≤ -7
    · have h2' : 7 ≤ -sp := by omega
      have hz : govStep tr sp rs = true := if_pos (Or.inr h2)
      have HZ := Lib.hid hz; clear hz
      cases tr <;> cases rs
      all_goals
        go_wp2_with fail
        refine (c_govI _ _ _ _).mono ?_
        rintro e w9 ⟨rfl, rfl⟩
        rw [HZ.out]
        go_wp2_with fail
        refine (c_govS _ _ _ _).mono ?_
        rintro e w9 ⟨rfl, rfl⟩
        rw [HZ.out]
        go_wp2_with fail
        refine (c_alive _).mono ?_
        rintro e w2 ⟨rfl, hb2⟩
        go_wp2
        go_ret
        exact ⟨rfl, stepB B1 hb2⟩
    · have d2 : decide (7 ≤ -sp) = false := by simp; omega
      have hz : govStep tr sp rs = (tr && !(rs && sp == 0)) := if_neg (by omega)
      by_cases h3 : sp = 0
      · subst h3
        cases tr <;> cases rs
        all_goals
          simp only [Bool.false_and, Bool.true_and, Bool.not_true, Bool.not_false, beq_self_eq_true, Bool.and_true] at hz
          have HZ := Lib.hid hz; clear hz
          go_wp2_with fail
          refine (c_govI _ _ _ _).mono ?_
          rintro e w9 ⟨rfl, rfl⟩
          rw [HZ.out]
          go_wp2_with fail
          refine (c_govS _ _ _ _).mono ?_
          rintro e w9 ⟨rfl, rfl⟩
          rw [HZ.out]
          go_wp2_with fail
          refine (c_alive _).mono ?_
          rintro e w2 ⟨rfl, hb2⟩
          go_wp2
          go_ret
          exact ⟨rfl, stepB B1 hb2⟩
      · have d3 : (sp == 0) = false := by simpa using h3
        rw [d3] at hz
        cases tr <;> cases rs
        all_goals
          simp only [Bool.false_and, Bool.true_and, Bool.not_true, Bool.not_false, Bool.and_false, Bool.and_true] at hz
          have HZ := Lib.hid hz; clear hz h3
          go_wp2_with fail
          refine (c_govI _ _ _ _).mono ?_
          rintro e w9 ⟨rfl, rfl⟩
          rw [HZ.out]
          go_wp2_with fail
          refine (c_govS _ _ _ _).mono ?_
          rintro e w9 ⟨rfl, rfl⟩
          rw [HZ.out]
          go_wp2_with fail
          refine (c_alive _).mono ?_
          rintro e w2 ⟨rfl, hb2⟩
          go_wp2
          go_ret
          exact ⟨rfl, stepB B1 hb2⟩
namespace fnGovernorStep
set_option linter.unusedVariables false
set_option maxRecDepth 100000 in
theorem lifted (os : Os) (started : os.Started) (H : Type) (enc : TypeId × Value → H) :
    ReturnsInHanded {} Try.checked os 3 .any (Rows.fnGovernorStepSpec.pre6 enc Try.prog Try.f3 Rows.fnGovernorStepRow.domain false) (Rows.fnGovernorStepSpec.post enc Try.prog Try.f3 false true false false) := by
  refine returnsInHanded_of_change (C := Try.checked) own started (by kernel_rfl) Try.func3
    (ChangeSpec.witness6 (enc := enc) (C := Try.checked) false ⟨#[], #[.slice none 0 0], []⟩ 8 (by kernel_rfl) (by kernel_rfl) (by kernel_rfl) (by kernel_rfl)) ?_
  intro W base args ds gs before hval0 hW hcnd _
  have hval : ∀ (j : Nat) t v, Try.f3.params[j]? = some t → args[j]? = some v → Value.okWide Try.prog W .any base t v := hval0
  have hW' := hW
  obtain ⟨p, q, hA0, hV, rfl, hfz, hnd⟩ := hW
  have hA : DataW.TrodAll enc Try.prog W 0 (fun _ => true) true Try.f3.params.toList args.toList ds p := hA0
  rw [Try.params3] at hA hval
  obtain ⟨v0, vs0, d0, ds0, p0, q0, hargs, rfl, rfl, h0, r0⟩ := trodAll_cons hA
  obtain ⟨rfl, rfl, rfl⟩ := trodAll_nil r0
  obtain rfl : args = #[v0] := by cases args; simp_all
  obtain ⟨rfl, rfl⟩ := trodVars_none hV
  have k0 := h0
  have lt0 : ∀ x ∈ p0, x.block < W.heap.size := by obtain ⟨m, hm⟩ := k0; exact DataW.trod_lt m _ _ _ hm
  obtain ⟨a0, len0, cap0, rfl⟩ := okWide_slice Try.underlying22 (hval 0 22 v0 rfl rfl)
  obtain ⟨z0, w0⟩ : ∃ zs, IsRow .u8 W a0 len0 cap0 zs := by
    obtain ⟨fuel, hf⟩ := h0
    rcases open_ints Try.underlying22 Try.underlying5 (by kernel_rfl) hf with ⟨hcs, _⟩ | ⟨x, l, c, zs, hcs, _, hl, hm, hz, _, hcell, hwz⟩
    · simp [Value.cells] at hcs
      obtain ⟨rfl, rfl, rfl⟩ := hcs
      exact ⟨[], .inl ⟨rfl, rfl, rfl, rfl⟩⟩
    · simp [Value.cells] at hcs
      obtain ⟨rfl, rfl, rfl⟩ := hcs
      exact ⟨zs, .inr ⟨_, rfl, hl, hm, by simpa using hz, hcell, hwz⟩⟩
  clear hA0 hval0
  refine (walk_FnGovernorStep a0 len0 cap0 z0 W w0).mono fun e W' ⟨he, bel⟩ => ?_
  subst he
  exact ⟨_, rfl, _, _, _, [], _, [], hW', trodAll_mk1 (shut_bool Try.underlying4 _), (trodAll_cons_mk (Below.trod laidOut (by kernel_rfl) (of_decide_eq_true (by kernel_rfl)) k0 bel lt0) trodAll_mk0), rfl, bel.frame _, fun h => by cases h⟩
theorem over : Rows.fnGovernorStepRow.holds Try.pinned (OpenSpec.ofChange Rows.fnGovernorStepSpec) :=
  OpenClaim.holds_of_wide 3 Try.f3 rfl rfl rfl rfl rfl rfl rfl ⟨rfl, rfl, rfl, rfl, rfl⟩ rfl rfl rfl rfl rfl (by kernel_rfl) Try.func3 (by kernel_rfl)
    (of_decide_eq_true (by kernel_rfl)) (by unfold Func.isWrapper; first | (rw [if_pos (by decide +kernel)]; kernel_rfl) | (rw [if_neg (by decide +kernel)]; exact ⟨rfl, rfl⟩))
    (fun os started H enc _ => lifted os started H enc)
/-- The statement. -/
theorem proved : Rows.FnGovernorStepSaid := over
end fnGovernorStep
#print axioms fnGovernorStep.proved
end Go.Proofs.Ytjnoejlccbfcjaa
