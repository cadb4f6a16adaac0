/- FnBrakeWay returns true for every code: braking down is braking up, mirrored. No conditions. -/
import Derived.Test.YtjnoejlccbfcjaaOpn
import Derived.Test.YtjnoejlccbfcjaaDra
import Derived.Test.YtjnoejlccbfcjaaLow
namespace Go.Proofs.Ytjnoejlccbfcjaa
open Go.ChangeShapes Go.WideShapes Go.ChangeAt Go.RowKit Go.Joins Pl
theorem bt_7 : brake (-7) = 0 := by decide
theorem bt_6 : brake (-6) = 0 := by decide
theorem bt_5 : brake (-5) = -10 := by decide
theorem bt_4 : brake (-4) = -6 := by decide
theorem bt_3 : brake (-3) = -3 := by decide
theorem bt_2 : brake (-2) = -1 := by decide
theorem bt_1 : brake (-1) = 0 := by decide
theorem bt0 : brake (0) = 0 := by decide
theorem bt1 : brake (1) = 0 := by decide
theorem bt2 : brake (2) = 1 := by decide
theorem bt3 : brake (3) = 3 := by decide
theorem bt4 : brake (4) = 6 := by decide
theorem bt5 : brake (5) = 10 := by decide
theorem bt6 : brake (6) = 0 := by decide
theorem bt7 : brake (7) = 0 := by decide
set_option maxHeartbeats 4000000 in
theorem walk_FnBrakeWay (a0 : Option Addr) (len0 cap0 : Nat) (z0 : List Int) (w : World) (h0 : IsRow .u8 w a0 len0 cap0 z0) :
    Calls Try.prog 4 #[.slice a0 len0 cap0] w fun e w' => e = .returned (.bool true) ∧ Below w.heap.size w w' := by
  obtain ⟨src, hcap⟩ := srcB_of_row h0
  clear h0
  by_cases hbig : 1048576 < len0
  · go_enter Try.func4, Try.ntmps4
    go_wp2
    go_ret
    exact ⟨rfl, Below.refl _ _⟩
  go_enter Try.func4, Try.ntmps4
  go_wp2_with fail
  refine (c_DrawBrakeWay _ _ _ _ _ src (by omega) hcap).mono ?_
  rintro e w1 ⟨x, x1, x2, rfl, B1⟩
  have hx : x = -7 ∨ x = -6 ∨ x = -5 ∨ x = -4 ∨ x = -3 ∨ x = -2 ∨ x = -1 ∨ x = 0 ∨ x = 1 ∨ x = 2 ∨ x = 3 ∨ x = 4 ∨ x = 5 ∨ x = 6 ∨ x = 7 := by omega
  clear x1 x2
  rcases hx with rfl | rfl | rfl | rfl | rfl | rfl | rfl | rfl | rfl | rfl | rfl | rfl | rfl | rfl | rfl
  all_goals
    go_wp2_with (first | (go_at_call 20; refine (c_brakeI _ _).mono ?_; rintro e w9 ⟨rfl, rfl⟩; simp only [bt7, bt6, bt5, bt4, bt3, bt2, bt1, bt0, bt_1, bt_2, bt_3, bt_4, bt_5, bt_6, bt_7]) | (go_at_call 21; refine (c_brakeS _ _).mono ?_; rintro e w9 ⟨rfl, rfl⟩; simp only [bt7, bt6, bt5, bt4, bt3, bt2, bt1, bt0, bt_1, bt_2, bt_3, bt_4, bt_5, bt_6, bt_7]) | (go_at_call 18; refine (c_alive _).mono ?_; rintro e w8 ⟨rfl, hb8⟩))
    go_ret
    first
      | exact ⟨rfl, B1⟩
      | exact ⟨rfl, stepB B1 hb8⟩
namespace fnBrakeWay
set_option linter.unusedVariables false
set_option maxRecDepth 100000 in
theorem lifted (os : Os) (started : os.Started) (H : Type) (enc : TypeId × Value → H) :
    ReturnsInHanded {} Try.checked os 4 .any (Rows.fnBrakeWaySpec.pre6 enc Try.prog Try.f4 Rows.fnBrakeWayRow.domain false) (Rows.fnBrakeWaySpec.post enc Try.prog Try.f4 false true false false) := by
  refine returnsInHanded_of_change (C := Try.checked) own started (by kernel_rfl) Try.func4
    (ChangeSpec.witness6 (enc := enc) (C := Try.checked) false ⟨#[], #[.slice none 0 0], []⟩ 8 (by kernel_rfl) (by kernel_rfl) (by kernel_rfl) (by kernel_rfl)) ?_
  intro W base args ds gs before hval0 hW hcnd _
  have hval : ∀ (j : Nat) t v, Try.f4.params[j]? = some t → args[j]? = some v → Value.okWide Try.prog W .any base t v := hval0
  have hW' := hW
  obtain ⟨p, q, hA0, hV, rfl, hfz, hnd⟩ := hW
  have hA : DataW.TrodAll enc Try.prog W 0 (fun _ => true) true Try.f4.params.toList args.toList ds p := hA0
  rw [Try.params4] at hA hval
  obtain ⟨v0, vs0, d0, ds0, p0, q0, hargs, rfl, rfl, h0, r0⟩ := trodAll_cons hA
  obtain ⟨rfl, rfl, rfl⟩ := trodAll_nil r0
  obtain rfl : args = #[v0] := by cases args; simp_all
  obtain ⟨rfl, rfl⟩ := trodVars_none hV
  have k0 := h0
  have lt0 : ∀ x ∈ p0, x.block < W.heap.size := by obtain ⟨m, hm⟩ := k0; exact DataW.trod_lt m _ _ _ hm
  obtain ⟨a0, len0, cap0, rfl⟩ := okWide_slice Try.underlying22 (hval 0 22 v0 rfl rfl)
  obtain ⟨z0, w0⟩ : ∃ zs, IsRow .u8 W a0 len0 cap0 zs := by
    obtain ⟨fuel, hf⟩ := h0
    rcases open_ints Try.underlying22 Try.underlying5 (by kernel_rfl) hf with ⟨hcs, _⟩ | ⟨x, l, c, zs, hcs, _, hl, hm, hz, _, hcell, hwz⟩
    · simp [Value.cells] at hcs
      obtain ⟨rfl, rfl, rfl⟩ := hcs
      exact ⟨[], .inl ⟨rfl, rfl, rfl, rfl⟩⟩
    · simp [Value.cells] at hcs
      obtain ⟨rfl, rfl, rfl⟩ := hcs
      exact ⟨zs, .inr ⟨_, rfl, hl, hm, by simpa using hz, hcell, hwz⟩⟩
  clear hA0 hval0
  refine (walk_FnBrakeWay a0 len0 cap0 z0 W w0).mono fun e W' ⟨he, bel⟩ => ?_
  subst he
  exact ⟨_, rfl, _, _, _, [], _, [], hW', trodAll_mk1 (shut_bool Try.underlying4 _), (trodAll_cons_mk (Below.trod laidOut (by kernel_rfl) (of_decide_eq_true (by kernel_rfl)) k0 bel lt0) trodAll_mk0), rfl, bel.frame _, fun h => by cases h⟩
theorem over : Rows.fnBrakeWayRow.holds Try.pinned (OpenSpec.ofChange Rows.fnBrakeWaySpec) :=
  OpenClaim.holds_of_wide 4 Try.f4 rfl rfl rfl rfl rfl rfl rfl ⟨rfl, rfl, rfl, rfl, rfl⟩ rfl rfl rfl rfl rfl (by kernel_rfl) Try.func4 (by kernel_rfl)
    (of_decide_eq_true (by kernel_rfl)) (by unfold Func.isWrapper; first | (rw [if_pos (by decide +kernel)]; kernel_rfl) | (rw [if_neg (by decide +kernel)]; exact ⟨rfl, rfl⟩))
    (fun os started H enc _ => lifted os started H enc)
/-- The statement. -/
theorem proved : Rows.FnBrakeWaySaid := over
end fnBrakeWay
#print axioms fnBrakeWay.proved
end Go.Proofs.Ytjnoejlccbfcjaa
