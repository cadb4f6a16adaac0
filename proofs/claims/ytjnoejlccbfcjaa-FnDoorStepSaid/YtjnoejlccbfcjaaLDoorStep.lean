/- FnDoorStep returns true for every code: no door closes on what is in its way. No conditions. -/
import Derived.Test.YtjnoejlccbfcjaaOpn
import Derived.Test.YtjnoejlccbfcjaaDra
import Derived.Test.YtjnoejlccbfcjaaDoor
import Derived.Test.YtjnoejlccbfcjaaPlainD
import Derived.Deep.RegionWith
namespace Go.Proofs.Ytjnoejlccbfcjaa
open Go.ChangeShapes Go.WideShapes Go.ChangeAt Go.RowKit Go.Joins Pl
theorem dv_enum {g h : Int} (hv : doorV g h = true) : (g = 0 ∧ h = 0) ∨ (g = 1 ∧ h = 0) ∨ (g = 2 ∧ h = 0) ∨ (g = 3 ∧ h = 0) ∨ (g = 4 ∧ h = 0) ∨ (g = 4 ∧ h = 1) ∨ (g = 4 ∧ h = 2) ∨ (g = 4 ∧ h = 3) := by
  have := doorV_iff.1 hv
  omega
theorem dstep_ways {g h x y : Int} {ask bl : Bool} (hx : (doorStep g h ask bl).1 = x) (hy : (doorStep g h ask bl).2 = y) (hv : doorV g h = true) : doorV x y = true ∧ (ask = false ∧ bl = false ∨ g ≤ x) ∧ x - g ≤ 1 ∧ g - x ≤ 1 ∧ (g < 4 ∨ (decide (g < 4) = false ∧ (x == 4) = true) ∨ (decide (g < 4) = false ∧ (x == 4) = false ∧ (h == 0) = true)) := by
  subst hx hy
  rcases dv_enum hv with ⟨rfl, rfl⟩ | ⟨rfl, rfl⟩ | ⟨rfl, rfl⟩ | ⟨rfl, rfl⟩ | ⟨rfl, rfl⟩ | ⟨rfl, rfl⟩ | ⟨rfl, rfl⟩ | ⟨rfl, rfl⟩ <;> cases ask <;> cases bl <;> decide
set_option maxHeartbeats 4000000 in
theorem walk_FnDoorStep (a0 : Option Addr) (len0 cap0 : Nat) (z0 : List Int) (w : World) (h0 : IsRow .u8 w a0 len0 cap0 z0) :
    Calls Try.prog 7 #[.slice a0 len0 cap0] w fun e w' => e = .returned (.bool true) ∧ Below w.heap.size w w' := by
  obtain ⟨src, hcap⟩ := srcB_of_row h0
  clear h0
  by_cases hbig : 1048576 < len0
  · go_enter Try.func7, Try.ntmps7
    go_wp2
    go_ret
    exact ⟨rfl, Below.refl _ _⟩
  go_enter Try.func7, Try.ntmps7
  go_wp2_with fail
  refine (c_DrawDoorStep _ _ _ _ _ src (by omega) hcap).mono ?_
  rintro e w1 ⟨a, v, ask, bl, ha, hv, rfl, B1⟩
  clear ha hv
  rcases hm : doorV a v
  · have hx : (doorStep a v ask bl).1 = 0 := by unfold doorStep; rw [hm]; rfl
    have hy : (doorStep a v ask bl).2 = 0 := by unfold doorStep; rw [hm]; rfl
    have HX := Lib.hid hx; clear hx
    have HY := Lib.hid hy; clear hy
    have HM := Lib.hid hm; clear hm
    go_wp2_with fail
    refine (c_doorStepI _ _ _ _ _).mono ?_
    rintro e w2 ⟨rfl, hb2⟩
    rw [HX.out, HY.out]
    have B2 := stepB (B1.alloc B1.size _) hb2
    have mo2 := (Own2.new _ _ _ _).call hb2
    have c0 := mo2.c0
    have c1 := mo2.c1
    have cl := mo2.lt
    have B3 := B2.alloc B2.size (.cells #[.int .i64 0, .int .i64 0] 35)
    have mo3 := mo2.alloc (.cells #[.int .i64 0, .int .i64 0] 35)
    have xo3 := Own2.new w2 (.int .i64 0) (.int .i64 0) 35
    clear c0 c1
    have c0 := mo3.c0
    have c1 := mo3.c1
    have d0 := xo3.c0
    have d1 := xo3.c1
    go_wp2_with fail
    go_region_with (first | (go_at_call 30; refine (c_doorStepS _ _ _ _ _).mono ?_; rintro e w4 ⟨rfl, hb4⟩; rw [HX.out, HY.out]; have Bk := stepB B3.drew hb4; have mo4 := mo3.drew.call hb4; have c0' := mo4.c0; have c1' := mo4.c1; have xo4 := xo3.drew.call hb4; have d0' := xo4.c0; have d1' := xo4.c1))
    all_goals
      have B4 := Bk
      clear c0 c1 d0 d1
      have c0 := c0'
      have c1 := c1'
      have cl := mo4.lt
      have d0 := d0'
      have d1 := d1'
      have dl := xo4.lt
      clear c0' c1' d0' d1'
      go_wp2_with fail
      refine (c_doorVS _ _ _).mono ?_
      rintro e w5 ⟨rfl, hb5⟩
      rw [HM.out]
      have B5 := stepB B4 hb5
      have mo5 := mo4.call hb5
      have xo5 := xo4.call hb5
      clear c0 c1 d0 d1
      have c0 := mo5.c0
      have c1 := mo5.c1
      have cl := mo5.lt
      have d0 := xo5.c0
      have d1 := xo5.c1
      have dl := xo5.lt
      go_wp2_with fail
      refine (c_alive _).mono ?_
      rintro e w6 ⟨rfl, hb6⟩
      go_wp2
      go_ret
      exact ⟨rfl, stepB B5 hb6⟩
  · obtain ⟨x, hx⟩ : ∃ x, (doorStep a v ask bl).1 = x := ⟨_, rfl⟩
    obtain ⟨y, hy⟩ : ∃ y, (doorStep a v ask bl).2 = y := ⟨_, rfl⟩
    obtain ⟨hv', k1, k2, k3, k4⟩ := dstep_ways hx hy hm
    have HX := Lib.hid hx; clear hx
    have HY := Lib.hid hy; clear hy
    obtain ⟨⟨g1, g2⟩, ⟨g3, g4⟩, g5⟩ := doorV_iff.1 hm
    obtain ⟨⟨x1, x2⟩, ⟨x3, x4⟩, x5⟩ := doorV_iff.1 hv'
    clear g5 x5
    have HM := Lib.hid hm; clear hm
    have HV := Lib.hid hv'; clear hv'
    go_wp2_with fail
    refine (c_doorStepI _ _ _ _ _).mono ?_
    rintro e w2 ⟨rfl, hb2⟩
    rw [HX.out, HY.out]
    have B2 := stepB (B1.alloc B1.size _) hb2
    have mo2 := (Own2.new _ _ _ _).call hb2
    have c0 := mo2.c0
    have c1 := mo2.c1
    have cl := mo2.lt
    have B3 := B2.alloc B2.size (.cells #[.int .i64 x, .int .i64 y] 35)
    have mo3 := mo2.alloc (.cells #[.int .i64 x, .int .i64 y] 35)
    have xo3 := Own2.new w2 (.int .i64 x) (.int .i64 y) 35
    clear c0 c1
    have c0 := mo3.c0
    have c1 := mo3.c1
    have d0 := xo3.c0
    have d1 := xo3.c1
    go_wp2_with fail
    go_region_with (first | (go_at_call 30; refine (c_doorStepS _ _ _ _ _).mono ?_; rintro e w4 ⟨rfl, hb4⟩; rw [HX.out, HY.out]; have Bk := stepB B3.drew hb4; have mo4 := mo3.drew.call hb4; have c0' := mo4.c0; have c1' := mo4.c1; have xo4 := xo3.drew.call hb4; have d0' := xo4.c0; have d1' := xo4.c1))
    all_goals
      have B4 := Bk
      clear c0 c1 d0 d1
      have c0 := c0'
      have c1 := c1'
      have cl := mo4.lt
      have d0 := d0'
      have d1 := d1'
      have dl := xo4.lt
      clear c0' c1' d0' d1'
      go_wp2_with fail
      refine (c_doorVS _ _ _).mono ?_
      rintro e w5 ⟨rfl, hb5⟩
      rw [HM.out]
      have B5 := stepB B4 hb5
      have mo5 := mo4.call hb5
      have xo5 := xo4.call hb5
      clear c0 c1 d0 d1
      have c0 := mo5.c0
      have c1 := mo5.c1
      have cl := mo5.lt
      have d0 := xo5.c0
      have d1 := xo5.c1
      have dl := xo5.lt
      go_wp2_with fail
      refine (c_doorVI _ _ _).mono ?_
      rintro e w6 ⟨rfl, hb6⟩
      rw [HV.out]
      have B6 := stepB B5 hb6
      have mo6 := mo5.call hb6
      have xo6 := xo5.call hb6
      clear c0 c1 d0 d1
      have c0 := mo6.c0
      have c1 := mo6.c1
      have cl := mo6.lt
      have d0 := xo6.c0
      have d1 := xo6.c1
      have dl := xo6.lt
      rcases k1 with ⟨rfl, rfl⟩ | k1
      · rcases k4 with k4 | ⟨k4, k5⟩ | ⟨k4, k5, k6⟩
        all_goals
          go_wp2
          go_ret
          exact ⟨rfl, B6⟩
      · cases ask <;> cases bl <;> rcases k4 with k4 | ⟨k4, k5⟩ | ⟨k4, k5, k6⟩
        all_goals
          go_wp2
          go_ret
          exact ⟨rfl, B6⟩
namespace fnDoorStep
set_option linter.unusedVariables false
set_option maxRecDepth 100000 in
theorem lifted (os : Os) (started : os.Started) (H : Type) (enc : TypeId × Value → H) :
    ReturnsInHanded {} Try.checked os 7 .any (Rows.fnDoorStepSpec.pre6 enc Try.prog Try.f7 Rows.fnDoorStepRow.domain false) (Rows.fnDoorStepSpec.post enc Try.prog Try.f7 false true false false) := by
  refine returnsInHanded_of_change (C := Try.checked) own started (by kernel_rfl) Try.func7
    (ChangeSpec.witness6 (enc := enc) (C := Try.checked) false ⟨#[], #[.slice none 0 0], []⟩ 8 (by kernel_rfl) (by kernel_rfl) (by kernel_rfl) (by kernel_rfl)) ?_
  intro W base args ds gs before hval0 hW hcnd _
  have hval : ∀ (j : Nat) t v, Try.f7.params[j]? = some t → args[j]? = some v → Value.okWide Try.prog W .any base t v := hval0
  have hW' := hW
  obtain ⟨p, q, hA0, hV, rfl, hfz, hnd⟩ := hW
  have hA : DataW.TrodAll enc Try.prog W 0 (fun _ => true) true Try.f7.params.toList args.toList ds p := hA0
  rw [Try.params7] at hA hval
  obtain ⟨v0, vs0, d0, ds0, p0, q0, hargs, rfl, rfl, h0, r0⟩ := trodAll_cons hA
  obtain ⟨rfl, rfl, rfl⟩ := trodAll_nil r0
  obtain rfl : args = #[v0] := by cases args; simp_all
  obtain ⟨rfl, rfl⟩ := trodVars_none hV
  have k0 := h0
  have lt0 : ∀ x ∈ p0, x.block < W.heap.size := by obtain ⟨m, hm⟩ := k0; exact DataW.trod_lt m _ _ _ hm
  obtain ⟨a0, len0, cap0, rfl⟩ := okWide_slice Try.underlying22 (hval 0 22 v0 rfl rfl)
  obtain ⟨z0, w0⟩ : ∃ zs, IsRow .u8 W a0 len0 cap0 zs := by
    obtain ⟨fuel, hf⟩ := h0
    rcases open_ints Try.underlying22 Try.underlying5 (by kernel_rfl) hf with ⟨hcs, _⟩ | ⟨x, l, c, zs, hcs, _, hl, hm, hz, _, hcell, hwz⟩
    · simp [Value.cells] at hcs
      obtain ⟨rfl, rfl, rfl⟩ := hcs
      exact ⟨[], .inl ⟨rfl, rfl, rfl, rfl⟩⟩
    · simp [Value.cells] at hcs
      obtain ⟨rfl, rfl, rfl⟩ := hcs
      exact ⟨zs, .inr ⟨_, rfl, hl, hm, by simpa using hz, hcell, hwz⟩⟩
  clear hA0 hval0
  refine (walk_FnDoorStep a0 len0 cap0 z0 W w0).mono fun e W' ⟨he, bel⟩ => ?_
  subst he
  exact ⟨_, rfl, _, _, _, [], _, [], hW', trodAll_mk1 (shut_bool Try.underlying4 _), (trodAll_cons_mk (Below.trod laidOut (by kernel_rfl) (of_decide_eq_true (by kernel_rfl)) k0 bel lt0) trodAll_mk0), rfl, bel.frame _, fun h => by cases h⟩
theorem over : Rows.fnDoorStepRow.holds Try.pinned (OpenSpec.ofChange Rows.fnDoorStepSpec) :=
  OpenClaim.holds_of_wide 7 Try.f7 rfl rfl rfl rfl rfl rfl rfl ⟨rfl, rfl, rfl, rfl, rfl⟩ rfl rfl rfl rfl rfl (by kernel_rfl) Try.func7 (by kernel_rfl)
    (of_decide_eq_true (by kernel_rfl)) (by unfold Func.isWrapper; first | (rw [if_pos (by decide +kernel)]; kernel_rfl) | (rw [if_neg (by decide +kernel)]; exact ⟨rfl, rfl⟩))
    (fun os started H enc _ => lifted os started H enc)
/-- The statement. -/
theorem proved : Rows.FnDoorStepSaid := over
end fnDoorStep
#print axioms fnDoorStep.proved
end Go.Proofs.Ytjnoejlccbfcjaa
