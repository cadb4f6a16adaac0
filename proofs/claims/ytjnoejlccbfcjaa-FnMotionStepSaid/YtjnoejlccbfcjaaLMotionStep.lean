/- FnMotionStep returns true for every code: nothing is jerked. No conditions. -/
import Derived.Test.YtjnoejlccbfcjaaOpn
import Derived.Test.YtjnoejlccbfcjaaDra
import Derived.Test.YtjnoejlccbfcjaaDrive
import Derived.Test.YtjnoejlccbfcjaaPlainD
import Derived.Deep.RegionWith
namespace Go.Proofs.Ytjnoejlccbfcjaa
open Go.ChangeShapes Go.WideShapes Go.ChangeAt Go.RowKit Go.Joins Pl
theorem mstep_ways {a v t x y : Int} (hx : (stepM a v t).1 = x) (hy : (stepM a v t).2 = y) (hm : motV a v = true) (ht : inB t 0 60 = true) : motV x y = true ∧ (((y == 0) = true ∧ (x == 0) = true) ∨ ((y == 0) = true ∧ (x == 0) = false ∧ (x == 60) = true) ∨
    ((y == 0) = true ∧ (x == 0) = false ∧ (x == 60) = false ∧ y - v ≤ 1 ∧ v - y ≤ 1 ∧ (x == a + y) = true) ∨ ((y == 0) = false ∧ y - v ≤ 1 ∧ v - y ≤ 1 ∧ (x == a + y) = true)) := by
  obtain ⟨h1, h2⟩ := step_law hm ht
  rw [hx, hy] at h1 h2
  refine ⟨h1, ?_⟩
  by_cases e1 : y = 0
  · by_cases e2 : x = 0
    · exact .inl ⟨by simp [e1], by simp [e2]⟩
    · by_cases e3 : x = 60
      · exact .inr (.inl ⟨by simp [e1], by simp [e2], by simp [e3]⟩)
      · rcases h2 with ⟨_, h | h⟩ | ⟨h3, h4, h5⟩
        · exact absurd h e2
        · exact absurd h e3
        · exact .inr (.inr (.inl ⟨by simp [e1], by simp [e2], by simp [e3], h3, by omega, by simp [← h5]⟩))
  · rcases h2 with ⟨h, _⟩ | ⟨h3, h4, h5⟩
    · exact absurd h e1
    · exact .inr (.inr (.inr ⟨by simp [e1], h3, by omega, by simp [← h5]⟩))
set_option maxHeartbeats 4000000 in
theorem walk_FnMotionStep (a0 : Option Addr) (len0 cap0 : Nat) (z0 : List Int) (w : World) (h0 : IsRow .u8 w a0 len0 cap0 z0) :
    Calls Try.prog 14 #[.slice a0 len0 cap0] w fun e w' => e = .returned (.bool true) ∧ Below w.heap.size w w' := by
  obtain ⟨src, hcap⟩ := srcB_of_row h0
  clear h0
  by_cases hbig : 1048576 < len0
  · go_enter Try.func14, Try.ntmps14
    go_wp2
    go_ret
    exact ⟨rfl, Below.refl _ _⟩
  go_enter Try.func14, Try.ntmps14
  go_wp2_with fail
  refine (c_DrawMotionStep _ _ _ _ _ src (by omega) hcap).mono ?_
  rintro e w1 ⟨a, v, t, ha, hv, ht, rfl, B1⟩
  obtain ⟨a1, a2⟩ := ha
  obtain ⟨v1, v2⟩ := hv
  obtain ⟨t1, t2⟩ := ht
  rcases hm : motV a v
  · have hx : (stepM a v t).1 = 0 := by unfold stepM; rw [hm]; rfl
    have hy : (stepM a v t).2 = 0 := by unfold stepM; rw [hm]; rfl
    have HX := Lib.hid hx; clear hx
    have HY := Lib.hid hy; clear hy
    have HM := Lib.hid hm; clear hm
    go_wp2_with fail
    refine (c_stepI _ _ _ _).mono ?_
    rintro e w2 ⟨rfl, hb2⟩
    rw [HX.out, HY.out]
    have B2 := stepB (B1.alloc B1.size _) hb2
    have mo2 := (Own2.new _ _ _ _).call hb2
    have c0 := mo2.c0
    have c1 := mo2.c1
    have cl := mo2.lt
    have B3 := B2.alloc B2.size (.cells #[.int .i64 0, .int .i64 0] 31)
    have mo3 := mo2.alloc (.cells #[.int .i64 0, .int .i64 0] 31)
    have xo3 := Own2.new w2 (.int .i64 0) (.int .i64 0) 31
    clear c0 c1
    have c0 := mo3.c0
    have c1 := mo3.c1
    have d0 := xo3.c0
    have d1 := xo3.c1
    go_wp2_with fail
    go_region_with (first | (go_at_call 52; refine (c_stepS _ _ _ _).mono ?_; rintro e w4 ⟨rfl, hb4⟩; rw [HX.out, HY.out]; have Bk := stepB B3.drew hb4; have mo4 := mo3.drew.call hb4; have c0' := mo4.c0; have c1' := mo4.c1; have xo4 := xo3.drew.call hb4; have d0' := xo4.c0; have d1' := xo4.c1))
    all_goals
      have B4 := Bk
      clear c0 c1 d0 d1
      have c0 := c0'
      have c1 := c1'
      have cl := mo4.lt
      have d0 := d0'
      have d1 := d1'
      have dl := xo4.lt
      clear c0' c1' d0' d1'
      go_wp2_with fail
      refine (c_motVS _ _ _).mono ?_
      rintro e w5 ⟨rfl, hb5⟩
      rw [HM.out]
      have B5 := stepB B4 hb5
      have mo5 := mo4.call hb5
      have xo5 := xo4.call hb5
      clear c0 c1 d0 d1
      have c0 := mo5.c0
      have c1 := mo5.c1
      have cl := mo5.lt
      have d0 := xo5.c0
      have d1 := xo5.c1
      have dl := xo5.lt
      go_wp2_with fail
      refine (c_alive _).mono ?_
      rintro e w6 ⟨rfl, hb6⟩
      go_wp2
      go_ret
      exact ⟨rfl, stepB B5 hb6⟩
  · by_cases ht : t < 0
    · have hi : inB t 0 60 = false := inB_lo ht
      have hx : (stepM a v t).1 = 0 := by unfold stepM; rw [hm, hi]; rfl
      have hy : (stepM a v t).2 = 0 := by unfold stepM; rw [hm, hi]; rfl
      have HX := Lib.hid hx; clear hx
      have HY := Lib.hid hy; clear hy
      have HM := Lib.hid hm; clear hm hi
      go_wp2_with fail
      refine (c_stepI _ _ _ _).mono ?_
      rintro e w2 ⟨rfl, hb2⟩
      rw [HX.out, HY.out]
      have B2 := stepB (B1.alloc B1.size _) hb2
      have mo2 := (Own2.new _ _ _ _).call hb2
      have c0 := mo2.c0
      have c1 := mo2.c1
      have cl := mo2.lt
      have B3 := B2.alloc B2.size (.cells #[.int .i64 0, .int .i64 0] 31)
      have mo3 := mo2.alloc (.cells #[.int .i64 0, .int .i64 0] 31)
      have xo3 := Own2.new w2 (.int .i64 0) (.int .i64 0) 31
      clear c0 c1
      have c0 := mo3.c0
      have c1 := mo3.c1
      have d0 := xo3.c0
      have d1 := xo3.c1
      go_wp2_with fail
      go_region_with (first | (go_at_call 52; refine (c_stepS _ _ _ _).mono ?_; rintro e w4 ⟨rfl, hb4⟩; rw [HX.out, HY.out]; have Bk := stepB B3.drew hb4; have mo4 := mo3.drew.call hb4; have c0' := mo4.c0; have c1' := mo4.c1; have xo4 := xo3.drew.call hb4; have d0' := xo4.c0; have d1' := xo4.c1))
      all_goals
        have B4 := Bk
        clear c0 c1 d0 d1
        have c0 := c0'
        have c1 := c1'
        have cl := mo4.lt
        have d0 := d0'
        have d1 := d1'
        have dl := xo4.lt
        clear c0' c1' d0' d1'
        go_wp2_with fail
        refine (c_motVS _ _ _).mono ?_
        rintro e w5 ⟨rfl, hb5⟩
        rw [HM.out]
        have B5 := stepB B4 hb5
        have mo5 := mo4.call hb5
        have xo5 := xo4.call hb5
        clear c0 c1 d0 d1
        have c0 := mo5.c0
        have c1 := mo5.c1
        have cl := mo5.lt
        have d0 := xo5.c0
        have d1 := xo5.c1
        have dl := xo5.lt
        go_wp2_with fail
        refine (c_alive _).mono ?_
        rintro e w6 ⟨rfl, hb6⟩
        go_wp2
        go_ret
        exact ⟨rfl, stepB B5 hb6⟩
    · have hi : inB t 0 60 = true := inB_mk (by omega) t2
      have dt : decide (t < 0) = false := by simpa using ht
      obtain ⟨x, hx⟩ : ∃ x, (stepM a v t).1 = x := ⟨_, rfl⟩
      obtain ⟨y, hy⟩ : ∃ y, (stepM a v t).2 = y := ⟨_, rfl⟩
      obtain ⟨hv', hways⟩ := mstep_ways hx hy hm hi
      have HX := Lib.hid hx; clear hx
      have HY := Lib.hid hy; clear hy
      have HM := Lib.hid hm; clear hm hi
      obtain ⟨⟨x1, x2⟩, y1, y2⟩ := motV_iff.1 hv'
      have HV := Lib.hid hv'; clear hv' ht
      rcases hways with ⟨p1, p2⟩ | ⟨p1, p2, p3⟩ | ⟨p1, p2, p3, p4, p5, p6⟩ | ⟨p1, p4, p5, p6⟩
      all_goals
        go_wp2_with fail
        refine (c_stepI _ _ _ _).mono ?_
        rintro e w2 ⟨rfl, hb2⟩
        rw [HX.out, HY.out]
        have B2 := stepB (B1.alloc B1.size _) hb2
        have mo2 := (Own2.new _ _ _ _).call hb2
        have c0 := mo2.c0
        have c1 := mo2.c1
        have cl := mo2.lt
        have B3 := B2.alloc B2.size (.cells #[.int .i64 x, .int .i64 y] 31)
        have mo3 := mo2.alloc (.cells #[.int .i64 x, .int .i64 y] 31)
        have xo3 := Own2.new w2 (.int .i64 x) (.int .i64 y) 31
        clear c0 c1
        have c0 := mo3.c0
        have c1 := mo3.c1
        have d0 := xo3.c0
        have d1 := xo3.c1
        go_wp2_with fail
        go_region_with (first | (go_at_call 52; refine (c_stepS _ _ _ _).mono ?_; rintro e w4 ⟨rfl, hb4⟩; rw [HX.out, HY.out]; have Bk := stepB B3.drew hb4; have mo4 := mo3.drew.call hb4; have c0' := mo4.c0; have c1' := mo4.c1; have xo4 := xo3.drew.call hb4; have d0' := xo4.c0; have d1' := xo4.c1))
        all_goals
          have B4 := Bk
          clear c0 c1 d0 d1
          have c0 := c0'
          have c1 := c1'
          have cl := mo4.lt
          have d0 := d0'
          have d1 := d1'
          have dl := xo4.lt
          clear c0' c1' d0' d1'
          go_wp2_with fail
          refine (c_motVS _ _ _).mono ?_
          rintro e w5 ⟨rfl, hb5⟩
          rw [HM.out]
          have B5 := stepB B4 hb5
          have mo5 := mo4.call hb5
          have xo5 := xo4.call hb5
          clear c0 c1 d0 d1
          have c0 := mo5.c0
          have c1 := mo5.c1
          have cl := mo5.lt
          have d0 := xo5.c0
          have d1 := xo5.c1
          have dl := xo5.lt
          go_wp2_with fail
          refine (c_motVI _ _ _).mono ?_
          rintro e w6 ⟨rfl, hb6⟩
          rw [HV.out]
          have B6 := stepB B5 hb6
          have mo6 := mo5.call hb6
          have xo6 := xo5.call hb6
          clear c0 c1 d0 d1
          have c0 := mo6.c0
          have c1 := mo6.c1
          have cl := mo6.lt
          have d0 := xo6.c0
          have d1 := xo6.c1
          have dl := xo6.lt
          go_wp2
          go_ret
          exact ⟨rfl, B6⟩
namespace fnMotionStep
set_option linter.unusedVariables false
set_option maxRecDepth 100000 in
theorem lifted (os : Os) (started : os.Started) (H : Type) (enc : TypeId × Value → H) :
    ReturnsInHanded {} Try.checked os 14 .any (Rows.fnMotionStepSpec.pre6 enc Try.prog Try.f14 Rows.fnMotionStepRow.domain false) (Rows.fnMotionStepSpec.post enc Try.prog Try.f14 false true false false) := by
  refine returnsInHanded_of_change (C := Try.checked) own started (by kernel_rfl) Try.func14
    (ChangeSpec.witness6 (enc := enc) (C := Try.checked) false ⟨#[], #[.slice none 0 0], []⟩ 8 (by kernel_rfl) (by kernel_rfl) (by kernel_rfl) (by kernel_rfl)) ?_
  intro W base args ds gs before hval0 hW hcnd _
  have hval : ∀ (j : Nat) t v, Try.f14.params[j]? = some t → args[j]? = some v → Value.okWide Try.prog W .any base t v := hval0
  have hW' := hW
  obtain ⟨p, q, hA0, hV, rfl, hfz, hnd⟩ := hW
  have hA : DataW.TrodAll enc Try.prog W 0 (fun _ => true) true Try.f14.params.toList args.toList ds p := hA0
  rw [Try.params14] at hA hval
  obtain ⟨v0, vs0, d0, ds0, p0, q0, hargs, rfl, rfl, h0, r0⟩ := trodAll_cons hA
  obtain ⟨rfl, rfl, rfl⟩ := trodAll_nil r0
  obtain rfl : args = #[v0] := by cases args; simp_all
  obtain ⟨rfl, rfl⟩ := trodVars_none hV
  have k0 := h0
  have lt0 : ∀ x ∈ p0, x.block < W.heap.size := by obtain ⟨m, hm⟩ := k0; exact DataW.trod_lt m _ _ _ hm
  obtain ⟨a0, len0, cap0, rfl⟩ := okWide_slice Try.underlying22 (hval 0 22 v0 rfl rfl)
  obtain ⟨z0, w0⟩ : ∃ zs, IsRow .u8 W a0 len0 cap0 zs := by
    obtain ⟨fuel, hf⟩ := h0
    rcases open_ints Try.underlying22 Try.underlying5 (by kernel_rfl) hf with ⟨hcs, _⟩ | ⟨x, l, c, zs, hcs, _, hl, hm, hz, _, hcell, hwz⟩
    · simp [Value.cells] at hcs
      obtain ⟨rfl, rfl, rfl⟩ := hcs
      exact ⟨[], .inl ⟨rfl, rfl, rfl, rfl⟩⟩
    · simp [Value.cells] at hcs
      obtain ⟨rfl, rfl, rfl⟩ := hcs
      exact ⟨zs, .inr ⟨_, rfl, hl, hm, by simpa using hz, hcell, hwz⟩⟩
  clear hA0 hval0
  refine (walk_FnMotionStep a0 len0 cap0 z0 W w0).mono fun e W' ⟨he, bel⟩ => ?_
  subst he
  exact ⟨_, rfl, _, _, _, [], _, [], hW', trodAll_mk1 (shut_bool Try.underlying4 _), (trodAll_cons_mk (Below.trod laidOut (by kernel_rfl) (of_decide_eq_true (by kernel_rfl)) k0 bel lt0) trodAll_mk0), rfl, bel.frame _, fun h => by cases h⟩
theorem over : Rows.fnMotionStepRow.holds Try.pinned (OpenSpec.ofChange Rows.fnMotionStepSpec) :=
  OpenClaim.holds_of_wide 14 Try.f14 rfl rfl rfl rfl rfl rfl rfl ⟨rfl, rfl, rfl, rfl, rfl⟩ rfl rfl rfl rfl rfl (by kernel_rfl) Try.func14 (by kernel_rfl)
    (of_decide_eq_true (by kernel_rfl)) (by unfold Func.isWrapper; first | (rw [if_pos (by decide +kernel)]; kernel_rfl) | (rw [if_neg (by decide +kernel)]; exact ⟨rfl, rfl⟩))
    (fun os started H enc _ => lifted os started H enc)
/-- The statement. -/
theorem proved : Rows.FnMotionStepSaid := over
end fnMotionStep
#print axioms fnMotionStep.proved
end Go.Proofs.Ytjnoejlccbfcjaa
