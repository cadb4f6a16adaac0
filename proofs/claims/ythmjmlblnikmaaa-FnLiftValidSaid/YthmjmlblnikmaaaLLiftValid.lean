/- FnLiftValid returns true for every code: doors are open at floors only. No conditions. -/
import Derived.Test.YthmjmlblnikmaaaOpn
import Derived.Test.YthmjmlblnikmaaaDraL
import Derived.Test.YthmjmlblnikmaaaLif
namespace Go.Proofs.Ythmjmlblnikmaaa
open Go.ChangeShapes Go.WideShapes Go.ChangeAt Go.RowKit Go.Joins Pl
theorem lval_ways {L : List Int} {a v g h : Int} (hm : liftV L a v g h = true) : liftV L a v 0 0 = true ∧ (g = 0 ∨ (g == 0) = false ∧ v = 0 ∧ ∃ k : Nat, floorAt L a = (k : Int)) := by
  obtain ⟨h1, h2, h3, h4⟩ := liftV_iff.1 hm
  refine ⟨liftV_iff.2 ⟨h1, h2, by decide, .inl rfl⟩, ?_⟩
  by_cases hg : g = 0
  · exact .inl hg
  · refine .inr ⟨by simp [hg], ?_⟩
    rcases h4 with h4 | h4
    · exact absurd h4 hg
    · unfold standF at h4
      by_cases hv : v = 0
      · rw [if_pos hv] at h4
        exact ⟨hv, (floorAt L a).toNat, by omega⟩
      · rw [if_neg hv] at h4; omega
set_option maxHeartbeats 8000000 in
theorem walk_FnLiftValid (a0 : Option Addr) (len0 cap0 : Nat) (z0 : List Int) (w : World) (h0 : IsRow .u8 w a0 len0 cap0 z0) :
    Calls Try.prog 6 #[.slice a0 len0 cap0] w fun e w' => e = .returned (.bool true) ∧ Below w.heap.size w w' := by
  obtain ⟨src, hcap⟩ := srcB_of_row h0
  clear h0
  by_cases hbig : 1048576 < len0
  · go_enter Try.func6, Try.ntmps6
    go_wp2
    go_ret
    exact ⟨rfl, Below.refl _ _⟩
  go_enter Try.func6, Try.ntmps6
  go_wp2_with fail
  refine (c_DrawLiftValid _ _ _ _ _ src (by omega) hcap).mono ?_
  rintro e w1 ⟨A, n, cp, L, a, v, g, h, hn, hc, s1, rfl, B1⟩
  rcases hm : liftV L a v g h
  · have HM := Lib.hid hm; clear hm
    have B1 := B1.alloc B1.size (.cells #[.int .i64 a, .int .i64 v, .int .i64 g, .int .i64 h] 29)
    have s1 := s1.alloc (.cells #[.int .i64 a, .int .i64 v, .int .i64 g, .int .i64 h] 29)
    have x1 := Own4.new w1 (.int .i64 a) (.int .i64 v) (.int .i64 g) (.int .i64 h) 29
    have o0 := x1.c0
    have o1 := x1.c1
    have o2 := x1.c2
    have o3 := x1.c3
    have oz0 := x1.f0
    have oz1 := x1.f1
    have oz2 := x1.f2
    have oz3 := x1.f3
    have ol := x1.lt
    go_wp2_with fail
    refine (c_lvI _ _ _ _ _ _ _ _ _ s1 (by omega)).mono ?_
    rintro e w2 ⟨rfl, hb2⟩
    rw [HM.out]
    have B2 := stepB B1 hb2
    have s2 := s1.call hb2
    clear o0 oz0 o1 oz1 o2 oz2 o3 oz3 ol
    have x2 := x1.call hb2
    have o0 := x2.c0
    have o1 := x2.c1
    have o2 := x2.c2
    have o3 := x2.c3
    have oz0 := x2.f0
    have oz1 := x2.f1
    have oz2 := x2.f2
    have oz3 := x2.f3
    have ol := x2.lt
    clear hb2
    go_wp2_with fail
    refine (c_lvS _ _ _ _ _ _ _ _ _ s2 (by omega)).mono ?_
    rintro e w3 ⟨rfl, hb3⟩
    rw [HM.out]
    have B3 := stepB B2 hb3
    have s3 := s2.call hb3
    clear o0 oz0 o1 oz1 o2 oz2 o3 oz3 ol
    have x3 := x2.call hb3
    have o0 := x3.c0
    have o1 := x3.c1
    have o2 := x3.c2
    have o3 := x3.c3
    have oz0 := x3.f0
    have oz1 := x3.f1
    have oz2 := x3.f2
    have oz3 := x3.f3
    have ol := x3.lt
    clear hb3
    go_wp2_with fail
    refine (c_alive _).mono ?_
    rintro e w4 ⟨rfl, hb4⟩
    go_wp2
    go_ret
    exact ⟨rfl, stepB B3 hb4⟩
  · obtain ⟨hm0, hw⟩ := lval_ways hm
    have HM := Lib.hid hm; clear hm
    have H0 := Lib.hid hm0; clear hm0
    rcases hw with rfl | ⟨hg, rfl, k, hk⟩
    · have B1 := B1.alloc B1.size (.cells #[.int .i64 a, .int .i64 v, .int .i64 0, .int .i64 h] 29)
      have s1 := s1.alloc (.cells #[.int .i64 a, .int .i64 v, .int .i64 0, .int .i64 h] 29)
      have x1 := Own4.new w1 (.int .i64 a) (.int .i64 v) (.int .i64 0) (.int .i64 h) 29
      have o0 := x1.c0
      have o1 := x1.c1
      have o2 := x1.c2
      have o3 := x1.c3
      have oz0 := x1.f0
      have oz1 := x1.f1
      have oz2 := x1.f2
      have oz3 := x1.f3
      have ol := x1.lt
      go_wp2_with fail
      refine (c_lvI _ _ _ _ _ _ _ _ _ s1 (by omega)).mono ?_
      rintro e w2 ⟨rfl, hb2⟩
      rw [HM.out]
      have B2 := stepB B1 hb2
      have s2 := s1.call hb2
      clear o0 oz0 o1 oz1 o2 oz2 o3 oz3 ol
      have x2 := x1.call hb2
      have o0 := x2.c0
      have o1 := x2.c1
      have o2 := x2.c2
      have o3 := x2.c3
      have oz0 := x2.f0
      have oz1 := x2.f1
      have oz2 := x2.f2
      have oz3 := x2.f3
      have ol := x2.lt
      clear hb2
      go_wp2_with fail
      refine (c_lvS _ _ _ _ _ _ _ _ _ s2 (by omega)).mono ?_
      rintro e w3 ⟨rfl, hb3⟩
      rw [HM.out]
      have B3 := stepB B2 hb3
      have s3 := s2.call hb3
      clear o0 oz0 o1 oz1 o2 oz2 o3 oz3 ol
      have x3 := x2.call hb3
      have o0 := x3.c0
      have o1 := x3.c1
      have o2 := x3.c2
      have o3 := x3.c3
      have oz0 := x3.f0
      have oz1 := x3.f1
      have oz2 := x3.f2
      have oz3 := x3.f3
      have ol := x3.lt
      clear hb3
      go_wp2_with fail
      refine (c_lvI _ _ _ _ _ _ _ _ _ s3 (by omega)).mono ?_
      rintro e w4 ⟨rfl, hb4⟩
      rw [H0.out]
      have B4 := stepB B3 hb4
      have s4 := s3.call hb4
      clear o0 oz0 o1 oz1 o2 oz2 o3 oz3 ol
      have x4 := x3.call hb4
      have o0 := x4.c0
      have o1 := x4.c1
      have o2 := x4.c2
      have o3 := x4.c3
      have oz0 := x4.f0
      have oz1 := x4.f1
      have oz2 := x4.f2
      have oz3 := x4.f3
      have ol := x4.lt
      clear hb4
      go_wp2
      go_ret
      exact ⟨rfl, B4⟩
    · have HK := Lib.hid hk; clear hk
      have B1 := B1.alloc B1.size (.cells #[.int .i64 a, .int .i64 0, .int .i64 g, .int .i64 h] 29)
      have s1 := s1.alloc (.cells #[.int .i64 a, .int .i64 0, .int .i64 g, .int .i64 h] 29)
      have x1 := Own4.new w1 (.int .i64 a) (.int .i64 0) (.int .i64 g) (.int .i64 h) 29
      have o0 := x1.c0
      have o1 := x1.c1
      have o2 := x1.c2
      have o3 := x1.c3
      have oz0 := x1.f0
      have oz1 := x1.f1
      have oz2 := x1.f2
      have oz3 := x1.f3
      have ol := x1.lt
      go_wp2_with fail
      refine (c_lvI _ _ _ _ _ _ _ _ _ s1 (by omega)).mono ?_
      rintro e w2 ⟨rfl, hb2⟩
      rw [HM.out]
      have B2 := stepB B1 hb2
      have s2 := s1.call hb2
      clear o0 oz0 o1 oz1 o2 oz2 o3 oz3 ol
      have x2 := x1.call hb2
      have o0 := x2.c0
      have o1 := x2.c1
      have o2 := x2.c2
      have o3 := x2.c3
      have oz0 := x2.f0
      have oz1 := x2.f1
      have oz2 := x2.f2
      have oz3 := x2.f3
      have ol := x2.lt
      clear hb2
      go_wp2_with fail
      refine (c_lvS _ _ _ _ _ _ _ _ _ s2 (by omega)).mono ?_
      rintro e w3 ⟨rfl, hb3⟩
      rw [HM.out]
      have B3 := stepB B2 hb3
      have s3 := s2.call hb3
      clear o0 oz0 o1 oz1 o2 oz2 o3 oz3 ol
      have x3 := x2.call hb3
      have o0 := x3.c0
      have o1 := x3.c1
      have o2 := x3.c2
      have o3 := x3.c3
      have oz0 := x3.f0
      have oz1 := x3.f1
      have oz2 := x3.f2
      have oz3 := x3.f3
      have ol := x3.lt
      clear hb3
      go_wp2_with fail
      refine (c_lvI _ _ _ _ _ _ _ _ _ s3 (by omega)).mono ?_
      rintro e w4 ⟨rfl, hb4⟩
      rw [H0.out]
      have B4 := stepB B3 hb4
      have s4 := s3.call hb4
      clear o0 oz0 o1 oz1 o2 oz2 o3 oz3 ol
      have x4 := x3.call hb4
      have o0 := x4.c0
      have o1 := x4.c1
      have o2 := x4.c2
      have o3 := x4.c3
      have oz0 := x4.f0
      have oz1 := x4.f1
      have oz2 := x4.f2
      have oz3 := x4.f3
      have ol := x4.lt
      clear hb4
      go_wp2_with fail
      refine (c_faI _ _ _ _ _ _ s4 (by omega)).mono ?_
      rintro e w5 ⟨rfl, d5⟩
      rw [HK.out]
      go_wp2
      go_ret
      exact ⟨rfl, stepB B4 d5.below⟩
namespace fnLiftValid
set_option linter.unusedVariables false
set_option maxRecDepth 100000 in
theorem lifted (os : Os) (started : os.Started) (H : Type) (enc : TypeId × Value → H) :
    ReturnsInHanded {} Try.checked os 6 .any (Rows.fnLiftValidSpec.pre6 enc Try.prog Try.f6 Rows.fnLiftValidRow.domain false) (Rows.fnLiftValidSpec.post enc Try.prog Try.f6 false true false false) := by
  refine returnsInHanded_of_change (C := Try.checked) own started (by kernel_rfl) Try.func6
    (ChangeSpec.witness6 (enc := enc) (C := Try.checked) false ⟨#[], #[.slice none 0 0], []⟩ 8 (by kernel_rfl) (by kernel_rfl) (by kernel_rfl) (by kernel_rfl)) ?_
  intro W base args ds gs before hval0 hW hcnd _
  have hval : ∀ (j : Nat) t v, Try.f6.params[j]? = some t → args[j]? = some v → Value.okWide Try.prog W .any base t v := hval0
  have hW' := hW
  obtain ⟨p, q, hA0, hV, rfl, hfz, hnd⟩ := hW
  have hA : DataW.TrodAll enc Try.prog W 0 (fun _ => true) true Try.f6.params.toList args.toList ds p := hA0
  rw [Try.params6] at hA hval
  obtain ⟨v0, vs0, d0, ds0, p0, q0, hargs, rfl, rfl, h0, r0⟩ := trodAll_cons hA
  obtain ⟨rfl, rfl, rfl⟩ := trodAll_nil r0
  obtain rfl : args = #[v0] := by cases args; simp_all
  obtain ⟨rfl, rfl⟩ := trodVars_none hV
  have k0 := h0
  have lt0 : ∀ x ∈ p0, x.block < W.heap.size := by obtain ⟨m, hm⟩ := k0; exact DataW.trod_lt m _ _ _ hm
  obtain ⟨a0, len0, cap0, rfl⟩ := okWide_slice Try.underlying22 (hval 0 22 v0 rfl rfl)
  obtain ⟨z0, w0⟩ : ∃ zs, IsRow .u8 W a0 len0 cap0 zs := by
    obtain ⟨fuel, hf⟩ := h0
    rcases open_ints Try.underlying22 Try.underlying5 (by kernel_rfl) hf with ⟨hcs, _⟩ | ⟨x, l, c, zs, hcs, _, hl, hm, hz, _, hcell, hwz⟩
    · simp [Value.cells] at hcs
      obtain ⟨rfl, rfl, rfl⟩ := hcs
      exact ⟨[], .inl ⟨rfl, rfl, rfl, rfl⟩⟩
    · simp [Value.cells] at hcs
      obtain ⟨rfl, rfl, rfl⟩ := hcs
      exact ⟨zs, .inr ⟨_, rfl, hl, hm, by simpa using hz, hcell, hwz⟩⟩
  clear hA0 hval0
  refine (walk_FnLiftValid a0 len0 cap0 z0 W w0).mono fun e W' ⟨he, bel⟩ => ?_
  subst he
  exact ⟨_, rfl, _, _, _, [], _, [], hW', trodAll_mk1 (shut_bool Try.underlying4 _), (trodAll_cons_mk (Below.trod laidOut (by kernel_rfl) (of_decide_eq_true (by kernel_rfl)) k0 bel lt0) trodAll_mk0), rfl, bel.frame _, fun h => by cases h⟩
theorem over : Rows.fnLiftValidRow.holds Try.pinned (OpenSpec.ofChange Rows.fnLiftValidSpec) :=
  OpenClaim.holds_of_wide 6 Try.f6 rfl rfl rfl rfl rfl rfl rfl ⟨rfl, rfl, rfl, rfl, rfl⟩ rfl rfl rfl rfl rfl (by kernel_rfl) Try.func6 (by kernel_rfl)
    (of_decide_eq_true (by kernel_rfl)) (by unfold Func.isWrapper; first | (rw [if_pos (by decide +kernel)]; kernel_rfl) | (rw [if_neg (by decide +kernel)]; exact ⟨rfl, rfl⟩))
    (fun os started H enc _ => lifted os started H enc)
/-- The statement. -/
theorem proved : Rows.FnLiftValidSaid := over
end fnLiftValid
#print axioms fnLiftValid.proved
end Go.Proofs.Ythmjmlblnikmaaa
