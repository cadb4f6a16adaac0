/- FnCanStop returns true for every code: who can stop can go on so. No conditions. -/
import Derived.Test.YtjnoejlccbfcjaaOpn
import Derived.Test.YtjnoejlccbfcjaaDra
import Derived.Test.YtjnoejlccbfcjaaDrive
import Derived.Test.YtjnoejlccbfcjaaPlainD
import Derived.IntWalk
namespace Go.Proofs.Ytjnoejlccbfcjaa
open Go.ChangeShapes Go.WideShapes Go.ChangeAt Go.RowKit Go.Joins Pl
set_option maxHeartbeats 4000000 in
theorem walk_FnCanStop (a0 : Option Addr) (len0 cap0 : Nat) (z0 : List Int) (w : World) (h0 : IsRow .u8 w a0 len0 cap0 z0) :
    Calls Try.prog 12 #[.slice a0 len0 cap0] w fun e w' => e = .returned (.bool true) ∧ Below w.heap.size w w' := by
  obtain ⟨src, hcap⟩ := srcB_of_row h0
  clear h0
  by_cases hbig : 1048576 < len0
  · go_enter Try.func12, Try.ntmps12
    go_wp2
    go_ret
    exact ⟨rfl, Below.refl _ _⟩
  go_enter Try.func12, Try.ntmps12
  go_wp2_with fail
  refine (c_DrawCanStop _ _ _ _ _ src (by omega) hcap).mono ?_
  rintro e w1 ⟨a, v, t, ha, hv, ht, rfl, B1⟩
  obtain ⟨a1, a2⟩ := ha
  obtain ⟨v1, v2⟩ := hv
  obtain ⟨t1, t2⟩ := ht
  rcases hm : canStop a v t
  · have HM := Lib.hid hm; clear hm
    go_wp2_with fail
    refine (c_canI _ _ _ _).mono ?_
    rintro e w2 ⟨rfl, hb2⟩
    rw [HM.out]
    have B2 := stepB (B1.alloc B1.size _) hb2
    have mo2 := (Own2.new _ _ _ _).call hb2
    have c0 := mo2.c0
    have c1 := mo2.c1
    have cl := mo2.lt
    go_wp2_with fail
    refine (c_canS _ _ _ _).mono ?_
    rintro e w3 ⟨rfl, hb3⟩
    rw [HM.out]
    have B3 := stepB B2 hb3
    have mo3 := mo2.call hb3
    clear c0 c1
    have c0 := mo3.c0
    have c1 := mo3.c1
    have cl := mo3.lt
    go_wp2_with fail
    refine (c_alive _).mono ?_
    rintro e w4 ⟨rfl, hb4⟩
    go_wp2
    go_ret
    exact ⟨rfl, stepB B3 hb4⟩
  · obtain ⟨k1, k2, k3, k4⟩ := can_law hm
    have HM := Lib.hid hm; clear hm
    obtain ⟨x, hx⟩ : ∃ x, (stepM a v t).1 = x := ⟨_, rfl⟩
    obtain ⟨y, hy⟩ : ∃ y, (stepM a v t).2 = y := ⟨_, rfl⟩
    rw [hx, hy] at k1
    rw [hx] at k2 k3
    have HX := Lib.hid hx; clear hx
    have HY := Lib.hid hy; clear hy
    have K1 := Lib.hid k1; clear k1
    go_wp2_with fail
    refine (c_canI _ _ _ _).mono ?_
    rintro e w2 ⟨rfl, hb2⟩
    rw [HM.out]
    have B2 := stepB (B1.alloc B1.size _) hb2
    have mo2 := (Own2.new _ _ _ _).call hb2
    have c0 := mo2.c0
    have c1 := mo2.c1
    have cl := mo2.lt
    go_wp2_with fail
    refine (c_canS _ _ _ _).mono ?_
    rintro e w3 ⟨rfl, hb3⟩
    rw [HM.out]
    have B3 := stepB B2 hb3
    have mo3 := mo2.call hb3
    clear c0 c1
    have c0 := mo3.c0
    have c1 := mo3.c1
    have cl := mo3.lt
    go_wp2_with fail
    refine (c_stepI _ _ _ _).mono ?_
    rintro e w4 ⟨rfl, hb4⟩
    rw [HX.out, HY.out]
    have B4 := stepB B3 hb4
    have mo4 := mo3.call hb4
    clear c0 c1
    have c0 := mo4.c0
    have c1 := mo4.c1
    have cl := mo4.lt
    go_wp2_with fail
    refine (c_canI _ _ _ _).mono ?_
    rintro e w5 ⟨rfl, hb5⟩
    rw [K1.out]
    have B5 := stepB (B4.alloc B4.size _) hb5
    have mo5 := (mo4.alloc _).call hb5
    have xo5 := (Own2.new _ _ _ _).call hb5
    clear c0 c1
    have c0 := mo5.c0
    have c1 := mo5.c1
    have cl := mo5.lt
    have d0 := xo5.c0
    have d1 := xo5.c1
    have dl := xo5.lt
    have p1 : decide (t < a) = true ∨ (decide (t < a) = false ∧ decide (x ≤ t) = true) := by
      by_cases h : t < a
      · exact .inl (by simpa using h)
      · exact .inr ⟨by simpa using h, by rcases k2 with h' | h' <;> simp <;> omega⟩
    have p2 : decide (a < t) = true ∨ (decide (a < t) = false ∧ decide (t ≤ x) = true) := by
      by_cases h : a < t
      · exact .inl (by simpa using h)
      · exact .inr ⟨by simpa using h, by rcases k3 with h' | h' <;> simp <;> omega⟩
    have p3 : (v == 0) = true ∨ ((v == 0) = false ∧ decide (0 ≤ (t - a) * v) = true) := by
      by_cases h : v = 0
      · exact .inl (by simpa using h)
      · exact .inr ⟨by simpa using h, by rcases k4 with h' | h' <;> simp <;> omega⟩
    have m1 : IntKind.i64.wrap ((t - a) * v) = (t - a) * v := by
      refine IntWalk.i64_in _ ?_
      have hlo : -122 ≤ t - a := by omega
      have hhi : t - a ≤ 122 := by omega
      have hv' : v = -6 ∨ v = -5 ∨ v = -4 ∨ v = -3 ∨ v = -2 ∨ v = -1 ∨ v = 0 ∨ v = 1 ∨ v = 2 ∨ v = 3 ∨ v = 4 ∨ v = 5 ∨ v = 6 := by omega
      rcases hv' with rfl | rfl | rfl | rfl | rfl | rfl | rfl | rfl | rfl | rfl | rfl | rfl | rfl <;> omega
    clear k2 k3 k4
    rcases p1 with p1 | ⟨p1, p1'⟩ <;> rcases p2 with p2 | ⟨p2, p2'⟩ <;> rcases p3 with p3 | ⟨p3, p3'⟩
    all_goals
      go_wp2
      go_ret
      exact ⟨rfl, B5⟩
namespace fnCanStop
set_option linter.unusedVariables false
set_option maxRecDepth 100000 in
theorem lifted (os : Os) (started : os.Started) (H : Type) (enc : TypeId × Value → H) :
    ReturnsInHanded {} Try.checked os 12 .any (Rows.fnCanStopSpec.pre6 enc Try.prog Try.f12 Rows.fnCanStopRow.domain false) (Rows.fnCanStopSpec.post enc Try.prog Try.f12 false true false false) := by
  refine returnsInHanded_of_change (C := Try.checked) own started (by kernel_rfl) Try.func12
    (ChangeSpec.witness6 (enc := enc) (C := Try.checked) false ⟨#[], #[.slice none 0 0], []⟩ 8 (by kernel_rfl) (by kernel_rfl) (by kernel_rfl) (by kernel_rfl)) ?_
  intro W base args ds gs before hval0 hW hcnd _
  have hval : ∀ (j : Nat) t v, Try.f12.params[j]? = some t → args[j]? = some v → Value.okWide Try.prog W .any base t v := hval0
  have hW' := hW
  obtain ⟨p, q, hA0, hV, rfl, hfz, hnd⟩ := hW
  have hA : DataW.TrodAll enc Try.prog W 0 (fun _ => true) true Try.f12.params.toList args.toList ds p := hA0
  rw [Try.params12] at hA hval
  obtain ⟨v0, vs0, d0, ds0, p0, q0, hargs, rfl, rfl, h0, r0⟩ := trodAll_cons hA
  obtain ⟨rfl, rfl, rfl⟩ := trodAll_nil r0
  obtain rfl : args = #[v0] := by cases args; simp_all
  obtain ⟨rfl, rfl⟩ := trodVars_none hV
  have k0 := h0
  have lt0 : ∀ x ∈ p0, x.block < W.heap.size := by obtain ⟨m, hm⟩ := k0; exact DataW.trod_lt m _ _ _ hm
  obtain ⟨a0, len0, cap0, rfl⟩ := okWide_slice Try.underlying22 (hval 0 22 v0 rfl rfl)
  obtain ⟨z0, w0⟩ : ∃ zs, IsRow .u8 W a0 len0 cap0 zs := by
    obtain ⟨fuel, hf⟩ := h0
    rcases open_ints Try.underlying22 Try.underlying5 (by kernel_rfl) hf with ⟨hcs, _⟩ | ⟨x, l, c, zs, hcs, _, hl, hm, hz, _, hcell, hwz⟩
    · simp [Value.cells] at hcs
      obtain ⟨rfl, rfl, rfl⟩ := hcs
      exact ⟨[], .inl ⟨rfl, rfl, rfl, rfl⟩⟩
    · simp [Value.cells] at hcs
      obtain ⟨rfl, rfl, rfl⟩ := hcs
      exact ⟨zs, .inr ⟨_, rfl, hl, hm, by simpa using hz, hcell, hwz⟩⟩
  clear hA0 hval0
  refine (walk_FnCanStop a0 len0 cap0 z0 W w0).mono fun e W' ⟨he, bel⟩ => ?_
  subst he
  exact ⟨_, rfl, _, _, _, [], _, [], hW', trodAll_mk1 (shut_bool Try.underlying4 _), (trodAll_cons_mk (Below.trod laidOut (by kernel_rfl) (of_decide_eq_true (by kernel_rfl)) k0 bel lt0) trodAll_mk0), rfl, bel.frame _, fun h => by cases h⟩
theorem over : Rows.fnCanStopRow.holds Try.pinned (OpenSpec.ofChange Rows.fnCanStopSpec) :=
  OpenClaim.holds_of_wide 12 Try.f12 rfl rfl rfl rfl rfl rfl rfl ⟨rfl, rfl, rfl, rfl, rfl⟩ rfl rfl rfl rfl rfl (by kernel_rfl) Try.func12 (by kernel_rfl)
    (of_decide_eq_true (by kernel_rfl)) (by unfold Func.isWrapper; first | (rw [if_pos (by decide +kernel)]; kernel_rfl) | (rw [if_neg (by decide +kernel)]; exact ⟨rfl, rfl⟩))
    (fun os started H enc _ => lifted os started H enc)
/-- The statement. -/
theorem proved : Rows.FnCanStopSaid := over
end fnCanStop
#print axioms fnCanStop.proved
end Go.Proofs.Ytjnoejlccbfcjaa
