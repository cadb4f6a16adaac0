/- FnFloorBelow returns true for every code: the next floor is higher. No conditions. -/
import Derived.Test.YtkigpogamjgngaaOpn
import Derived.Test.YtkigpogamjgngaaDraE
import Derived.Test.YtkigpogamjgngaaPlainD
namespace Go.Proofs.Ytkigpogamjgngaa
open Go.ChangeShapes Go.WideShapes Go.ChangeAt Go.RowKit Go.Joins Pl
set_option maxHeartbeats 4000000 in
theorem walk_FnFloorBelow (a0 : Option Addr) (len0 cap0 : Nat) (z0 : List Int) (w : World) (h0 : IsRow .u8 w a0 len0 cap0 z0) :
    Calls Try.prog 8 #[.slice a0 len0 cap0] w fun e w' => e = .returned (.bool true) ∧ Below w.heap.size w w' := by
  obtain ⟨src, hcap⟩ := srcB_of_row h0
  clear h0
  by_cases hbig : 1048576 < len0
  · go_enter Try.func8, Try.ntmps8
    go_wp2
    go_ret
    exact ⟨rfl, Below.refl _ _⟩
  go_enter Try.func8, Try.ntmps8
  go_wp2_with fail
  refine (c_DrawFloorBelow _ _ _ _ _ src (by omega) hcap).mono ?_
  rintro e w1 ⟨A, n, c, L, a, hn, hc, hS1, hb, ha, rfl, B1⟩
  clear hb hc
  have hl := hS1.1
  have HL := Lib.hid hl; clear hl
  rcases hm : floorsV L
  · have hx := below_no1 (a := a) hm
    have HX := Lib.hid hx; clear hx hm
    go_wp2_with fail
    refine (c_fbI _ _ _ _ _ _ hS1 (by omega)).mono ?_
    rintro e w2 ⟨rfl, d2⟩
    rw [HX.out]
    have hS2 := d2.sl hS1
    have B2 := stepB B1 d2.below
    go_wp2_with fail
    refine (c_fbS _ _ _ _ _ _ hS2 (by omega)).mono ?_
    rintro e w3 ⟨rfl, d3⟩
    rw [HX.out]
    have hS3 := d3.sl hS2
    have B3 := stepB B2 d3.below
    go_wp2_with fail
    refine (c_alive _).mono ?_
    rintro e w4 ⟨rfl, hb4⟩
    go_wp2
    go_ret
    exact ⟨rfl, stepB B3 hb4⟩
  rcases hi : inB a 0 60
  · have hx := below_no2 (L := L) hi
    have HX := Lib.hid hx; clear hx hm hi
    go_wp2_with fail
    refine (c_fbI _ _ _ _ _ _ hS1 (by omega)).mono ?_
    rintro e w2 ⟨rfl, d2⟩
    rw [HX.out]
    have hS2 := d2.sl hS1
    have B2 := stepB B1 d2.below
    go_wp2_with fail
    refine (c_fbS _ _ _ _ _ _ hS2 (by omega)).mono ?_
    rintro e w3 ⟨rfl, d3⟩
    rw [HX.out]
    have hS3 := d3.sl hS2
    have B3 := stepB B2 d3.below
    go_wp2_with fail
    refine (c_alive _).mono ?_
    rintro e w4 ⟨rfl, hb4⟩
    go_wp2
    go_ret
    exact ⟨rfl, stepB B3 hb4⟩
  obtain ⟨k, hk, hx, h1, h2, h3⟩ := below_law hm hi
  clear hm hi
  have HX := Lib.hid hx; clear hx
  rw [HL.out] at hk
  obtain ⟨b, o, rfl, _, _⟩ := hS1.2 (by omega)
  obtain ⟨h, hh⟩ : ∃ h, floorAt L a = h := ⟨_, rfl⟩
  rw [hh] at h3
  have HH := Lib.hid hh; clear hh
  have i0 : (k : Int) < (n : Int) := by omega
  have nk : decide ((k : Int) < 0) = false := by simp
  have h3' : h < 0 ∨ (decide (h < 0) = false ∧ h = (k : Int)) := by
    rcases h3 with h3 | h3
    · exact .inl h3
    · exact .inr ⟨by simp; omega, h3⟩
  clear h3
  go_wp2_with fail
  refine (c_fbI _ _ _ _ _ _ hS1 (by omega)).mono ?_
  rintro e w2 ⟨rfl, d2⟩
  rw [HX.out]
  have hS2 := d2.sl hS1
  have B2 := stepB B1 d2.below
  go_wp2_with fail
  refine (c_fbS _ _ _ _ _ _ hS2 (by omega)).mono ?_
  rintro e w3 ⟨rfl, d3⟩
  rw [HX.out]
  have hS3 := d3.sl hS2
  have B3 := stepB B2 d3.below
  go_wp2_with fail
  refine (c_faI _ _ _ _ _ _ hS3 (by omega)).mono ?_
  rintro e w4 ⟨rfl, d4⟩
  rw [HH.out]
  have hS4 := d4.sl hS3
  have B4 := stepB B3 d4.below
  obtain ⟨b', o', e', _, hc4⟩ := hS4.2 (by omega)
  cases e'
  have ck := hc4 k hk
  by_cases hl : n = k + 1
  · subst hl
    clear hc4 h2
    rcases h3' with h3 | ⟨h3, rfl⟩
    all_goals
      go_wp2
      go_ret
      exact ⟨rfl, B4⟩
  · have h2' : a < nth L (k + 1) := by
      rcases h2 with h2 | h2
      · rw [HL.out] at h2; omega
      · exact h2
    have ck' := hc4 (k + 1) (by omega)
    have i2 : (k : Int) + 1 < (n : Int) := by omega
    have el : ((k : Int) == (n : Int) - 1) = false := by simp; omega
    clear hc4 h2
    rcases h3' with h3 | ⟨h3, rfl⟩
    all_goals
      go_wp2
      go_ret
      exact ⟨rfl, B4⟩
namespace fnFloorBelow
set_option linter.unusedVariables false
set_option maxRecDepth 100000 in
theorem lifted (os : Os) (started : os.Started) (H : Type) (enc : TypeId × Value → H) :
    ReturnsInHanded {} Try.checked os 8 .any (Rows.fnFloorBelowSpec.pre6 enc Try.prog Try.f8 Rows.fnFloorBelowRow.domain false) (Rows.fnFloorBelowSpec.post enc Try.prog Try.f8 false true false false) := by
  refine returnsInHanded_of_change (C := Try.checked) own started (by kernel_rfl) Try.func8
    (ChangeSpec.witness6 (enc := enc) (C := Try.checked) false ⟨#[], #[.slice none 0 0], []⟩ 8 (by kernel_rfl) (by kernel_rfl) (by kernel_rfl) (by kernel_rfl)) ?_
  intro W base args ds gs before hval0 hW hcnd _
  have hval : ∀ (j : Nat) t v, Try.f8.params[j]? = some t → args[j]? = some v → Value.okWide Try.prog W .any base t v := hval0
  have hW' := hW
  obtain ⟨p, q, hA0, hV, rfl, hfz, hnd⟩ := hW
  have hA : DataW.TrodAll enc Try.prog W 0 (fun _ => true) true Try.f8.params.toList args.toList ds p := hA0
  rw [Try.params8] at hA hval
  obtain ⟨v0, vs0, d0, ds0, p0, q0, hargs, rfl, rfl, h0, r0⟩ := trodAll_cons hA
  obtain ⟨rfl, rfl, rfl⟩ := trodAll_nil r0
  obtain rfl : args = #[v0] := by cases args; simp_all
  obtain ⟨rfl, rfl⟩ := trodVars_none hV
  have k0 := h0
  have lt0 : ∀ x ∈ p0, x.block < W.heap.size := by obtain ⟨m, hm⟩ := k0; exact DataW.trod_lt m _ _ _ hm
  obtain ⟨a0, len0, cap0, rfl⟩ := okWide_slice Try.underlying22 (hval 0 22 v0 rfl rfl)
  obtain ⟨z0, w0⟩ : ∃ zs, IsRow .u8 W a0 len0 cap0 zs := by
    obtain ⟨fuel, hf⟩ := h0
    rcases open_ints Try.underlying22 Try.underlying5 (by kernel_rfl) hf with ⟨hcs, _⟩ | ⟨x, l, c, zs, hcs, _, hl, hm, hz, _, hcell, hwz⟩
    · simp [Value.cells] at hcs
      obtain ⟨rfl, rfl, rfl⟩ := hcs
      exact ⟨[], .inl ⟨rfl, rfl, rfl, rfl⟩⟩
    · simp [Value.cells] at hcs
      obtain ⟨rfl, rfl, rfl⟩ := hcs
      exact ⟨zs, .inr ⟨_, rfl, hl, hm, by simpa using hz, hcell, hwz⟩⟩
  clear hA0 hval0
  refine (walk_FnFloorBelow a0 len0 cap0 z0 W w0).mono fun e W' ⟨he, bel⟩ => ?_
  subst he
  exact ⟨_, rfl, _, _, _, [], _, [], hW', trodAll_mk1 (shut_bool Try.underlying4 _), (trodAll_cons_mk (Below.trod laidOut (by kernel_rfl) (of_decide_eq_true (by kernel_rfl)) k0 bel lt0) trodAll_mk0), rfl, bel.frame _, fun h => by cases h⟩
theorem over : Rows.fnFloorBelowRow.holds Try.pinned (OpenSpec.ofChange Rows.fnFloorBelowSpec) :=
  OpenClaim.holds_of_wide 8 Try.f8 rfl rfl rfl rfl rfl rfl rfl ⟨rfl, rfl, rfl, rfl, rfl⟩ rfl rfl rfl rfl rfl (by kernel_rfl) Try.func8 (by kernel_rfl)
    (of_decide_eq_true (by kernel_rfl)) (by unfold Func.isWrapper; first | (rw [if_pos (by decide +kernel)]; kernel_rfl) | (rw [if_neg (by decide +kernel)]; exact ⟨rfl, rfl⟩))
    (fun os started H enc _ => lifted os started H enc)
/-- The statement. -/
theorem proved : Rows.FnFloorBelowSaid := over
end fnFloorBelow
#print axioms fnFloorBelow.proved
end Go.Proofs.Ytkigpogamjgngaa
