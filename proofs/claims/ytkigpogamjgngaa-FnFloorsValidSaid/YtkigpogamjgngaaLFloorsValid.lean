/- FnFloorsValid returns true for every code: buildings may be lower. No conditions. -/
import Derived.Test.YtkigpogamjgngaaOpn
import Derived.Test.YtkigpogamjgngaaDraE
import Derived.Test.YtkigpogamjgngaaPlainD
namespace Go.Proofs.Ytkigpogamjgngaa
open Go.ChangeShapes Go.WideShapes Go.ChangeAt Go.RowKit Go.Joins Pl
theorem Sl.drop {w : World} {b o n : Nat} {L : List Int} (h : Sl w (some ⟨b, o, none⟩) n L) {k : Nat} (hk : k ≤ n) : Sl w (some ⟨b, o + k, none⟩) (n - k) (L.drop k) := by
  refine ⟨by rw [List.length_drop, h.1], fun h0 => ?_⟩
  obtain ⟨b', o', e, hlt, hc⟩ := h.2 (by omega)
  cases e
  refine ⟨b, o + k, rfl, hlt, fun j hj => ?_⟩
  rw [nth_drop, Nat.add_assoc]
  exact hc (k + j) (by omega)
theorem Sl.front {w : World} {A : Option Addr} {n : Nat} {L : List Int} (h : Sl w A n L) {k : Nat} (hk : k ≤ n) : Sl w A k (L.take k) := by
  refine ⟨by rw [List.length_take, h.1]; omega, fun h0 => ?_⟩
  obtain ⟨b, o, e, hlt, hc⟩ := h.2 (by omega)
  exact ⟨b, o, e, hlt, fun j hj => by rw [nth_take hj]; exact hc j (by omega)⟩
set_option maxHeartbeats 4000000 in
theorem walk_FnFloorsValid (a0 : Option Addr) (len0 cap0 : Nat) (z0 : List Int) (w : World) (h0 : IsRow .u8 w a0 len0 cap0 z0) :
    Calls Try.prog 3 #[.slice a0 len0 cap0] w fun e w' => e = .returned (.bool true) ∧ Below w.heap.size w w' := by
  obtain ⟨src, hcap⟩ := srcB_of_row h0
  clear h0
  by_cases hbig : 1048576 < len0
  · go_enter Try.func3, Try.ntmps3
    go_wp2
    go_ret
    exact ⟨rfl, Below.refl _ _⟩
  go_enter Try.func3, Try.ntmps3
  go_wp2_with fail
  refine (c_DrawFloorsValid _ _ _ _ _ src (by omega) hcap).mono ?_
  rintro e w1 ⟨A, n, c, L, hn, hc, hS1, hb, rfl, B1⟩
  clear hb
  have hl := hS1.1
  have HL := Lib.hid hl; clear hl
  have hnil : floorsV [] = false := by decide
  have HN := Lib.hid hnil; clear hnil
  rcases hm : floorsV L
  · have HM := Lib.hid hm; clear hm
    go_wp2_with fail
    refine (c_fvI _ _ _ _ _ hS1 (by omega)).mono ?_
    rintro e w2 ⟨rfl, d2⟩
    rw [HM.out]
    have hS2 := d2.sl hS1
    have B2 := stepB B1 d2.below
    go_wp2_with fail
    refine (c_fvS _ _ _ _ _ hS2 (by omega)).mono ?_
    rintro e w3 ⟨rfl, d3⟩
    rw [HM.out]
    have hS3 := d3.sl hS2
    have B3 := stepB B2 d3.below
    go_wp2_with fail
    refine (c_fvI _ _ _ _ _ (Sl.nil _ _) (by omega)).mono ?_
    rintro e w4 ⟨rfl, d4⟩
    rw [HN.out]
    have hS4 := d4.sl hS3
    have B4 := stepB B3 d4.below
    go_wp2_with fail
    refine (c_alive _).mono ?_
    rintro e w5 ⟨rfl, hb5⟩
    go_wp2
    go_ret
    exact ⟨rfl, stepB B4 hb5⟩
  · have hf := floorsV_iff.1 hm
    have HM := Lib.hid hm; clear hm
    by_cases h2 : n < 2
    · clear hf
      go_wp2_with fail
      refine (c_fvI _ _ _ _ _ hS1 (by omega)).mono ?_
      rintro e w2 ⟨rfl, d2⟩
      rw [HM.out]
      have hS2 := d2.sl hS1
      have B2 := stepB B1 d2.below
      go_wp2_with fail
      refine (c_fvS _ _ _ _ _ hS2 (by omega)).mono ?_
      rintro e w3 ⟨rfl, d3⟩
      rw [HM.out]
      have hS3 := d3.sl hS2
      have B3 := stepB B2 d3.below
      go_wp2_with fail
      refine (c_fvI _ _ _ _ _ (Sl.nil _ _) (by omega)).mono ?_
      rintro e w4 ⟨rfl, d4⟩
      rw [HN.out]
      have hS4 := d4.sl hS3
      have B4 := stepB B3 d4.below
      go_wp2_with fail
      refine (c_alive _).mono ?_
      rintro e w5 ⟨rfl, hb5⟩
      go_wp2
      go_ret
      exact ⟨rfl, stepB B4 hb5⟩
    · have hf1 := fv_front hf (by rw [HL.out]; omega)
      have hf2 := fv_tail hf (by rw [HL.out]; omega)
      rw [HL.out] at hf1
      have hv1 : floorsV (L.take (n - 1)) = true := floorsV_iff.2 hf1
      have hv2 : floorsV (L.drop 1) = false := floorsV_no.2 hf2
      have H1 := Lib.hid hv1; clear hv1 hf1
      have H2 := Lib.hid hv2; clear hv2 hf2 hf
      obtain ⟨k, rfl⟩ : ∃ k, n = k + 2 := ⟨n - 2, by omega⟩
      obtain ⟨b, o, rfl, _, _⟩ := hS1.2 (by omega)
      have d2' : decide ((k : Int) + 2 < 2) = false := decide_eq_false (by omega)
      have j1 : (0 : Int) ≤ (k : Int) + 2 - 1 := by omega
      have j2 : (k : Int) + 2 - 1 ≤ (c : Int) := by omega
      have j3 : ((k : Int) + 2 - 1).toNat = k + 1 := by omega
      have j4 : (1 : Int) ≤ (k : Int) + 2 := by omega
      have j5 : (k : Int) + 2 ≤ (c : Int) := by omega
      have j6 : ¬ (c = 1) := by omega
      clear h2
      go_wp2_with fail
      refine (c_fvI _ _ _ _ _ hS1 (by omega)).mono ?_
      rintro e w2 ⟨rfl, d2⟩
      rw [HM.out]
      have hS2 := d2.sl hS1
      have B2 := stepB B1 d2.below
      go_wp2_with fail
      refine (c_fvS _ _ _ _ _ hS2 (by omega)).mono ?_
      rintro e w3 ⟨rfl, d3⟩
      rw [HM.out]
      have hS3 := d3.sl hS2
      have B3 := stepB B2 d3.below
      go_wp2_with fail
      refine (c_fvI _ (k + 1) _ _ _ (hS3.front (by omega)) (by omega)).mono ?_
      rintro e w4 ⟨rfl, d4⟩
      rw [show k + 1 = k + 2 - 1 from rfl, H1.out]
      have hS4 := d4.sl hS3
      have B4 := stepB B3 d4.below
      go_wp2_with fail
      refine (c_fvI _ _ _ _ _ (hS4.drop (k := 1) (by omega)) (by omega)).mono ?_
      rintro e w5 ⟨rfl, d5⟩
      rw [H2.out]
      have hS5 := d5.sl hS4
      have B5 := stepB B4 d5.below
      go_wp2
      go_ret
      exact ⟨rfl, B5⟩
namespace fnFloorsValid
set_option linter.unusedVariables false
set_option maxRecDepth 100000 in
theorem lifted (os : Os) (started : os.Started) (H : Type) (enc : TypeId × Value → H) :
    ReturnsInHanded {} Try.checked os 3 .any (Rows.fnFloorsValidSpec.pre6 enc Try.prog Try.f3 Rows.fnFloorsValidRow.domain false) (Rows.fnFloorsValidSpec.post enc Try.prog Try.f3 false true false false) := by
  refine returnsInHanded_of_change (C := Try.checked) own started (by kernel_rfl) Try.func3
    (ChangeSpec.witness6 (enc := enc) (C := Try.checked) false ⟨#[], #[.slice none 0 0], []⟩ 8 (by kernel_rfl) (by kernel_rfl) (by kernel_rfl) (by kernel_rfl)) ?_
  intro W base args ds gs before hval0 hW hcnd _
  have hval : ∀ (j : Nat) t v, Try.f3.params[j]? = some t → args[j]? = some v → Value.okWide Try.prog W .any base t v := hval0
  have hW' := hW
  obtain ⟨p, q, hA0, hV, rfl, hfz, hnd⟩ := hW
  have hA : DataW.TrodAll enc Try.prog W 0 (fun _ => true) true Try.f3.params.toList args.toList ds p := hA0
  rw [Try.params3] at hA hval
  obtain ⟨v0, vs0, d0, ds0, p0, q0, hargs, rfl, rfl, h0, r0⟩ := trodAll_cons hA
  obtain ⟨rfl, rfl, rfl⟩ := trodAll_nil r0
  obtain rfl : args = #[v0] := by cases args; simp_all
  obtain ⟨rfl, rfl⟩ := trodVars_none hV
  have k0 := h0
  have lt0 : ∀ x ∈ p0, x.block < W.heap.size := by obtain ⟨m, hm⟩ := k0; exact DataW.trod_lt m _ _ _ hm
  obtain ⟨a0, len0, cap0, rfl⟩ := okWide_slice Try.underlying22 (hval 0 22 v0 rfl rfl)
  obtain ⟨z0, w0⟩ : ∃ zs, IsRow .u8 W a0 len0 cap0 zs := by
    obtain ⟨fuel, hf⟩ := h0
    rcases open_ints Try.underlying22 Try.underlying5 (by kernel_rfl) hf with ⟨hcs, _⟩ | ⟨x, l, c, zs, hcs, _, hl, hm, hz, _, hcell, hwz⟩
    · simp [Value.cells] at hcs
      obtain ⟨rfl, rfl, rfl⟩ := hcs
      exact ⟨[], .inl ⟨rfl, rfl, rfl, rfl⟩⟩
    · simp [Value.cells] at hcs
      obtain ⟨rfl, rfl, rfl⟩ := hcs
      exact ⟨zs, .inr ⟨_, rfl, hl, hm, by simpa using hz, hcell, hwz⟩⟩
  clear hA0 hval0
  refine (walk_FnFloorsValid a0 len0 cap0 z0 W w0).mono fun e W' ⟨he, bel⟩ => ?_
  subst he
  exact ⟨_, rfl, _, _, _, [], _, [], hW', trodAll_mk1 (shut_bool Try.underlying4 _), (trodAll_cons_mk (Below.trod laidOut (by kernel_rfl) (of_decide_eq_true (by kernel_rfl)) k0 bel lt0) trodAll_mk0), rfl, bel.frame _, fun h => by cases h⟩
theorem over : Rows.fnFloorsValidRow.holds Try.pinned (OpenSpec.ofChange Rows.fnFloorsValidSpec) :=
  OpenClaim.holds_of_wide 3 Try.f3 rfl rfl rfl rfl rfl rfl rfl ⟨rfl, rfl, rfl, rfl, rfl⟩ rfl rfl rfl rfl rfl (by kernel_rfl) Try.func3 (by kernel_rfl)
    (of_decide_eq_true (by kernel_rfl)) (by unfold Func.isWrapper; first | (rw [if_pos (by decide +kernel)]; kernel_rfl) | (rw [if_neg (by decide +kernel)]; exact ⟨rfl, rfl⟩))
    (fun os started H enc _ => lifted os started H enc)
/-- The statement. -/
theorem proved : Rows.FnFloorsValidSaid := over
end fnFloorsValid
#print axioms fnFloorsValid.proved
end Go.Proofs.Ytkigpogamjgngaa
