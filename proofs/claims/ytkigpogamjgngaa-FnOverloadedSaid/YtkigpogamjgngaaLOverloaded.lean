/- FnOverloaded returns true for every code: when one gets out, it is lighter. No conditions. -/
import Derived.Test.YtkigpogamjgngaaOpn
import Derived.Test.YtkigpogamjgngaaDraE
import Derived.Test.YtkigpogamjgngaaLoa
import Derived.Test.YtkigpogamjgngaaPlainD
namespace Go.Proofs.Ytkigpogamjgngaa
open Go.ChangeShapes Go.WideShapes Go.ChangeAt Go.RowKit Go.Joins Pl
theorem Sl.drop {w : World} {b o n : Nat} {L : List Int} (h : Sl w (some ⟨b, o, none⟩) n L) {k : Nat} (hk : k ≤ n) : Sl w (some ⟨b, o + k, none⟩) (n - k) (L.drop k) := by
  refine ⟨by rw [List.length_drop, h.1], fun h0 => ?_⟩
  obtain ⟨b', o', e, hlt, hc⟩ := h.2 (by omega)
  cases e
  refine ⟨b, o + k, rfl, hlt, fun j hj => ?_⟩
  rw [nth_drop, Nat.add_assoc]
  exact hc (k + j) (by omega)
theorem Sl.front {w : World} {A : Option Addr} {n : Nat} {L : List Int} (h : Sl w A n L) {k : Nat} (hk : k ≤ n) : Sl w A k (L.take k) := by
  refine ⟨by rw [List.length_take, h.1]; omega, fun h0 => ?_⟩
  obtain ⟨b, o, e, hlt, hc⟩ := h.2 (by omega)
  exact ⟨b, o, e, hlt, fun j hj => by rw [nth_take hj]; exact hc j (by omega)⟩
set_option maxHeartbeats 4000000 in
theorem walk_FnOverloaded (a0 : Option Addr) (len0 cap0 : Nat) (z0 : List Int) (w : World) (h0 : IsRow .u8 w a0 len0 cap0 z0) :
    Calls Try.prog 5 #[.slice a0 len0 cap0] w fun e w' => e = .returned (.bool true) ∧ Below w.heap.size w w' := by
  obtain ⟨src, hcap⟩ := srcB_of_row h0
  clear h0
  by_cases hbig : 1048576 < len0
  · go_enter Try.func5, Try.ntmps5
    go_wp2
    go_ret
    exact ⟨rfl, Below.refl _ _⟩
  go_enter Try.func5, Try.ntmps5
  go_wp2_with fail
  refine (c_DrawOverloaded _ _ _ _ _ src (by omega) hcap).mono ?_
  rintro e w1 ⟨A, n, c, L, hn, hc, hS1, hb, rfl, B1⟩
  clear hb
  have hl := hS1.1
  have HL := Lib.hid hl; clear hl
  obtain ⟨x, hx⟩ : ∃ x, loadSum L = x := ⟨_, rfl⟩
  obtain ⟨x1, x2⟩ := loadSum_bd L
  rw [hx] at x1 x2
  by_cases ho : 40 < x
  · have ho' : decide (40 < x) = true := by simpa using ho
    have HX := Lib.hid hx; clear hx
    have HO := Lib.hid ho'; clear ho'
    go_wp2_with fail
    refine (c_ovI _ _ _ _ _ hS1 (by omega)).mono ?_
    rintro e w2 ⟨rfl, d2⟩
    rw [HX.out]
    rw [HO.out]
    have hS2 := d2.sl hS1
    have B2 := stepB B1 d2.below
    go_wp2_with fail
    refine (c_ovS _ _ _ _ _ hS2 (by omega)).mono ?_
    rintro e w3 ⟨rfl, d3⟩
    rw [HX.out]
    rw [HO.out]
    have hS3 := d3.sl hS2
    have B3 := stepB B2 d3.below
    go_wp2_with fail
    refine (c_lsI _ _ _ _ _ hS3 (by omega)).mono ?_
    rintro e w4 ⟨rfl, d4⟩
    rw [HX.out]
    have hS4 := d4.sl hS3
    have B4 := stepB B3 d4.below
    go_wp2_with fail
    refine (c_alive _).mono ?_
    rintro e w5 ⟨rfl, hb5⟩
    go_wp2
    go_ret
    exact ⟨rfl, stepB B4 hb5⟩
  · have ho' : decide (40 < x) = false := by simpa using ho
    have HO := Lib.hid ho'; clear ho'
    by_cases h0 : n = 0
    · subst h0
      have HX := Lib.hid hx; clear hx
      go_wp2_with fail
      refine (c_ovI _ _ _ _ _ hS1 (by omega)).mono ?_
      rintro e w2 ⟨rfl, d2⟩
      rw [HX.out]
      rw [HO.out]
      have hS2 := d2.sl hS1
      have B2 := stepB B1 d2.below
      go_wp2_with fail
      refine (c_ovS _ _ _ _ _ hS2 (by omega)).mono ?_
      rintro e w3 ⟨rfl, d3⟩
      rw [HX.out]
      rw [HO.out]
      have hS3 := d3.sl hS2
      have B3 := stepB B2 d3.below
      go_wp2
      go_ret
      exact ⟨rfl, B3⟩
    · have e0 : ((n : Int) == 0) = false := by simp; omega
      by_cases hneg : x < 0
      · have HX := Lib.hid hx; clear hx
        go_wp2_with fail
        refine (c_ovI _ _ _ _ _ hS1 (by omega)).mono ?_
        rintro e w2 ⟨rfl, d2⟩
        rw [HX.out]
        rw [HO.out]
        have hS2 := d2.sl hS1
        have B2 := stepB B1 d2.below
        go_wp2_with fail
        refine (c_ovS _ _ _ _ _ hS2 (by omega)).mono ?_
        rintro e w3 ⟨rfl, d3⟩
        rw [HX.out]
        rw [HO.out]
        have hS3 := d3.sl hS2
        have B3 := stepB B2 d3.below
        go_wp2_with fail
        refine (c_lsI _ _ _ _ _ hS3 (by omega)).mono ?_
        rintro e w4 ⟨rfl, d4⟩
        rw [HX.out]
        have hS4 := d4.sl hS3
        have B4 := stepB B3 d4.below
        go_wp2
        go_ret
        exact ⟨rfl, B4⟩
      · have hlaw := over_law (L := L) (by rw [HL.out]; omega) (by omega)
        rw [HL.out, hx] at hlaw
        have HX := Lib.hid hx; clear hx
        have hd : decide (40 < loadSum (L.take (n - 1))) = false := by simp; omega
        have HD := Lib.hid hd; clear hd hlaw
        have nd : decide (x < 0) = false := by simpa using hneg
        obtain ⟨k, rfl⟩ : ∃ k, n = k + 1 := ⟨n - 1, by omega⟩
        obtain ⟨b, o, rfl, _, _⟩ := hS1.2 (by omega)
        have j2 : (k : Int) ≤ (c : Int) := by omega
        clear h0 hneg
        go_wp2_with fail
        refine (c_ovI _ _ _ _ _ hS1 (by omega)).mono ?_
        rintro e w2 ⟨rfl, d2⟩
        rw [HX.out]
        rw [HO.out]
        have hS2 := d2.sl hS1
        have B2 := stepB B1 d2.below
        go_wp2_with fail
        refine (c_ovS _ _ _ _ _ hS2 (by omega)).mono ?_
        rintro e w3 ⟨rfl, d3⟩
        rw [HX.out]
        rw [HO.out]
        have hS3 := d3.sl hS2
        have B3 := stepB B2 d3.below
        go_wp2_with fail
        refine (c_lsI _ _ _ _ _ hS3 (by omega)).mono ?_
        rintro e w4 ⟨rfl, d4⟩
        rw [HX.out]
        have hS4 := d4.sl hS3
        have B4 := stepB B3 d4.below
        go_wp2_with fail
        refine (c_ovI _ k _ _ _ (hS4.front (by omega)) (by omega)).mono ?_
        rintro e w5 ⟨rfl, d5⟩
        rw [show k = k + 1 - 1 from rfl, HD.out]
        have hS5 := d5.sl hS4
        have B5 := stepB B4 d5.below
        go_wp2
        go_ret
        exact ⟨rfl, B5⟩
namespace fnOverloaded
set_option linter.unusedVariables false
set_option maxRecDepth 100000 in
theorem lifted (os : Os) (started : os.Started) (H : Type) (enc : TypeId × Value → H) :
    ReturnsInHanded {} Try.checked os 5 .any (Rows.fnOverloadedSpec.pre6 enc Try.prog Try.f5 Rows.fnOverloadedRow.domain false) (Rows.fnOverloadedSpec.post enc Try.prog Try.f5 false true false false) := by
  refine returnsInHanded_of_change (C := Try.checked) own started (by kernel_rfl) Try.func5
    (ChangeSpec.witness6 (enc := enc) (C := Try.checked) false ⟨#[], #[.slice none 0 0], []⟩ 8 (by kernel_rfl) (by kernel_rfl) (by kernel_rfl) (by kernel_rfl)) ?_
  intro W base args ds gs before hval0 hW hcnd _
  have hval : ∀ (j : Nat) t v, Try.f5.params[j]? = some t → args[j]? = some v → Value.okWide Try.prog W .any base t v := hval0
  have hW' := hW
  obtain ⟨p, q, hA0, hV, rfl, hfz, hnd⟩ := hW
  have hA : DataW.TrodAll enc Try.prog W 0 (fun _ => true) true Try.f5.params.toList args.toList ds p := hA0
  rw [Try.params5] at hA hval
  obtain ⟨v0, vs0, d0, ds0, p0, q0, hargs, rfl, rfl, h0, r0⟩ := trodAll_cons hA
  obtain ⟨rfl, rfl, rfl⟩ := trodAll_nil r0
  obtain rfl : args = #[v0] := by cases args; simp_all
  obtain ⟨rfl, rfl⟩ := trodVars_none hV
  have k0 := h0
  have lt0 : ∀ x ∈ p0, x.block < W.heap.size := by obtain ⟨m, hm⟩ := k0; exact DataW.trod_lt m _ _ _ hm
  obtain ⟨a0, len0, cap0, rfl⟩ := okWide_slice Try.underlying22 (hval 0 22 v0 rfl rfl)
  obtain ⟨z0, w0⟩ : ∃ zs, IsRow .u8 W a0 len0 cap0 zs := by
    obtain ⟨fuel, hf⟩ := h0
    rcases open_ints Try.underlying22 Try.underlying5 (by kernel_rfl) hf with ⟨hcs, _⟩ | ⟨x, l, c, zs, hcs, _, hl, hm, hz, _, hcell, hwz⟩
    · simp [Value.cells] at hcs
      obtain ⟨rfl, rfl, rfl⟩ := hcs
      exact ⟨[], .inl ⟨rfl, rfl, rfl, rfl⟩⟩
    · simp [Value.cells] at hcs
      obtain ⟨rfl, rfl, rfl⟩ := hcs
      exact ⟨zs, .inr ⟨_, rfl, hl, hm, by simpa using hz, hcell, hwz⟩⟩
  clear hA0 hval0
  refine (walk_FnOverloaded a0 len0 cap0 z0 W w0).mono fun e W' ⟨he, bel⟩ => ?_
  subst he
  exact ⟨_, rfl, _, _, _, [], _, [], hW', trodAll_mk1 (shut_bool Try.underlying4 _), (trodAll_cons_mk (Below.trod laidOut (by kernel_rfl) (of_decide_eq_true (by kernel_rfl)) k0 bel lt0) trodAll_mk0), rfl, bel.frame _, fun h => by cases h⟩
theorem over : Rows.fnOverloadedRow.holds Try.pinned (OpenSpec.ofChange Rows.fnOverloadedSpec) :=
  OpenClaim.holds_of_wide 5 Try.f5 rfl rfl rfl rfl rfl rfl rfl ⟨rfl, rfl, rfl, rfl, rfl⟩ rfl rfl rfl rfl rfl (by kernel_rfl) Try.func5 (by kernel_rfl)
    (of_decide_eq_true (by kernel_rfl)) (by unfold Func.isWrapper; first | (rw [if_pos (by decide +kernel)]; kernel_rfl) | (rw [if_neg (by decide +kernel)]; exact ⟨rfl, rfl⟩))
    (fun os started H enc _ => lifted os started H enc)
/-- The statement. -/
theorem proved : Rows.FnOverloadedSaid := over
end fnOverloaded
#print axioms fnOverloaded.proved
end Go.Proofs.Ytkigpogamjgngaa
