/- FnExactTourWork returns true for all arguments: the program's TourWork and the reference's return the same, and leave their slices as they were. No conditions. -/
import Derived.Test.YtgmcbobmihhjgaaFrame
import Derived.Test.YtgmcbobmihhjgaaRow
import Derived.Test.YtgmcbobmihhjgaaCpy
import Derived.Test.YtgmcbobmihhjgaaTou
namespace Go.Proofs.Ytgmcbobmihhjgaa
open Go.ChangeShapes Go.WideShapes Go.ChangeAt Go.RowKit Go.Joins Pl
theorem walk_FnExactTourWork (a0 : Option Addr) (len0 cap0 : Nat) (z0 : List Int) (a1 : Option Addr) (len1 cap1 : Nat) (z1 : List Int) (a2 : Option Addr) (len2 cap2 : Nat) (z2 : List Int) (w : World) (h0 : IsRow .i64 w a0 len0 cap0 z0) (h1 : IsRow .i64 w a1 len1 cap1 z1) (h2 : IsRow .i64 w a2 len2 cap2 z2) :
    Calls Try.prog 13 #[.slice a0 len0 cap0, .slice a1 len1 cap1, .slice a2 len2 cap2] w fun e w' => e = .returned (.bool true) ∧ Below w.heap.size w w' := by
  have src0 := src_of_row h0
  have hc0 := row_cap h0
  obtain ⟨L0, hL0⟩ : ∃ L, z0.take len0 = L := ⟨_, rfl⟩
  rw [hL0] at src0
  clear hL0 h0
  have src1 := src_of_row h1
  have hc1 := row_cap h1
  obtain ⟨L1, hL1⟩ : ∃ L, z1.take len1 = L := ⟨_, rfl⟩
  rw [hL1] at src1
  clear hL1 h1
  have src2 := src_of_row h2
  have hc2 := row_cap h2
  obtain ⟨L2, hL2⟩ : ∃ L, z2.take len2 = L := ⟨_, rfl⟩
  rw [hL2] at src2
  clear hL2 h2
  by_cases hbig0 : 1048576 < len0
  · go_enter Try.func13, Try.ntmps13
    go_wp2
    go_ret
    exact ⟨rfl, Below.refl _ _⟩
  by_cases hbig1 : 1048576 < len1
  · go_enter Try.func13, Try.ntmps13
    go_wp2
    go_ret
    exact ⟨rfl, Below.refl _ _⟩
  by_cases hbig2 : 1048576 < len2
  · go_enter Try.func13, Try.ntmps13
    go_wp2
    go_ret
    exact ⟨rfl, Below.refl _ _⟩
  obtain ⟨g, hg⟩ : ∃ g, tourB L0 L1 L2 = g := ⟨_, rfl⟩
  have HG := Lib.hid hg; clear hg
  cases g
  all_goals
    have B0 := Below.refl w.heap.size w
    go_enter Try.func13, Try.ntmps13
    go_wp2_with fail
    refine (c_toIntS _ _ _ _ _ (src0.call B0) (by omega)).mono ?_
    rintro e w1 ⟨rfl, s0, hb1⟩
    have B1 := stepB B0 hb1
    go_wp2_with fail
    refine (c_toIntS _ _ _ _ _ (src1.call B1) (by omega)).mono ?_
    rintro e w2 ⟨rfl, s1, hb2⟩
    have B2 := stepB B1 hb2
    go_wp2_with fail
    refine (c_toIntS _ _ _ _ _ (src2.call B2) (by omega)).mono ?_
    rintro e w3 ⟨rfl, s2, hb3⟩
    have B3 := stepB B2 hb3
    go_wp2_with fail
    refine (c_toS _ _ _ _ _ _ _ _ _ _ _ _ _ (s0.call (stepB hb2 hb3)) (by omega) (s1.call hb3) (by omega) s2 (by omega)).mono ?_
    rintro e w4 ⟨rfl, dd4⟩
    rw [HG.out]
    have hb4 := dd4.below
    have B4 := stepB B3 hb4
    go_wp2_with fail
    refine (c_toIntS _ _ _ _ _ (src0.call B4) (by omega)).mono ?_
    rintro e w5 ⟨rfl, x0, hb5⟩
    have B5 := stepB B4 hb5
    go_wp2_with fail
    refine (c_toIntS _ _ _ _ _ (src1.call B5) (by omega)).mono ?_
    rintro e w6 ⟨rfl, x1, hb6⟩
    have B6 := stepB B5 hb6
    go_wp2_with fail
    refine (c_toIntS _ _ _ _ _ (src2.call B6) (by omega)).mono ?_
    rintro e w7 ⟨rfl, x2, hb7⟩
    have B7 := stepB B6 hb7
    go_wp2_with fail
    refine (c_toI _ _ _ _ _ _ _ _ _ _ _ _ _ (x0.call (stepB hb6 hb7)) (by omega) (x1.call hb7) (by omega) x2 (by omega)).mono ?_
    rintro e w8 ⟨rfl, dd8⟩
    rw [HG.out]
    have hb8 := dd8.below
    have B8 := stepB B7 hb8
    go_wp2_with fail
    refine (c_toIntS _ _ _ _ _ (src0.call B8) (by omega)).mono ?_
    rintro e w9 ⟨rfl, y0, hb9⟩
    have B9 := stepB B8 hb9
    go_wp2_with fail
    refine (c_eqIntS _ _ _ _ _ _ _ (x0.call (stepB (stepB (stepB hb6 hb7) hb8) hb9)) y0 (by omega)).mono ?_
    rintro e w10 ⟨rfl, dd10⟩
    have hb10 := dd10.below
    have B10 := stepB B9 hb10
    go_wp2_with fail
    refine (c_toIntS _ _ _ _ _ (src1.call B10) (by omega)).mono ?_
    rintro e w11 ⟨rfl, y1, hb11⟩
    have B11 := stepB B10 hb11
    go_wp2_with fail
    refine (c_eqIntS _ _ _ _ _ _ _ (x1.call (stepB (stepB (stepB (stepB hb7 hb8) hb9) hb10) hb11)) y1 (by omega)).mono ?_
    rintro e w12 ⟨rfl, dd12⟩
    have hb12 := dd12.below
    have B12 := stepB B11 hb12
    go_wp2_with fail
    refine (c_toIntS _ _ _ _ _ (src2.call B12) (by omega)).mono ?_
    rintro e w13 ⟨rfl, y2, hb13⟩
    have B13 := stepB B12 hb13
    go_wp2_with fail
    refine (c_eqIntS _ _ _ _ _ _ _ (x2.call (stepB (stepB (stepB (stepB (stepB hb8 hb9) hb10) hb11) hb12) hb13)) y2 (by omega)).mono ?_
    rintro e w14 ⟨rfl, dd14⟩
    have hb14 := dd14.below
    have B14 := stepB B13 hb14
    go_wp2
    go_ret
    exact ⟨rfl, B14⟩
namespace fnExactTourWork
set_option linter.unusedVariables false
set_option maxRecDepth 100000 in
theorem lifted (os : Os) (started : os.Started) (H : Type) (enc : TypeId × Value → H) :
    ReturnsInHanded {} Try.checked os 13 .any (Rows.fnExactTourWorkSpec.pre6 enc Try.prog Try.f13 Rows.fnExactTourWorkRow.domain false) (Rows.fnExactTourWorkSpec.post enc Try.prog Try.f13 false true false false) := by
  refine returnsInHanded_of_change (C := Try.checked) own started (by kernel_rfl) Try.func13
    (ChangeSpec.witness6 (enc := enc) (C := Try.checked) false ⟨#[], #[.slice none 0 0, .slice none 0 0, .slice none 0 0], []⟩ 8 (by kernel_rfl) (by kernel_rfl) (by kernel_rfl) (by kernel_rfl)) ?_
  intro W base args ds gs before hval0 hW hcnd _
  have hval : ∀ (j : Nat) t v, Try.f13.params[j]? = some t → args[j]? = some v → Value.okWide Try.prog W .any base t v := hval0
  have hW' := hW
  obtain ⟨p, q, hA0, hV, rfl, hfz, hnd⟩ := hW
  have hA : DataW.TrodAll enc Try.prog W 0 (fun _ => true) true Try.f13.params.toList args.toList ds p := hA0
  rw [Try.params13] at hA hval
  obtain ⟨v0, vs0, d0, ds0, p0, q0, hargs, rfl, rfl, h0, r0⟩ := trodAll_cons hA
  obtain ⟨v1, vs1, d1, ds1, p1, q1, rfl, rfl, rfl, h1, r1⟩ := trodAll_cons r0
  obtain ⟨v2, vs2, d2, ds2, p2, q2, rfl, rfl, rfl, h2, r2⟩ := trodAll_cons r1
  obtain ⟨rfl, rfl, rfl⟩ := trodAll_nil r2
  obtain rfl : args = #[v0, v1, v2] := by cases args; simp_all
  obtain ⟨rfl, rfl⟩ := trodVars_none hV
  have k0 := h0
  have lt0 : ∀ x ∈ p0, x.block < W.heap.size := by obtain ⟨m, hm⟩ := k0; exact DataW.trod_lt m _ _ _ hm
  obtain ⟨a0, len0, cap0, rfl⟩ := okWide_slice Try.underlying22 (hval 0 22 v0 rfl rfl)
  obtain ⟨z0, w0⟩ : ∃ zs, IsRow .i64 W a0 len0 cap0 zs := by
    obtain ⟨fuel, hf⟩ := h0
    rcases open_ints Try.underlying22 Try.underlying3 (by kernel_rfl) hf with ⟨hcs, _⟩ | ⟨x, l, c, zs, hcs, _, hl, hm, hz, _, hcell, hwz⟩
    · simp [Value.cells] at hcs
      obtain ⟨rfl, rfl, rfl⟩ := hcs
      exact ⟨[], .inl ⟨rfl, rfl, rfl, rfl⟩⟩
    · simp [Value.cells] at hcs
      obtain ⟨rfl, rfl, rfl⟩ := hcs
      exact ⟨zs, .inr ⟨_, rfl, hl, hm, by simpa using hz, hcell, hwz⟩⟩
  have k1 := h1
  have lt1 : ∀ x ∈ p1, x.block < W.heap.size := by obtain ⟨m, hm⟩ := k1; exact DataW.trod_lt m _ _ _ hm
  obtain ⟨a1, len1, cap1, rfl⟩ := okWide_slice Try.underlying22 (hval 1 22 v1 rfl rfl)
  obtain ⟨z1, w1⟩ : ∃ zs, IsRow .i64 W a1 len1 cap1 zs := by
    obtain ⟨fuel, hf⟩ := h1
    rcases open_ints Try.underlying22 Try.underlying3 (by kernel_rfl) hf with ⟨hcs, _⟩ | ⟨x, l, c, zs, hcs, _, hl, hm, hz, _, hcell, hwz⟩
    · simp [Value.cells] at hcs
      obtain ⟨rfl, rfl, rfl⟩ := hcs
      exact ⟨[], .inl ⟨rfl, rfl, rfl, rfl⟩⟩
    · simp [Value.cells] at hcs
      obtain ⟨rfl, rfl, rfl⟩ := hcs
      exact ⟨zs, .inr ⟨_, rfl, hl, hm, by simpa using hz, hcell, hwz⟩⟩
  have k2 := h2
  have lt2 : ∀ x ∈ p2, x.block < W.heap.size := by obtain ⟨m, hm⟩ := k2; exact DataW.trod_lt m _ _ _ hm
  obtain ⟨a2, len2, cap2, rfl⟩ := okWide_slice Try.underlying22 (hval 2 22 v2 rfl rfl)
  obtain ⟨z2, w2⟩ : ∃ zs, IsRow .i64 W a2 len2 cap2 zs := by
    obtain ⟨fuel, hf⟩ := h2
    rcases open_ints Try.underlying22 Try.underlying3 (by kernel_rfl) hf with ⟨hcs, _⟩ | ⟨x, l, c, zs, hcs, _, hl, hm, hz, _, hcell, hwz⟩
    · simp [Value.cells] at hcs
      obtain ⟨rfl, rfl, rfl⟩ := hcs
      exact ⟨[], .inl ⟨rfl, rfl, rfl, rfl⟩⟩
    · simp [Value.cells] at hcs
      obtain ⟨rfl, rfl, rfl⟩ := hcs
      exact ⟨zs, .inr ⟨_, rfl, hl, hm, by simpa using hz, hcell, hwz⟩⟩
  clear hA0 hval0
  refine (walk_FnExactTourWork a0 len0 cap0 z0 a1 len1 cap1 z1 a2 len2 cap2 z2 W w0 w1 w2).mono fun e W' ⟨he, bel⟩ => ?_
  subst he
  exact ⟨_, rfl, _, _, _, [], _, [], hW', trodAll_mk1 (shut_bool Try.underlying4 _), (trodAll_cons_mk (Below.trod laidOut (by kernel_rfl) (of_decide_eq_true (by kernel_rfl)) k0 bel lt0) (trodAll_cons_mk (Below.trod laidOut (by kernel_rfl) (of_decide_eq_true (by kernel_rfl)) k1 bel lt1) (trodAll_cons_mk (Below.trod laidOut (by kernel_rfl) (of_decide_eq_true (by kernel_rfl)) k2 bel lt2) trodAll_mk0))), rfl, bel.frame _, fun h => by cases h⟩
theorem over : Rows.fnExactTourWorkRow.holds Try.pinned (OpenSpec.ofChange Rows.fnExactTourWorkSpec) :=
  OpenClaim.holds_of_wide 13 Try.f13 rfl rfl rfl rfl rfl rfl rfl ⟨rfl, rfl, rfl, rfl, rfl⟩ rfl rfl rfl rfl rfl (by kernel_rfl) Try.func13 (by kernel_rfl)
    (of_decide_eq_true (by kernel_rfl)) (by unfold Func.isWrapper; first | (rw [if_pos (by decide +kernel)]; kernel_rfl) | (rw [if_neg (by decide +kernel)]; exact ⟨rfl, rfl⟩))
    (fun os started H enc _ => lifted os started H enc)
/-- The statement. -/
theorem proved : Rows.FnExactTourWorkSaid := over
end fnExactTourWork
#print axioms fnExactTourWork.proved
end Go.Proofs.Ytgmcbobmihhjgaa
