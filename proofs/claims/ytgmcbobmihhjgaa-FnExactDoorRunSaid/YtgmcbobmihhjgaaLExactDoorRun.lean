/- FnExactDoorRun returns true for all arguments: the program's DoorRun and the reference's return the same, and leave their slices as they were. No conditions. -/
import Derived.Test.YtgmcbobmihhjgaaFrame
import Derived.Test.YtgmcbobmihhjgaaRow
import Derived.Test.YtgmcbobmihhjgaaDRun
namespace Go.Proofs.Ytgmcbobmihhjgaa
open Go.ChangeShapes Go.WideShapes Go.ChangeAt Go.RowKit Go.Joins Pl
set_option maxHeartbeats 1000000 in
theorem walk_FnExactDoorRun (a0 b0 : Int) (_ : (Lit.int .i64 a0).wf = true) (_ : (Lit.int .i64 b0).wf = true) (a1 : Int) (_ : (Lit.int .i64 a1).wf = true) (a2 : Option Addr) (len2 cap2 : Nat) (z2 : List Int) (a3 : Option Addr) (len3 cap3 : Nat) (z3 : List Int) (w : World) (h2 : IsRow .i64 w a2 len2 cap2 z2) (h3 : IsRow .i64 w a3 len3 cap3 z3) :
    Calls Try.prog 14 #[.agg #[.int .i64 a0, .int .i64 b0], .int .i64 a1, .slice a2 len2 cap2, .slice a3 len3 cap3] w fun e w' => e = .returned (.bool true) ∧ Below w.heap.size w w' := by
  have src2 := src_of_row h2
  have hc2 := row_cap h2
  obtain ⟨L2, hL2⟩ : ∃ L, z2.take len2 = L := ⟨_, rfl⟩
  rw [hL2] at src2
  clear hL2 h2
  have src3 := src_of_row h3
  have hc3 := row_cap h3
  obtain ⟨L3, hL3⟩ : ∃ L, z3.take len3 = L := ⟨_, rfl⟩
  rw [hL3] at src3
  clear hL3 h3
  obtain ⟨B0, own⟩ := start1 w (.int .i64 a0) (.int .i64 b0) 38
  by_cases hbig2 : 1048576 < len2
  · go_enter Try.func14, Try.ntmps14
    go_wp2
    go_ret
    exact ⟨rfl, B0⟩
  by_cases hbig3 : 1048576 < len3
  · go_enter Try.func14, Try.ntmps14
    go_wp2
    go_ret
    exact ⟨rfl, B0⟩
  go_enter Try.func14, Try.ntmps14
  go_wp2_with fail
  refine (c_toDoor _ _ _).mono ?_
  rintro e w1 ⟨rfl, hb1⟩
  have B1 := stepB B0 hb1
  have o1 := own.call hb1
  go_wp2_with fail
  refine (c_toIntS _ _ _ _ _ (src2.call B1) (by omega)).mono ?_
  rintro e w2 ⟨rfl, s2, hb2⟩
  have B2 := stepB B1 hb2
  have o2 := o1.call hb2
  go_wp2_with fail
  refine (c_toIntS _ _ _ _ _ (src3.call B2) (by omega)).mono ?_
  rintro e w3 ⟨rfl, s3, hb3⟩
  have B3 := stepB B2 hb3
  have o3 := o2.call hb3
  go_wp2_with fail
  refine (c_drS _ _ _ _ _ _ _ _ _ _ _ _ (s2.call hb3) (by omega) s3 (by omega)).mono ?_
  rintro e w4 ⟨rfl, hb4⟩
  have B4 := stepB B3 hb4
  have o4 := o3.call hb4
  have l4 := o4.lt
  go_wp2_with fail
  refine (c_toIntS _ _ _ _ _ ((src2.call B4).alloc _) (by omega)).mono ?_
  rintro e w5 ⟨rfl, x2', hb5⟩
  have x2 : Sl w5 (some ⟨w4.heap.size + 1, 0, none⟩) len2 L2 := by simpa using x2'
  clear x2'
  have B5 := stepB (B4.alloc B4.size _) hb5
  have o5 := (o4.alloc _).call hb5
  have q5 := (Own2.new _ _ _ _).call hb5
  go_wp2_with fail
  refine (c_toIntS _ _ _ _ _ (src3.call B5) (by omega)).mono ?_
  rintro e w6 ⟨rfl, x3, hb6⟩
  have B6 := stepB B5 hb6
  have o6 := o5.call hb6
  have q6 := q5.call hb6
  have c0 := o6.c0
  have c1 := o6.c1
  go_wp2_with fail
  refine (c_toDoor _ _ _).mono ?_
  rintro e w7 ⟨rfl, hb7⟩
  have B7 := stepB B6 hb7
  have q7 := q6.call hb7
  clear c0 c1
  go_wp2_with fail
  refine (c_drI _ _ _ _ _ _ _ _ _ _ _ _ (x2.call (stepB hb6 hb7)) (by omega) (x3.call hb7) (by omega)).mono ?_
  rintro e w8 ⟨rfl, hb8⟩
  have B8 := stepB B7 hb8
  have q8 := q7.call hb8
  have c0 := q8.c0
  have c1 := q8.c1
  have c2 := q8.lt
  go_wp2_with fail
  refine (c_eqDoor _ _ _ _ _ rfl rfl).mono ?_
  rintro e w9 ⟨rfl, hb9⟩
  have B9 := stepB (B8.alloc B8.size _) hb9
  have hb9' := stepB ((Below.refl w8.heap.size w8).alloc (Nat.le_refl _) _) hb9
  clear c0 c1 c2
  go_wp2_with fail
  refine (c_toIntS _ _ _ _ _ (src2.call B9) (by omega)).mono ?_
  rintro e w10 ⟨rfl, y2, hb10⟩
  have B10 := stepB B9 hb10
  go_wp2_with fail
  refine (c_eqIntS _ _ _ _ _ _ _ (x2.call (stepB (stepB (stepB (stepB hb6 hb7) hb8) hb9') hb10)) y2 (by omega)).mono ?_
  rintro e w11 ⟨rfl, dd11⟩
  have hb11 := dd11.below
  have B11 := stepB B10 hb11
  go_wp2_with fail
  refine (c_toIntS _ _ _ _ _ (src3.call B11) (by omega)).mono ?_
  rintro e w12 ⟨rfl, y3, hb12⟩
  have B12 := stepB B11 hb12
  go_wp2_with fail
  refine (c_eqIntS _ _ _ _ _ _ _ (x3.call (stepB (stepB (stepB (stepB (stepB hb7 hb8) hb9') hb10) hb11) hb12)) y3 (by omega)).mono ?_
  rintro e w13 ⟨rfl, dd13⟩
  go_wp2
  go_ret
  exact ⟨rfl, stepB B12 dd13.below⟩
namespace fnExactDoorRun
set_option linter.unusedVariables false
set_option maxRecDepth 100000 in
theorem lifted (os : Os) (started : os.Started) (H : Type) (enc : TypeId × Value → H) :
    ReturnsInHanded {} Try.checked os 14 .any (Rows.fnExactDoorRunSpec.pre6 enc Try.prog Try.f14 Rows.fnExactDoorRunRow.domain false) (Rows.fnExactDoorRunSpec.post enc Try.prog Try.f14 false true false false) := by
  refine returnsInHanded_of_change (C := Try.checked) own started (by kernel_rfl) Try.func14
    (ChangeSpec.witness6 (enc := enc) (C := Try.checked) false ⟨#[], #[.agg #[.int .i64 0, .int .i64 0], .int .i64 0, .slice none 0 0, .slice none 0 0], []⟩ 8 (by kernel_rfl) (by kernel_rfl) (by kernel_rfl) (by kernel_rfl)) ?_
  intro W base args ds gs before hval0 hW hcnd _
  have hval : ∀ (j : Nat) t v, Try.f14.params[j]? = some t → args[j]? = some v → Value.okWide Try.prog W .any base t v := hval0
  have hW' := hW
  obtain ⟨p, q, hA0, hV, rfl, hfz, hnd⟩ := hW
  have hA : DataW.TrodAll enc Try.prog W 0 (fun _ => true) true Try.f14.params.toList args.toList ds p := hA0
  rw [Try.params14] at hA hval
  obtain ⟨v0, vs0, d0, ds0, p0, q0, hargs, rfl, rfl, h0, r0⟩ := trodAll_cons hA
  obtain ⟨v1, vs1, d1, ds1, p1, q1, rfl, rfl, rfl, h1, r1⟩ := trodAll_cons r0
  obtain ⟨v2, vs2, d2, ds2, p2, q2, rfl, rfl, rfl, h2, r2⟩ := trodAll_cons r1
  obtain ⟨v3, vs3, d3, ds3, p3, q3, rfl, rfl, rfl, h3, r3⟩ := trodAll_cons r2
  obtain ⟨rfl, rfl, rfl⟩ := trodAll_nil r3
  obtain rfl : args = #[v0, v1, v2, v3] := by cases args; simp_all
  obtain ⟨rfl, rfl⟩ := trodVars_none hV
  have k0 := h0
  have lt0 : ∀ x ∈ p0, x.block < W.heap.size := by obtain ⟨m, hm⟩ := k0; exact DataW.trod_lt m _ _ _ hm
  obtain ⟨c0a, c0b, y0a, y0b, m0, rfl, rfl, rfl, hy0a, hy0b⟩ := open_agg2 Try.underlying38 (by kernel_rfl) (by kernel_rfl) (hval 0 38 v0 rfl rfl) h0
  obtain ⟨a0, ea0, rfl, wa0⟩ := DataW.trod_int Try.underlying3 hy0a
  obtain ⟨b0, eb0, rfl, wb0⟩ := DataW.trod_int Try.underlying3 hy0b
  simp at ea0 eb0
  subst ea0 eb0
  obtain ⟨a1, rfl, rfl, rfl, w1⟩ := open_int Try.underlying3 (hval 1 3 v1 rfl rfl) h1
  have k2 := h2
  have lt2 : ∀ x ∈ p2, x.block < W.heap.size := by obtain ⟨m, hm⟩ := k2; exact DataW.trod_lt m _ _ _ hm
  obtain ⟨a2, len2, cap2, rfl⟩ := okWide_slice Try.underlying22 (hval 2 22 v2 rfl rfl)
  obtain ⟨z2, w2⟩ : ∃ zs, IsRow .i64 W a2 len2 cap2 zs := by
    obtain ⟨fuel, hf⟩ := h2
    rcases open_ints Try.underlying22 Try.underlying3 (by kernel_rfl) hf with ⟨hcs, _⟩ | ⟨x, l, c, zs, hcs, _, hl, hm, hz, _, hcell, hwz⟩
    · simp [Value.cells] at hcs
      obtain ⟨rfl, rfl, rfl⟩ := hcs
      exact ⟨[], .inl ⟨rfl, rfl, rfl, rfl⟩⟩
    · simp [Value.cells] at hcs
      obtain ⟨rfl, rfl, rfl⟩ := hcs
      exact ⟨zs, .inr ⟨_, rfl, hl, hm, by simpa using hz, hcell, hwz⟩⟩
  have k3 := h3
  have lt3 : ∀ x ∈ p3, x.block < W.heap.size := by obtain ⟨m, hm⟩ := k3; exact DataW.trod_lt m _ _ _ hm
  obtain ⟨a3, len3, cap3, rfl⟩ := okWide_slice Try.underlying22 (hval 3 22 v3 rfl rfl)
  obtain ⟨z3, w3⟩ : ∃ zs, IsRow .i64 W a3 len3 cap3 zs := by
    obtain ⟨fuel, hf⟩ := h3
    rcases open_ints Try.underlying22 Try.underlying3 (by kernel_rfl) hf with ⟨hcs, _⟩ | ⟨x, l, c, zs, hcs, _, hl, hm, hz, _, hcell, hwz⟩
    · simp [Value.cells] at hcs
      obtain ⟨rfl, rfl, rfl⟩ := hcs
      exact ⟨[], .inl ⟨rfl, rfl, rfl, rfl⟩⟩
    · simp [Value.cells] at hcs
      obtain ⟨rfl, rfl, rfl⟩ := hcs
      exact ⟨zs, .inr ⟨_, rfl, hl, hm, by simpa using hz, hcell, hwz⟩⟩
  clear hA0 hval0
  refine (walk_FnExactDoorRun a0 b0 wa0 wb0 a1 w1 a2 len2 cap2 z2 a3 len3 cap3 z3 W w2 w3).mono fun e W' ⟨he, bel⟩ => ?_
  subst he
  exact ⟨_, rfl, _, _, _, [], _, [], hW', trodAll_mk1 (shut_bool Try.underlying4 _), (trodAll_cons_mk (Below.trod laidOut (by kernel_rfl) (of_decide_eq_true (by kernel_rfl)) k0 bel lt0) (trodAll_cons_mk (shut_int Try.underlying3 w1) (trodAll_cons_mk (Below.trod laidOut (by kernel_rfl) (of_decide_eq_true (by kernel_rfl)) k2 bel lt2) (trodAll_cons_mk (Below.trod laidOut (by kernel_rfl) (of_decide_eq_true (by kernel_rfl)) k3 bel lt3) trodAll_mk0)))), rfl, bel.frame _, fun h => by cases h⟩
theorem over : Rows.fnExactDoorRunRow.holds Try.pinned (OpenSpec.ofChange Rows.fnExactDoorRunSpec) :=
  OpenClaim.holds_of_wide 14 Try.f14 rfl rfl rfl rfl rfl rfl rfl ⟨rfl, rfl, rfl, rfl, rfl⟩ rfl rfl rfl rfl rfl (by kernel_rfl) Try.func14 (by kernel_rfl)
    (of_decide_eq_true (by kernel_rfl)) (by unfold Func.isWrapper; first | (rw [if_pos (by decide +kernel)]; kernel_rfl) | (rw [if_neg (by decide +kernel)]; exact ⟨rfl, rfl⟩))
    (fun os started H enc _ => lifted os started H enc)
/-- The statement. -/
theorem proved : Rows.FnExactDoorRunSaid := over
end fnExactDoorRun
#print axioms fnExactDoorRun.proved
end Go.Proofs.Ytgmcbobmihhjgaa
