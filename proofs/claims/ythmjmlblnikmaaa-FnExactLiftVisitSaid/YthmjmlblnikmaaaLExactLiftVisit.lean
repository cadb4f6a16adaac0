/- FnExactLiftVisit returns true for all arguments: the program's LiftVisit and the reference's return the same, and leave their floors as they were. No conditions. -/
import Derived.Test.YthmjmlblnikmaaaFrame
import Derived.Test.YthmjmlblnikmaaaRow
import Derived.Test.YthmjmlblnikmaaaOLi
import Derived.Test.YthmjmlblnikmaaaLiV
import Derived.Test.YthmjmlblnikmaaaLiS
import Derived.Deep.RegionWith
namespace Go.Proofs.Ythmjmlblnikmaaa
open Go.ChangeShapes Go.WideShapes Go.ChangeAt Go.RowKit Go.Joins Pl
set_option maxHeartbeats 1000000 in
theorem walk_FnExactLiftVisit (a0 : Option Addr) (len0 cap0 : Nat) (z0 : List Int) (a1 b1 c1 e1 : Int) (_ : (Lit.int .i64 a1).wf = true) (_ : (Lit.int .i64 b1).wf = true) (_ : (Lit.int .i64 c1).wf = true) (_ : (Lit.int .i64 e1).wf = true) (a2 : Int) (_ : (Lit.int .i64 a2).wf = true) (w : World) (h0 : IsRow .i64 w a0 len0 cap0 z0) :
    Calls Try.prog 10 #[.slice a0 len0 cap0, .agg #[.int .i64 a1, .int .i64 b1, .int .i64 c1, .int .i64 e1], .int .i64 a2] w fun e w' => e = .returned (.bool true) ∧ Below w.heap.size w w' := by
  have src0 := src_of_row h0
  have hc0 := row_cap h0
  obtain ⟨L0, hL0⟩ : ∃ L, z0.take len0 = L := ⟨_, rfl⟩
  rw [hL0] at src0
  clear hL0 h0
  obtain ⟨B0, own0⟩ := start4 w (.int .i64 a1) (.int .i64 b1) (.int .i64 c1) (.int .i64 e1) 45
  by_cases hbig0 : 1048576 < len0
  · go_enter Try.func10, Try.ntmps10
    go_wp2
    go_ret
    exact ⟨rfl, B0⟩
  go_enter Try.func10, Try.ntmps10
  have hb0 := B0
  have Bd := stepB B0 (DN.drew1 _).below
  have ownd := own0.dn (DN.drew1 _)
  go_wp2
  go_region_with (first | (go_at_call 25; refine (c_toIntS _ _ _ _ _ (src0.call Bd) (by omega)).mono ?_; rintro e w1 ⟨rfl, s0', hb1⟩; have s0 : Sl w1 (some ⟨w.heap.size + 1, 0, none⟩) len0 L0 := (by simpa using s0'); clear s0'; have B1 := stepB Bd hb1; have own1 := ownd.call hb1; have c0 := own1.c0; have c1 := own1.c1; have c2 := own1.c2; have c3 := own1.c3; have lt0 := own1.lt) | (go_at_call 26; refine (c_toLift _ _ _ _ _).mono ?_; rintro e w2 ⟨rfl, hb2⟩; have B2 := stepB B1 hb2; have own2 := own1.call hb2) | (go_at_call 22; refine (c_viS _ _ _ _ _ _ _ _ _ _ (s0.call hb2) (by omega)).mono ?_; rintro e w3 ⟨rfl, hb3⟩; have B3 := stepB B2 hb3; have own3 := own2.call hb3; clear c0 c1 c2 c3 lt0; have c0 := own3.c0; have c1 := own3.c1; have c2 := own3.c2; have c3 := own3.c3; have lt0 := own3.lt))
  all_goals
    go_wp2_with fail
    refine (c_toIntS _ _ _ _ _ (src0.call B3) (by omega)).mono ?_
    rintro e w4 ⟨rfl, x0, hb4⟩
    have B4 := stepB B3 hb4
    have own4 := own3.call hb4
    clear c0 c1 c2 c3 lt0
    have c0 := own4.c0
    have c1 := own4.c1
    have c2 := own4.c2
    have c3 := own4.c3
    have lt0 := own4.lt
    go_wp2_with fail
    refine (c_toLift _ _ _ _ _).mono ?_
    rintro e w5 ⟨rfl, hb5⟩
    have B5 := stepB B4 hb5
    have own5 := own4.call hb5
    clear c0 c1 c2 c3 lt0
    have c0 := own5.c0
    have c1 := own5.c1
    have c2 := own5.c2
    have c3 := own5.c3
    have lt0 := own5.lt
    go_wp2_with fail
    refine (c_viI _ _ _ _ _ _ _ _ _ _ (x0.call hb5) (by omega)).mono ?_
    rintro e w6 ⟨rfl, hb6⟩
    have B6 := stepB B5 hb6
    have own6 := own5.call hb6
    clear c0 c1 c2 c3 lt0
    have c0 := own6.c0
    have c1 := own6.c1
    have c2 := own6.c2
    have c3 := own6.c3
    have lt0 := own6.lt
    go_wp2_with fail
    refine (c_toIntS _ _ _ _ _ (src0.call B6) (by omega)).mono ?_
    rintro e w7 ⟨rfl, y0, hb7⟩
    have B7 := stepB B6 hb7
    have own7 := own6.call hb7
    clear c0 c1 c2 c3 lt0
    have c0 := own7.c0
    have c1 := own7.c1
    have c2 := own7.c2
    have c3 := own7.c3
    have lt0 := own7.lt
    go_wp2_with fail
    refine (c_eqIntS _ _ _ _ _ _ _ (x0.call (stepB (stepB hb5 hb6) hb7)) y0 (by omega)).mono ?_
    rintro e w8 ⟨rfl, dd8⟩
    go_wp2
    go_ret
    exact ⟨rfl, stepB B7 dd8.below⟩
namespace fnExactLiftVisit
set_option linter.unusedVariables false
set_option maxRecDepth 100000 in
theorem lifted (os : Os) (started : os.Started) (H : Type) (enc : TypeId × Value → H) :
    ReturnsInHanded {} Try.checked os 10 .any (Rows.fnExactLiftVisitSpec.pre6 enc Try.prog Try.f10 Rows.fnExactLiftVisitRow.domain false) (Rows.fnExactLiftVisitSpec.post enc Try.prog Try.f10 false true false false) := by
  refine returnsInHanded_of_change (C := Try.checked) own started (by kernel_rfl) Try.func10
    (ChangeSpec.witness6 (enc := enc) (C := Try.checked) false ⟨#[], #[.slice none 0 0, .agg #[.int .i64 0, .int .i64 0, .int .i64 0, .int .i64 0], .int .i64 0], []⟩ 8 (by kernel_rfl) (by kernel_rfl) (by kernel_rfl) (by kernel_rfl)) ?_
  intro W base args ds gs before hval0 hW hcnd _
  have hval : ∀ (j : Nat) t v, Try.f10.params[j]? = some t → args[j]? = some v → Value.okWide Try.prog W .any base t v := hval0
  have hW' := hW
  obtain ⟨p, q, hA0, hV, rfl, hfz, hnd⟩ := hW
  have hA : DataW.TrodAll enc Try.prog W 0 (fun _ => true) true Try.f10.params.toList args.toList ds p := hA0
  rw [Try.params10] at hA hval
  obtain ⟨v0, vs0, d0, ds0, p0, q0, hargs, rfl, rfl, h0, r0⟩ := trodAll_cons hA
  obtain ⟨v1, vs1, d1, ds1, p1, q1, rfl, rfl, rfl, h1, r1⟩ := trodAll_cons r0
  obtain ⟨v2, vs2, d2, ds2, p2, q2, rfl, rfl, rfl, h2, r2⟩ := trodAll_cons r1
  obtain ⟨rfl, rfl, rfl⟩ := trodAll_nil r2
  obtain rfl : args = #[v0, v1, v2] := by cases args; simp_all
  obtain ⟨rfl, rfl⟩ := trodVars_none hV
  have k0 := h0
  have lt0 : ∀ x ∈ p0, x.block < W.heap.size := by obtain ⟨m, hm⟩ := k0; exact DataW.trod_lt m _ _ _ hm
  obtain ⟨a0, len0, cap0, rfl⟩ := okWide_slice Try.underlying23 (hval 0 23 v0 rfl rfl)
  obtain ⟨z0, w0⟩ : ∃ zs, IsRow .i64 W a0 len0 cap0 zs := by
    obtain ⟨fuel, hf⟩ := h0
    rcases open_ints Try.underlying23 Try.underlying3 (by kernel_rfl) hf with ⟨hcs, _⟩ | ⟨x, l, c, zs, hcs, _, hl, hm, hz, _, hcell, hwz⟩
    · simp [Value.cells] at hcs
      obtain ⟨rfl, rfl, rfl⟩ := hcs
      exact ⟨[], .inl ⟨rfl, rfl, rfl, rfl⟩⟩
    · simp [Value.cells] at hcs
      obtain ⟨rfl, rfl, rfl⟩ := hcs
      exact ⟨zs, .inr ⟨_, rfl, hl, hm, by simpa using hz, hcell, hwz⟩⟩
  have k1 := h1
  have lt1 : ∀ x ∈ p1, x.block < W.heap.size := by obtain ⟨m, hm⟩ := k1; exact DataW.trod_lt m _ _ _ hm
  obtain ⟨a1, b1, c1, e1, rfl, wa1, wb1, wc1, we1⟩ := open_lift (hval 1 45 v1 rfl rfl) h1
  obtain ⟨a2, rfl, rfl, rfl, w2⟩ := open_int Try.underlying3 (hval 2 3 v2 rfl rfl) h2
  clear hA0 hval0
  refine (walk_FnExactLiftVisit a0 len0 cap0 z0 a1 b1 c1 e1 wa1 wb1 wc1 we1 a2 w2 W w0).mono fun e W' ⟨he, bel⟩ => ?_
  subst he
  exact ⟨_, rfl, _, _, _, [], _, [], hW', trodAll_mk1 (shut_bool Try.underlying4 _), (trodAll_cons_mk (Below.trod laidOut (by kernel_rfl) (of_decide_eq_true (by kernel_rfl)) k0 bel lt0) (trodAll_cons_mk (Below.trod laidOut (by kernel_rfl) (of_decide_eq_true (by kernel_rfl)) k1 bel lt1) (trodAll_cons_mk (shut_int Try.underlying3 w2) trodAll_mk0))), rfl, bel.frame _, fun h => by cases h⟩
theorem over : Rows.fnExactLiftVisitRow.holds Try.pinned (OpenSpec.ofChange Rows.fnExactLiftVisitSpec) :=
  OpenClaim.holds_of_wide 10 Try.f10 rfl rfl rfl rfl rfl rfl rfl ⟨rfl, rfl, rfl, rfl, rfl⟩ rfl rfl rfl rfl rfl (by kernel_rfl) Try.func10 (by kernel_rfl)
    (of_decide_eq_true (by kernel_rfl)) (by unfold Func.isWrapper; first | (rw [if_pos (by decide +kernel)]; kernel_rfl) | (rw [if_neg (by decide +kernel)]; exact ⟨rfl, rfl⟩))
    (fun os started H enc _ => lifted os started H enc)
/-- The statement. -/
theorem proved : Rows.FnExactLiftVisitSaid := over
end fnExactLiftVisit
#print axioms fnExactLiftVisit.proved
end Go.Proofs.Ythmjmlblnikmaaa
