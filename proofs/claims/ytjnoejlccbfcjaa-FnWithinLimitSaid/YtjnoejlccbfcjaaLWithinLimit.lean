/- FnWithinLimit returns true for every code: who can stop at a target is within the limit. No conditions. -/
import Derived.Test.YtjnoejlccbfcjaaOpn
import Derived.Test.YtjnoejlccbfcjaaDra
import Derived.Test.YtjnoejlccbfcjaaWithin
import Derived.Test.YtjnoejlccbfcjaaPlainD
import Derived.Deep.LoopGhost
namespace Go.Proofs.Ytjnoejlccbfcjaa
open Go.ChangeShapes Go.WideShapes Go.ChangeAt Go.RowKit Go.Joins Pl
set_option maxHeartbeats 4000000 in
theorem walk_FnWithinLimit (a0 : Option Addr) (len0 cap0 : Nat) (z0 : List Int) (w : World) (h0 : IsRow .u8 w a0 len0 cap0 z0) :
    Calls Try.prog 13 #[.slice a0 len0 cap0] w fun e w' => e = .returned (.bool true) ∧ Below w.heap.size w w' := by
  obtain ⟨src, hcap⟩ := srcB_of_row h0
  clear h0
  by_cases hbig : 1048576 < len0
  · go_enter Try.func13, Try.ntmps13
    go_wp2
    go_ret
    exact ⟨rfl, Below.refl _ _⟩
  go_enter Try.func13, Try.ntmps13
  go_wp2_with fail
  refine (c_DrawWithinLimit _ _ _ _ _ src (by omega) hcap).mono ?_
  rintro e w1 ⟨a, v, ha, hv, rfl, B1⟩
  clear ha hv
  rcases hm : withinL a v
  · have hc : ∀ t, canStop a v t = false := fun t => by
      rcases h : canStop a v t
      · rfl
      · have := can_within h; rw [hm] at this; cases this
    have HC := Lib.hid hc; clear hc
    have HM := Lib.hid hm; clear hm
    go_wp2_with fail
    refine (c_withI _ _ _).mono ?_
    rintro e w2 ⟨rfl, hb2⟩
    rw [HM.out]
    have B2 := stepB (B1.alloc B1.size _) hb2
    have mo2 := (Own2.new _ _ _ _).call hb2
    have c0 := mo2.c0
    have c1 := mo2.c1
    have cl := mo2.lt
    go_wp2_with fail
    refine (c_withS _ _ _).mono ?_
    rintro e w3 ⟨rfl, hb3⟩
    rw [HM.out]
    have B3 := stepB B2 hb3
    have mo3 := mo2.call hb3
    clear c0 c1
    have c0 := mo3.c0
    have c1 := mo3.c1
    have cl := mo3.lt
    go_wp2
    clear c0 c1 cl
    go_loopw [5] (fun s wr => ∃ k : Nat, k ≤ 61 ∧ s = .int .i64 (k : Int) ∧ Below w.heap.size w wr ∧ Own2 wr w1.heap.size (.int .i64 a) (.int .i64 v)) (fun s _ => 61 - (intOf s).toNat)
    case atStart => exact ⟨0, by omega, rfl, B3, mo3⟩
    case round =>
      clear B3 mo3 B2 mo2 hb2 hb3
      obtain ⟨k, hk, rfl, B4, mo4⟩ := hrel
      have c0 := mo4.c0
      have c1 := mo4.c1
      have cl := mo4.lt
      by_cases hlt : k < 61
      · have i1 : (k : Int) ≤ 60 := by omega
        go_wp2_with fail
        refine (c_canI _ _ _ _).mono ?_
        rintro e w5 ⟨rfl, hb5⟩
        rw [HC.out]
        have B5 := stepB B4 hb5
        have mo5 := mo4.call hb5
        clear c0 c1
        have c0 := mo5.c0
        have c1 := mo5.c1
        have cl := mo5.lt
        go_wp2
        go_roundw
        case rel => exact ⟨k + 1, by omega, by go_num, B5, mo5⟩
        case measure => simp [intOf]; omega
      · obtain rfl : k = 61 := by omega
        go_wp2_with fail
        refine (c_alive _).mono ?_
        rintro e w5 ⟨rfl, hb5⟩
        go_wp2
        go_ret
        exact ⟨rfl, stepB B4 hb5⟩
  · have hs := within_step hm
    have HM := Lib.hid hm; clear hm
    have HS := Lib.hid hs; clear hs
    go_wp2_with fail
    refine (c_withI _ _ _).mono ?_
    rintro e w2 ⟨rfl, hb2⟩
    rw [HM.out]
    have B2 := stepB (B1.alloc B1.size _) hb2
    have mo2 := (Own2.new _ _ _ _).call hb2
    have c0 := mo2.c0
    have c1 := mo2.c1
    have cl := mo2.lt
    go_wp2_with fail
    refine (c_withS _ _ _).mono ?_
    rintro e w3 ⟨rfl, hb3⟩
    rw [HM.out]
    have B3 := stepB B2 hb3
    have mo3 := mo2.call hb3
    clear c0 c1
    have c0 := mo3.c0
    have c1 := mo3.c1
    have cl := mo3.lt
    go_wp2
    clear c0 c1 cl
    go_loopw [5] (fun s wr => ∃ k : Nat, k ≤ 61 ∧ s = .int .i64 (k : Int) ∧ Below w.heap.size w wr ∧ Own2 wr w1.heap.size (.int .i64 a) (.int .i64 v)) (fun s _ => 61 - (intOf s).toNat)
    case atStart => exact ⟨0, by omega, rfl, B3, mo3⟩
    case round =>
      clear B3 mo3 B2 mo2 hb2 hb3
      obtain ⟨k, hk, rfl, B4, mo4⟩ := hrel
      have c0 := mo4.c0
      have c1 := mo4.c1
      have cl := mo4.lt
      by_cases hlt : k < 61
      · have i1 : (k : Int) ≤ 60 := by omega
        rcases hcs : canStop a v (k : Int)
        all_goals
          have HC := Lib.hid hcs; clear hcs
          go_wp2_with fail
          refine (c_canI _ _ _ _).mono ?_
          rintro e w5 ⟨rfl, hb5⟩
          rw [HC.out]
          have B5 := stepB B4 hb5
          have mo5 := mo4.call hb5
          clear c0 c1
          have c0 := mo5.c0
          have c1 := mo5.c1
          have cl := mo5.lt
          go_wp2
          go_roundw
          case rel => exact ⟨k + 1, by omega, by go_num, B5, mo5⟩
          case measure => simp [intOf]; omega
      · obtain rfl : k = 61 := by omega
        by_cases h0 : 0 < v
        · have hs := HS.out
          rw [if_pos h0] at hs
          have HS2 := Lib.hid hs; clear hs
          go_wp2_with fail
          refine (c_stepI _ _ _ _).mono ?_
          rintro e w5 ⟨rfl, hb5⟩
          have B5 := stepB B4 hb5
          have mo5 := mo4.call hb5
          clear c0 c1
          have c0 := mo5.c0
          have c1 := mo5.c1
          have cl := mo5.lt
          go_wp2_with fail
          refine (c_withI _ _ _).mono ?_
          rintro e w6 ⟨rfl, hb6⟩
          rw [HS2.out]
          have B6 := stepB B5 hb6
          have mo6 := mo5.call hb6
          clear c0 c1
          have c0 := mo6.c0
          have c1 := mo6.c1
          have cl := mo6.lt
          go_wp2
          go_ret
          exact ⟨rfl, B6⟩
        · have hs := HS.out
          rw [if_neg h0] at hs
          have HS2 := Lib.hid hs; clear hs
          have d0 : decide (0 < v) = false := by simpa using h0
          go_wp2_with fail
          refine (c_stepI _ _ _ _).mono ?_
          rintro e w5 ⟨rfl, hb5⟩
          have B5 := stepB B4 hb5
          have mo5 := mo4.call hb5
          clear c0 c1
          have c0 := mo5.c0
          have c1 := mo5.c1
          have cl := mo5.lt
          go_wp2_with fail
          refine (c_withI _ _ _).mono ?_
          rintro e w6 ⟨rfl, hb6⟩
          rw [HS2.out]
          have B6 := stepB B5 hb6
          have mo6 := mo5.call hb6
          clear c0 c1
          have c0 := mo6.c0
          have c1 := mo6.c1
          have cl := mo6.lt
          go_wp2
          go_ret
          exact ⟨rfl, B6⟩
namespace fnWithinLimit
set_option linter.unusedVariables false
set_option maxRecDepth 100000 in
theorem lifted (os : Os) (started : os.Started) (H : Type) (enc : TypeId × Value → H) :
    ReturnsInHanded {} Try.checked os 13 .any (Rows.fnWithinLimitSpec.pre6 enc Try.prog Try.f13 Rows.fnWithinLimitRow.domain false) (Rows.fnWithinLimitSpec.post enc Try.prog Try.f13 false true false false) := by
  refine returnsInHanded_of_change (C := Try.checked) own started (by kernel_rfl) Try.func13
    (ChangeSpec.witness6 (enc := enc) (C := Try.checked) false ⟨#[], #[.slice none 0 0], []⟩ 8 (by kernel_rfl) (by kernel_rfl) (by kernel_rfl) (by kernel_rfl)) ?_
  intro W base args ds gs before hval0 hW hcnd _
  have hval : ∀ (j : Nat) t v, Try.f13.params[j]? = some t → args[j]? = some v → Value.okWide Try.prog W .any base t v := hval0
  have hW' := hW
  obtain ⟨p, q, hA0, hV, rfl, hfz, hnd⟩ := hW
  have hA : DataW.TrodAll enc Try.prog W 0 (fun _ => true) true Try.f13.params.toList args.toList ds p := hA0
  rw [Try.params13] at hA hval
  obtain ⟨v0, vs0, d0, ds0, p0, q0, hargs, rfl, rfl, h0, r0⟩ := trodAll_cons hA
  obtain ⟨rfl, rfl, rfl⟩ := trodAll_nil r0
  obtain rfl : args = #[v0] := by cases args; simp_all
  obtain ⟨rfl, rfl⟩ := trodVars_none hV
  have k0 := h0
  have lt0 : ∀ x ∈ p0, x.block < W.heap.size := by obtain ⟨m, hm⟩ := k0; exact DataW.trod_lt m _ _ _ hm
  obtain ⟨a0, len0, cap0, rfl⟩ := okWide_slice Try.underlying22 (hval 0 22 v0 rfl rfl)
  obtain ⟨z0, w0⟩ : ∃ zs, IsRow .u8 W a0 len0 cap0 zs := by
    obtain ⟨fuel, hf⟩ := h0
    rcases open_ints Try.underlying22 Try.underlying5 (by kernel_rfl) hf with ⟨hcs, _⟩ | ⟨x, l, c, zs, hcs, _, hl, hm, hz, _, hcell, hwz⟩
    · simp [Value.cells] at hcs
      obtain ⟨rfl, rfl, rfl⟩ := hcs
      exact ⟨[], .inl ⟨rfl, rfl, rfl, rfl⟩⟩
    · simp [Value.cells] at hcs
      obtain ⟨rfl, rfl, rfl⟩ := hcs
      exact ⟨zs, .inr ⟨_, rfl, hl, hm, by simpa using hz, hcell, hwz⟩⟩
  clear hA0 hval0
  refine (walk_FnWithinLimit a0 len0 cap0 z0 W w0).mono fun e W' ⟨he, bel⟩ => ?_
  subst he
  exact ⟨_, rfl, _, _, _, [], _, [], hW', trodAll_mk1 (shut_bool Try.underlying4 _), (trodAll_cons_mk (Below.trod laidOut (by kernel_rfl) (of_decide_eq_true (by kernel_rfl)) k0 bel lt0) trodAll_mk0), rfl, bel.frame _, fun h => by cases h⟩
theorem over : Rows.fnWithinLimitRow.holds Try.pinned (OpenSpec.ofChange Rows.fnWithinLimitSpec) :=
  OpenClaim.holds_of_wide 13 Try.f13 rfl rfl rfl rfl rfl rfl rfl ⟨rfl, rfl, rfl, rfl, rfl⟩ rfl rfl rfl rfl rfl (by kernel_rfl) Try.func13 (by kernel_rfl)
    (of_decide_eq_true (by kernel_rfl)) (by unfold Func.isWrapper; first | (rw [if_pos (by decide +kernel)]; kernel_rfl) | (rw [if_neg (by decide +kernel)]; exact ⟨rfl, rfl⟩))
    (fun os started H enc _ => lifted os started H enc)
/-- The statement. -/
theorem proved : Rows.FnWithinLimitSaid := over
end fnWithinLimit
#print axioms fnWithinLimit.proved
end Go.Proofs.Ytjnoejlccbfcjaa
