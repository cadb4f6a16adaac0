/- FnFloorAt returns true for every code: every floor is at its height. No conditions. -/
import Derived.Test.YtkigpogamjgngaaOpn
import Derived.Test.YtkigpogamjgngaaDraE
import Derived.Test.YtkigpogamjgngaaPlainD
import Derived.Deep.LoopGhost
namespace Go.Proofs.Ytkigpogamjgngaa
open Go.ChangeShapes Go.WideShapes Go.ChangeAt Go.RowKit Go.Joins Pl
set_option maxHeartbeats 4000000 in
theorem walk_FnFloorAt (a0 : Option Addr) (len0 cap0 : Nat) (z0 : List Int) (w : World) (h0 : IsRow .u8 w a0 len0 cap0 z0) :
    Calls Try.prog 4 #[.slice a0 len0 cap0] w fun e w' => e = .returned (.bool true) ∧ Below w.heap.size w w' := by
  obtain ⟨src, hcap⟩ := srcB_of_row h0
  clear h0
  by_cases hbig : 1048576 < len0
  · go_enter Try.func4, Try.ntmps4
    go_wp2
    go_ret
    exact ⟨rfl, Below.refl _ _⟩
  go_enter Try.func4, Try.ntmps4
  go_wp2_with fail
  refine (c_DrawFloorAt _ _ _ _ _ src (by omega) hcap).mono ?_
  rintro e w1 ⟨A, n, c, L, a, hn, hc, hS1, hb, ha, rfl, B1⟩
  clear hb hc
  have hl := hS1.1
  have HL := Lib.hid hl; clear hl
  rcases hm : floorsV L
  · have hx := floorAt_no (a := a) hm
    have HX := Lib.hid hx; clear hx
    have HM := Lib.hid hm; clear hm
    go_wp2_with fail
    refine (c_faI _ _ _ _ _ _ hS1 (by omega)).mono ?_
    rintro e w2 ⟨rfl, d2⟩
    rw [HX.out]
    have hS2 := d2.sl hS1
    have B2 := stepB B1 d2.below
    go_wp2_with fail
    refine (c_faS _ _ _ _ _ _ hS2 (by omega)).mono ?_
    rintro e w3 ⟨rfl, d3⟩
    rw [HX.out]
    have hS3 := d3.sl hS2
    have B3 := stepB B2 d3.below
    go_wp2_with fail
    refine (c_fvS _ _ _ _ _ hS3 (by omega)).mono ?_
    rintro e w4 ⟨rfl, d4⟩
    rw [HM.out]
    have hS4 := d4.sl hS3
    have B4 := stepB B3 d4.below
    go_wp2_with fail
    refine (c_alive _).mono ?_
    rintro e w5 ⟨rfl, hb5⟩
    go_wp2
    go_ret
    exact ⟨rfl, stepB B4 hb5⟩
  · have hp : 0 < n := by have := (floorsV_iff.1 hm).1; rw [HL.out] at this; omega
    have HM := Lib.hid hm; clear hm
    obtain ⟨b, o, rfl, _, _⟩ := hS1.2 hp
    rcases floorAt_cases L a with ⟨hx, hno⟩ | ⟨k0, hk0, hx, hat, _⟩
    · have hno' := hno HM.out
      have HNO := Lib.hid hno'; clear hno hno'
      have HX := Lib.hid hx; clear hx
      go_wp2_with fail
      refine (c_faI _ _ _ _ _ _ hS1 (by omega)).mono ?_
      rintro e w2 ⟨rfl, d2⟩
      rw [HX.out]
      have hS2 := d2.sl hS1
      have B2 := stepB B1 d2.below
      go_wp2_with fail
      refine (c_faS _ _ _ _ _ _ hS2 (by omega)).mono ?_
      rintro e w3 ⟨rfl, d3⟩
      rw [HX.out]
      have hS3 := d3.sl hS2
      have B3 := stepB B2 d3.below
      go_wp2_with fail
      refine (c_fvS _ _ _ _ _ hS3 (by omega)).mono ?_
      rintro e w4 ⟨rfl, d4⟩
      rw [HM.out]
      have hS4 := d4.sl hS3
      have B4 := stepB B3 d4.below
      obtain ⟨b', o', e', _, hc4⟩ := hS4.2 hp
      cases e'
      have HC := Lib.hid hc4; clear hc4
      go_wp2
      go_loopw [6] (fun s wr => ∃ k : Nat, k ≤ n ∧ s = .int .i64 (k : Int) ∧ DN w4 wr) (fun s _ => n - (intOf s).toNat)
      case atStart => exact ⟨0, by omega, rfl, DN.refl _⟩
      case round =>
        obtain ⟨k, hk, rfl, hd⟩ := hrel
        by_cases hlt : k < n
        · have ck : wr.cell? ⟨b, o + k, none⟩ = some (.int .i64 (nth L k)) := (hd.cell _).trans (HC.out k hlt)
          have i1 : (k : Int) < (n : Int) := by omega
          have hk1 := floorAt_nat HM.out (k := k) (by rw [HL.out]; exact hlt)
          have HK := Lib.hid hk1; clear hk1
          have e0 : ((k : Int) != (k : Int)) = false := by simp
          have hne := HNO.out k (by rw [HL.out]; exact hlt)
          have e1 : (nth L k == a) = false := by simp [hne]
          clear hne
          go_wp2_with fail
          refine (c_faI _ _ _ _ _ _ (hd.sl hS4) (by omega)).mono ?_
          rintro e w5 ⟨rfl, d5⟩
          rw [HK.out]
          have ck5 : w5.cell? ⟨b, o + k, none⟩ = some (.int .i64 (nth L k)) := (d5.cell _).trans ck
          clear ck
          go_wp2
          go_roundw
          case rel => exact ⟨k + 1, by omega, by go_num, hd.trans d5⟩
          case measure => simp [intOf]; omega
        · obtain rfl : n = k := by omega
          go_wp2
          go_ret
          exact ⟨rfl, stepB B4 hd.below⟩
    · have HX := Lib.hid hx; clear hx
      rw [HL.out] at hk0
      have e2 : ((k0 : Int) == -1) = false := beq_eq_false_iff_ne.2 (by omega)
      have i0 : (k0 : Int) < (n : Int) := by omega
      have hat' : (nth L k0 == a) = true := by simp [hat]
      clear hat
      go_wp2_with fail
      refine (c_faI _ _ _ _ _ _ hS1 (by omega)).mono ?_
      rintro e w2 ⟨rfl, d2⟩
      rw [HX.out]
      have hS2 := d2.sl hS1
      have B2 := stepB B1 d2.below
      go_wp2_with fail
      refine (c_faS _ _ _ _ _ _ hS2 (by omega)).mono ?_
      rintro e w3 ⟨rfl, d3⟩
      rw [HX.out]
      have hS3 := d3.sl hS2
      have B3 := stepB B2 d3.below
      go_wp2_with fail
      refine (c_fvS _ _ _ _ _ hS3 (by omega)).mono ?_
      rintro e w4 ⟨rfl, d4⟩
      rw [HM.out]
      have hS4 := d4.sl hS3
      have B4 := stepB B3 d4.below
      obtain ⟨b', o', e', _, hc4⟩ := hS4.2 hp
      cases e'
      have HC := Lib.hid hc4; clear hc4
      go_wp2
      go_loopw [6] (fun s wr => ∃ k : Nat, k ≤ n ∧ s = .int .i64 (k : Int) ∧ DN w4 wr) (fun s _ => n - (intOf s).toNat)
      case atStart => exact ⟨0, by omega, rfl, DN.refl _⟩
      case round =>
        obtain ⟨k, hk, rfl, hd⟩ := hrel
        by_cases hlt : k < n
        · have ck : wr.cell? ⟨b, o + k, none⟩ = some (.int .i64 (nth L k)) := (hd.cell _).trans (HC.out k hlt)
          have i1 : (k : Int) < (n : Int) := by omega
          have hk1 := floorAt_nat HM.out (k := k) (by rw [HL.out]; exact hlt)
          have HK := Lib.hid hk1; clear hk1
          have e0 : ((k : Int) != (k : Int)) = false := by simp
          go_wp2_with fail
          refine (c_faI _ _ _ _ _ _ (hd.sl hS4) (by omega)).mono ?_
          rintro e w5 ⟨rfl, d5⟩
          rw [HK.out]
          have ck5 : w5.cell? ⟨b, o + k, none⟩ = some (.int .i64 (nth L k)) := (d5.cell _).trans ck
          clear ck
          go_wp2
          go_roundw
          case rel => exact ⟨k + 1, by omega, by go_num, hd.trans d5⟩
          case measure => simp [intOf]; omega
        · obtain rfl : n = k := by omega
          have ck0 : wr.cell? ⟨b, o + k0, none⟩ = some (.int .i64 (nth L k0)) := (hd.cell _).trans (HC.out k0 hk0)
          go_wp2
          go_ret
          exact ⟨rfl, stepB B4 hd.below⟩
namespace fnFloorAt
set_option linter.unusedVariables false
set_option maxRecDepth 100000 in
theorem lifted (os : Os) (started : os.Started) (H : Type) (enc : TypeId × Value → H) :
    ReturnsInHanded {} Try.checked os 4 .any (Rows.fnFloorAtSpec.pre6 enc Try.prog Try.f4 Rows.fnFloorAtRow.domain false) (Rows.fnFloorAtSpec.post enc Try.prog Try.f4 false true false false) := by
  refine returnsInHanded_of_change (C := Try.checked) own started (by kernel_rfl) Try.func4
    (ChangeSpec.witness6 (enc := enc) (C := Try.checked) false ⟨#[], #[.slice none 0 0], []⟩ 8 (by kernel_rfl) (by kernel_rfl) (by kernel_rfl) (by kernel_rfl)) ?_
  intro W base args ds gs before hval0 hW hcnd _
  have hval : ∀ (j : Nat) t v, Try.f4.params[j]? = some t → args[j]? = some v → Value.okWide Try.prog W .any base t v := hval0
  have hW' := hW
  obtain ⟨p, q, hA0, hV, rfl, hfz, hnd⟩ := hW
  have hA : DataW.TrodAll enc Try.prog W 0 (fun _ => true) true Try.f4.params.toList args.toList ds p := hA0
  rw [Try.params4] at hA hval
  obtain ⟨v0, vs0, d0, ds0, p0, q0, hargs, rfl, rfl, h0, r0⟩ := trodAll_cons hA
  obtain ⟨rfl, rfl, rfl⟩ := trodAll_nil r0
  obtain rfl : args = #[v0] := by cases args; simp_all
  obtain ⟨rfl, rfl⟩ := trodVars_none hV
  have k0 := h0
  have lt0 : ∀ x ∈ p0, x.block < W.heap.size := by obtain ⟨m, hm⟩ := k0; exact DataW.trod_lt m _ _ _ hm
  obtain ⟨a0, len0, cap0, rfl⟩ := okWide_slice Try.underlying22 (hval 0 22 v0 rfl rfl)
  obtain ⟨z0, w0⟩ : ∃ zs, IsRow .u8 W a0 len0 cap0 zs := by
    obtain ⟨fuel, hf⟩ := h0
    rcases open_ints Try.underlying22 Try.underlying5 (by kernel_rfl) hf with ⟨hcs, _⟩ | ⟨x, l, c, zs, hcs, _, hl, hm, hz, _, hcell, hwz⟩
    · simp [Value.cells] at hcs
      obtain ⟨rfl, rfl, rfl⟩ := hcs
      exact ⟨[], .inl ⟨rfl, rfl, rfl, rfl⟩⟩
    · simp [Value.cells] at hcs
      obtain ⟨rfl, rfl, rfl⟩ := hcs
      exact ⟨zs, .inr ⟨_, rfl, hl, hm, by simpa using hz, hcell, hwz⟩⟩
  clear hA0 hval0
  refine (walk_FnFloorAt a0 len0 cap0 z0 W w0).mono fun e W' ⟨he, bel⟩ => ?_
  subst he
  exact ⟨_, rfl, _, _, _, [], _, [], hW', trodAll_mk1 (shut_bool Try.underlying4 _), (trodAll_cons_mk (Below.trod laidOut (by kernel_rfl) (of_decide_eq_true (by kernel_rfl)) k0 bel lt0) trodAll_mk0), rfl, bel.frame _, fun h => by cases h⟩
theorem over : Rows.fnFloorAtRow.holds Try.pinned (OpenSpec.ofChange Rows.fnFloorAtSpec) :=
  OpenClaim.holds_of_wide 4 Try.f4 rfl rfl rfl rfl rfl rfl rfl ⟨rfl, rfl, rfl, rfl, rfl⟩ rfl rfl rfl rfl rfl (by kernel_rfl) Try.func4 (by kernel_rfl)
    (of_decide_eq_true (by kernel_rfl)) (by unfold Func.isWrapper; first | (rw [if_pos (by decide +kernel)]; kernel_rfl) | (rw [if_neg (by decide +kernel)]; exact ⟨rfl, rfl⟩))
    (fun os started H enc _ => lifted os started H enc)
/-- The statement. -/
theorem proved : Rows.FnFloorAtSaid := over
end fnFloorAt
#print axioms fnFloorAt.proved
end Go.Proofs.Ytkigpogamjgngaa
