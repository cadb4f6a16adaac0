/- FnFloorWay returns true for every code: ways add up. No conditions. -/
import Derived.Test.YtkigpogamjgngaaOpn
import Derived.Test.YtkigpogamjgngaaDraE
import Derived.Test.YtkigpogamjgngaaFloB
import Derived.Test.YtkigpogamjgngaaPlainD
import Derived.Deep.LoopGhost
namespace Go.Proofs.Ytkigpogamjgngaa
open Go.ChangeShapes Go.WideShapes Go.ChangeAt Go.RowKit Go.Joins Pl
theorem way_bd {L : List Int} (h : floorsV L = true) {i j : Nat} (hi : i < L.length) (hj : j < L.length) : 0 ≤ floorWay L (i : Int) (j : Int) ∧ floorWay L (i : Int) (j : Int) ≤ 120 := by
  have e : floorWay L (i : Int) (j : Int) = dist (nth L i) (nth L j) := by unfold floorWay; rw [h, isFl_mk hi, isFl_mk hj]; rfl
  have hf := floorsV_iff.1 h
  obtain ⟨a1, a2⟩ := fv_bd hf hi
  obtain ⟨b1, b2⟩ := fv_bd hf hj
  rw [e]
  exact dist_bd2 (by omega) a2 (by omega) b2
set_option maxHeartbeats 4000000 in
theorem walk_FnFloorWay (a0 : Option Addr) (len0 cap0 : Nat) (z0 : List Int) (w : World) (h0 : IsRow .u8 w a0 len0 cap0 z0) :
    Calls Try.prog 7 #[.slice a0 len0 cap0] w fun e w' => e = .returned (.bool true) ∧ Below w.heap.size w w' := by
  obtain ⟨src, hcap⟩ := srcB_of_row h0
  clear h0
  by_cases hbig : 1048576 < len0
  · go_enter Try.func7, Try.ntmps7
    go_wp2
    go_ret
    exact ⟨rfl, Below.refl _ _⟩
  go_enter Try.func7, Try.ntmps7
  go_wp2_with fail
  refine (c_DrawFloorWay _ _ _ _ _ src (by omega) hcap).mono ?_
  rintro e w1 ⟨A, n, c, L, a, b, hn, hc, hS1, hb, ⟨a1, a2⟩, ⟨b1, b2⟩, rfl, B1⟩
  clear hb hc
  have hl := hS1.1
  have HL := Lib.hid hl; clear hl
  rcases hm : floorsV L
  · have hx : floorWay L a b = -1 := by unfold floorWay; rw [hm]; rfl
    have HX := Lib.hid hx; clear hx hm
    go_wp2_with fail
    refine (c_fwI _ _ _ _ _ _ _ hS1 (by omega)).mono ?_
    rintro e w2 ⟨rfl, d2⟩
    rw [HX.out]
    have hS2 := d2.sl hS1
    have B2 := stepB B1 d2.below
    go_wp2_with fail
    refine (c_fwS _ _ _ _ _ _ _ hS2 (by omega)).mono ?_
    rintro e w3 ⟨rfl, d3⟩
    rw [HX.out]
    have hS3 := d3.sl hS2
    have B3 := stepB B2 d3.below
    go_wp2_with fail
    refine (c_alive _).mono ?_
    rintro e w4 ⟨rfl, hb4⟩
    go_wp2
    go_ret
    exact ⟨rfl, stepB B3 hb4⟩
  rcases ha : isFl L a
  · have hx : floorWay L a b = -1 := by unfold floorWay; rw [hm, ha]; rfl
    have HX := Lib.hid hx; clear hx hm ha
    go_wp2_with fail
    refine (c_fwI _ _ _ _ _ _ _ hS1 (by omega)).mono ?_
    rintro e w2 ⟨rfl, d2⟩
    rw [HX.out]
    have hS2 := d2.sl hS1
    have B2 := stepB B1 d2.below
    go_wp2_with fail
    refine (c_fwS _ _ _ _ _ _ _ hS2 (by omega)).mono ?_
    rintro e w3 ⟨rfl, d3⟩
    rw [HX.out]
    have hS3 := d3.sl hS2
    have B3 := stepB B2 d3.below
    go_wp2_with fail
    refine (c_alive _).mono ?_
    rintro e w4 ⟨rfl, hb4⟩
    go_wp2
    go_ret
    exact ⟨rfl, stepB B3 hb4⟩
  rcases hb : isFl L b
  · have hx : floorWay L a b = -1 := by unfold floorWay; rw [hm, ha, hb]; rfl
    have HX := Lib.hid hx; clear hx hm ha hb
    go_wp2_with fail
    refine (c_fwI _ _ _ _ _ _ _ hS1 (by omega)).mono ?_
    rintro e w2 ⟨rfl, d2⟩
    rw [HX.out]
    have hS2 := d2.sl hS1
    have B2 := stepB B1 d2.below
    go_wp2_with fail
    refine (c_fwS _ _ _ _ _ _ _ hS2 (by omega)).mono ?_
    rintro e w3 ⟨rfl, d3⟩
    rw [HX.out]
    have hS3 := d3.sl hS2
    have B3 := stepB B2 d3.below
    go_wp2_with fail
    refine (c_alive _).mono ?_
    rintro e w4 ⟨rfl, hb4⟩
    go_wp2
    go_ret
    exact ⟨rfl, stepB B3 hb4⟩
  obtain ⟨i, hi, rfl⟩ := isFl_nat ha
  obtain ⟨j, hj, rfl⟩ := isFl_nat hb
  obtain ⟨hsym, hzero, hw⟩ := way_law hm hi hj
  obtain ⟨X1, X2⟩ := way_bd hm hi hj
  obtain ⟨X, hx⟩ : ∃ X, floorWay L (i : Int) (j : Int) = X := ⟨_, rfl⟩
  rw [hx] at hsym hzero X1 X2
  have ez : ((X == 0) = true ∧ ((i : Int) == (j : Int)) = true) ∨ ((X == 0) = false ∧ ((i : Int) == (j : Int)) = false) := by
    by_cases h : i = j
    · exact .inl ⟨by simp [hzero.2 h], by simp [h]⟩
    · exact .inr ⟨beq_eq_false_iff_ne.2 (fun h' => h (hzero.1 h')), beq_eq_false_iff_ne.2 (by omega)⟩
  rw [HL.out] at hi hj
  have HX := Lib.hid hx; clear hx
  have HY := Lib.hid hsym; clear hsym hzero
  have HW := Lib.hid hw; clear hw
  have HM := Lib.hid hm; clear hm ha hb
  have nx : decide (X < 0) = false := by simp; omega
  rcases Nat.lt_trichotomy i j with hij | hij | hij
  · have hij' : (i : Int) < (j : Int) := by omega
    have hij2 : ¬ j < i := by omega
    go_wp2_with fail
    refine (c_fwI _ _ _ _ _ _ _ hS1 (by omega)).mono ?_
    rintro e w2 ⟨rfl, d2⟩
    rw [HX.out]
    have hS2 := d2.sl hS1
    have B2 := stepB B1 d2.below
    go_wp2_with fail
    refine (c_fwS _ _ _ _ _ _ _ hS2 (by omega)).mono ?_
    rintro e w3 ⟨rfl, d3⟩
    rw [HX.out]
    have hS3 := d3.sl hS2
    have B3 := stepB B2 d3.below
    go_wp2
    go_loopw [7] (fun s wr => ∃ k : Nat, i ≤ k ∧ k ≤ j + 1 ∧ s = .int .i64 (k : Int) ∧ DN w3 wr) (fun s _ => j + 1 - (intOf s).toNat)
    case atStart => exact ⟨i, by omega, by omega, rfl, DN.refl _⟩
    case round =>
      obtain ⟨k, hk1, hk2, rfl, hd⟩ := hrel
      by_cases hlt : k ≤ j
      · have i1 : (k : Int) ≤ (j : Int) := by omega
        have hkn : k < L.length := by have := HL.out; omega
        have hsum := HW.out k (by omega) (by omega)
        obtain ⟨P, hP⟩ : ∃ P, floorWay L (i : Int) (k : Int) = P := ⟨_, rfl⟩
        obtain ⟨Q, hQ⟩ : ∃ Q, floorWay L (k : Int) (j : Int) = Q := ⟨_, rfl⟩
        obtain ⟨p1, p2⟩ := way_bd HM.out (i := i) (j := k) (by rw [HL.out]; omega) hkn
        obtain ⟨q1, q2⟩ := way_bd HM.out (i := k) (j := j) hkn (by rw [HL.out]; omega)
        rw [hP] at p1 p2 hsum
        rw [hQ] at q1 q2 hsum
        rw [HX.out] at hsum
        have HP := Lib.hid hP; clear hP
        have HQ := Lib.hid hQ; clear hQ hkn
        have es : (P + Q != X) = false := by simp [hsum]
        clear hsum
        go_wp2_with fail
        refine (c_fwI _ _ _ _ _ _ _ (hd.sl hS3) (by omega)).mono ?_
        rintro e w5 ⟨rfl, d5⟩
        rw [HP.out]
        go_wp2_with fail
        refine (c_fwI _ _ _ _ _ _ _ (d5.sl (hd.sl hS3)) (by omega)).mono ?_
        rintro e w6 ⟨rfl, d6⟩
        rw [HQ.out]
        go_wp2
        go_roundw
        case rel => exact ⟨k + 1, by omega, by omega, by go_num, (hd.trans d5).trans d6⟩
        case measure => simp [intOf]; omega
      · obtain rfl : k = j + 1 := by omega
        have nl : decide ((j : Int) + 1 ≤ (j : Int)) = false := decide_eq_false (by omega)
        go_wp2_with fail
        refine (c_fwI _ _ _ _ _ _ _ (hd.sl hS3) (by omega)).mono ?_
        rintro e w5 ⟨rfl, d5⟩
        rw [HY.out]
        rcases ez with ⟨e1, e2⟩ | ⟨e1, e2⟩
        all_goals
          go_wp2
          go_ret
          exact ⟨rfl, stepB (stepB B3 hd.below) d5.below⟩
  · subst hij
    go_wp2_with fail
    refine (c_fwI _ _ _ _ _ _ _ hS1 (by omega)).mono ?_
    rintro e w2 ⟨rfl, d2⟩
    rw [HX.out]
    have hS2 := d2.sl hS1
    have B2 := stepB B1 d2.below
    go_wp2_with fail
    refine (c_fwS _ _ _ _ _ _ _ hS2 (by omega)).mono ?_
    rintro e w3 ⟨rfl, d3⟩
    rw [HX.out]
    have hS3 := d3.sl hS2
    have B3 := stepB B2 d3.below
    go_wp2
    go_loopw [7] (fun s wr => ∃ k : Nat, i ≤ k ∧ k ≤ i + 1 ∧ s = .int .i64 (k : Int) ∧ DN w3 wr) (fun s _ => i + 1 - (intOf s).toNat)
    case atStart => exact ⟨i, by omega, by omega, rfl, DN.refl _⟩
    case round =>
      obtain ⟨k, hk1, hk2, rfl, hd⟩ := hrel
      by_cases hlt : k ≤ i
      · have i1 : (k : Int) ≤ (i : Int) := by omega
        have hkn : k < L.length := by have := HL.out; omega
        have hsum := HW.out k (by omega) (by omega)
        obtain ⟨P, hP⟩ : ∃ P, floorWay L (i : Int) (k : Int) = P := ⟨_, rfl⟩
        obtain ⟨Q, hQ⟩ : ∃ Q, floorWay L (k : Int) (i : Int) = Q := ⟨_, rfl⟩
        obtain ⟨p1, p2⟩ := way_bd HM.out (i := i) (j := k) (by rw [HL.out]; omega) hkn
        obtain ⟨q1, q2⟩ := way_bd HM.out (i := k) (j := i) hkn (by rw [HL.out]; omega)
        rw [hP] at p1 p2 hsum
        rw [hQ] at q1 q2 hsum
        rw [HX.out] at hsum
        have HP := Lib.hid hP; clear hP
        have HQ := Lib.hid hQ; clear hQ hkn
        have es : (P + Q != X) = false := by simp [hsum]
        clear hsum
        go_wp2_with fail
        refine (c_fwI _ _ _ _ _ _ _ (hd.sl hS3) (by omega)).mono ?_
        rintro e w5 ⟨rfl, d5⟩
        rw [HP.out]
        go_wp2_with fail
        refine (c_fwI _ _ _ _ _ _ _ (d5.sl (hd.sl hS3)) (by omega)).mono ?_
        rintro e w6 ⟨rfl, d6⟩
        rw [HQ.out]
        go_wp2
        go_roundw
        case rel => exact ⟨k + 1, by omega, by omega, by go_num, (hd.trans d5).trans d6⟩
        case measure => simp [intOf]; omega
      · obtain rfl : k = i + 1 := by omega
        have nl : decide ((i : Int) + 1 ≤ (i : Int)) = false := decide_eq_false (by omega)
        go_wp2_with fail
        refine (c_fwI _ _ _ _ _ _ _ (hd.sl hS3) (by omega)).mono ?_
        rintro e w5 ⟨rfl, d5⟩
        rw [HY.out]
        rcases ez with ⟨e1, e2⟩ | ⟨e1, e2⟩
        · go_wp2
          go_ret
          exact ⟨rfl, stepB (stepB B3 hd.below) d5.below⟩
        · exact absurd e2 (by simp)
  · have hij' : (j : Int) < (i : Int) := by omega
    have hij2 : ¬ i < j := by omega
    go_wp2_with fail
    refine (c_fwI _ _ _ _ _ _ _ hS1 (by omega)).mono ?_
    rintro e w2 ⟨rfl, d2⟩
    rw [HX.out]
    have hS2 := d2.sl hS1
    have B2 := stepB B1 d2.below
    go_wp2_with fail
    refine (c_fwS _ _ _ _ _ _ _ hS2 (by omega)).mono ?_
    rintro e w3 ⟨rfl, d3⟩
    rw [HX.out]
    have hS3 := d3.sl hS2
    have B3 := stepB B2 d3.below
    go_wp2
    go_loopw [7] (fun s wr => ∃ k : Nat, j ≤ k ∧ k ≤ i + 1 ∧ s = .int .i64 (k : Int) ∧ DN w3 wr) (fun s _ => i + 1 - (intOf s).toNat)
    case atStart => exact ⟨j, by omega, by omega, rfl, DN.refl _⟩
    case round =>
      obtain ⟨k, hk1, hk2, rfl, hd⟩ := hrel
      by_cases hlt : k ≤ i
      · have i1 : (k : Int) ≤ (i : Int) := by omega
        have hkn : k < L.length := by have := HL.out; omega
        have hsum := HW.out k (by omega) (by omega)
        obtain ⟨P, hP⟩ : ∃ P, floorWay L (i : Int) (k : Int) = P := ⟨_, rfl⟩
        obtain ⟨Q, hQ⟩ : ∃ Q, floorWay L (k : Int) (j : Int) = Q := ⟨_, rfl⟩
        obtain ⟨p1, p2⟩ := way_bd HM.out (i := i) (j := k) (by rw [HL.out]; omega) hkn
        obtain ⟨q1, q2⟩ := way_bd HM.out (i := k) (j := j) hkn (by rw [HL.out]; omega)
        rw [hP] at p1 p2 hsum
        rw [hQ] at q1 q2 hsum
        rw [HX.out] at hsum
        have HP := Lib.hid hP; clear hP
        have HQ := Lib.hid hQ; clear hQ hkn
        have es : (P + Q != X) = false := by simp [hsum]
        clear hsum
        go_wp2_with fail
        refine (c_fwI _ _ _ _ _ _ _ (hd.sl hS3) (by omega)).mono ?_
        rintro e w5 ⟨rfl, d5⟩
        rw [HP.out]
        go_wp2_with fail
        refine (c_fwI _ _ _ _ _ _ _ (d5.sl (hd.sl hS3)) (by omega)).mono ?_
        rintro e w6 ⟨rfl, d6⟩
        rw [HQ.out]
        go_wp2
        go_roundw
        case rel => exact ⟨k + 1, by omega, by omega, by go_num, (hd.trans d5).trans d6⟩
        case measure => simp [intOf]; omega
      · obtain rfl : k = i + 1 := by omega
        have nl : decide ((i : Int) + 1 ≤ (i : Int)) = false := decide_eq_false (by omega)
        go_wp2_with fail
        refine (c_fwI _ _ _ _ _ _ _ (hd.sl hS3) (by omega)).mono ?_
        rintro e w5 ⟨rfl, d5⟩
        rw [HY.out]
        rcases ez with ⟨e1, e2⟩ | ⟨e1, e2⟩
        all_goals
          go_wp2
          go_ret
          exact ⟨rfl, stepB (stepB B3 hd.below) d5.below⟩
namespace fnFloorWay
set_option linter.unusedVariables false
set_option maxRecDepth 100000 in
theorem lifted (os : Os) (started : os.Started) (H : Type) (enc : TypeId × Value → H) :
    ReturnsInHanded {} Try.checked os 7 .any (Rows.fnFloorWaySpec.pre6 enc Try.prog Try.f7 Rows.fnFloorWayRow.domain false) (Rows.fnFloorWaySpec.post enc Try.prog Try.f7 false true false false) := by
  refine returnsInHanded_of_change (C := Try.checked) own started (by kernel_rfl) Try.func7
    (ChangeSpec.witness6 (enc := enc) (C := Try.checked) false ⟨#[], #[.slice none 0 0], []⟩ 8 (by kernel_rfl) (by kernel_rfl) (by kernel_rfl) (by kernel_rfl)) ?_
  intro W base args ds gs before hval0 hW hcnd _
  have hval : ∀ (j : Nat) t v, Try.f7.params[j]? = some t → args[j]? = some v → Value.okWide Try.prog W .any base t v := hval0
  have hW' := hW
  obtain ⟨p, q, hA0, hV, rfl, hfz, hnd⟩ := hW
  have hA : DataW.TrodAll enc Try.prog W 0 (fun _ => true) true Try.f7.params.toList args.toList ds p := hA0
  rw [Try.params7] at hA hval
  obtain ⟨v0, vs0, d0, ds0, p0, q0, hargs, rfl, rfl, h0, r0⟩ := trodAll_cons hA
  obtain ⟨rfl, rfl, rfl⟩ := trodAll_nil r0
  obtain rfl : args = #[v0] := by cases args; simp_all
  obtain ⟨rfl, rfl⟩ := trodVars_none hV
  have k0 := h0
  have lt0 : ∀ x ∈ p0, x.block < W.heap.size := by obtain ⟨m, hm⟩ := k0; exact DataW.trod_lt m _ _ _ hm
  obtain ⟨a0, len0, cap0, rfl⟩ := okWide_slice Try.underlying22 (hval 0 22 v0 rfl rfl)
  obtain ⟨z0, w0⟩ : ∃ zs, IsRow .u8 W a0 len0 cap0 zs := by
    obtain ⟨fuel, hf⟩ := h0
    rcases open_ints Try.underlying22 Try.underlying5 (by kernel_rfl) hf with ⟨hcs, _⟩ | ⟨x, l, c, zs, hcs, _, hl, hm, hz, _, hcell, hwz⟩
    · simp [Value.cells] at hcs
      obtain ⟨rfl, rfl, rfl⟩ := hcs
      exact ⟨[], .inl ⟨rfl, rfl, rfl, rfl⟩⟩
    · simp [Value.cells] at hcs
      obtain ⟨rfl, rfl, rfl⟩ := hcs
      exact ⟨zs, .inr ⟨_, rfl, hl, hm, by simpa using hz, hcell, hwz⟩⟩
  clear hA0 hval0
  refine (walk_FnFloorWay a0 len0 cap0 z0 W w0).mono fun e W' ⟨he, bel⟩ => ?_
  subst he
  exact ⟨_, rfl, _, _, _, [], _, [], hW', trodAll_mk1 (shut_bool Try.underlying4 _), (trodAll_cons_mk (Below.trod laidOut (by kernel_rfl) (of_decide_eq_true (by kernel_rfl)) k0 bel lt0) trodAll_mk0), rfl, bel.frame _, fun h => by cases h⟩
theorem over : Rows.fnFloorWayRow.holds Try.pinned (OpenSpec.ofChange Rows.fnFloorWaySpec) :=
  OpenClaim.holds_of_wide 7 Try.f7 rfl rfl rfl rfl rfl rfl rfl ⟨rfl, rfl, rfl, rfl, rfl⟩ rfl rfl rfl rfl rfl (by kernel_rfl) Try.func7 (by kernel_rfl)
    (of_decide_eq_true (by kernel_rfl)) (by unfold Func.isWrapper; first | (rw [if_pos (by decide +kernel)]; kernel_rfl) | (rw [if_neg (by decide +kernel)]; exact ⟨rfl, rfl⟩))
    (fun os started H enc _ => lifted os started H enc)
/-- The statement. -/
theorem proved : Rows.FnFloorWaySaid := over
end fnFloorWay
#print axioms fnFloorWay.proved
end Go.Proofs.Ytkigpogamjgngaa
