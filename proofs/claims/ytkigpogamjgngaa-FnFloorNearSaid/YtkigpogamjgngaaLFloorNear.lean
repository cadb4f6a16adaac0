/- FnFloorNear returns true for every code: no floor is nearer. No conditions. -/
import Derived.Test.YtkigpogamjgngaaOpn
import Derived.Test.YtkigpogamjgngaaDraE
import Derived.Test.YtkigpogamjgngaaFloB
import Derived.Test.YtkigpogamjgngaaPlainD
import Derived.Deep.LoopGhost
import Derived.IntWalk
namespace Go.Proofs.Ytkigpogamjgngaa
open Go.ChangeShapes Go.WideShapes Go.ChangeAt Go.RowKit Go.Joins Pl
set_option maxHeartbeats 4000000 in
theorem walk_FnFloorNear (a0 : Option Addr) (len0 cap0 : Nat) (z0 : List Int) (w : World) (h0 : IsRow .u8 w a0 len0 cap0 z0) :
    Calls Try.prog 9 #[.slice a0 len0 cap0] w fun e w' => e = .returned (.bool true) ∧ Below w.heap.size w w' := by
  obtain ⟨src, hcap⟩ := srcB_of_row h0
  clear h0
  by_cases hbig : 1048576 < len0
  · go_enter Try.func9, Try.ntmps9
    go_wp2
    go_ret
    exact ⟨rfl, Below.refl _ _⟩
  go_enter Try.func9, Try.ntmps9
  go_wp2_with fail
  refine (c_DrawFloorNear _ _ _ _ _ src (by omega) hcap).mono ?_
  rintro e w1 ⟨A, n, c, L, a, hn, hc, hS1, hb, ⟨a1, a2⟩, rfl, B1⟩
  clear hb hc
  have hl := hS1.1
  have HL := Lib.hid hl; clear hl
  rcases hm : floorsV L
  · have hx := near_no1 (a := a) hm
    have HX := Lib.hid hx; clear hx hm
    go_wp2_with fail
    refine (c_fnI _ _ _ _ _ _ hS1 (by omega)).mono ?_
    rintro e w2 ⟨rfl, d2⟩
    rw [HX.out]
    have hS2 := d2.sl hS1
    have B2 := stepB B1 d2.below
    go_wp2_with fail
    refine (c_fnS _ _ _ _ _ _ hS2 (by omega)).mono ?_
    rintro e w3 ⟨rfl, d3⟩
    rw [HX.out]
    have hS3 := d3.sl hS2
    have B3 := stepB B2 d3.below
    go_wp2_with fail
    refine (c_alive _).mono ?_
    rintro e w4 ⟨rfl, hb4⟩
    go_wp2
    go_ret
    exact ⟨rfl, stepB B3 hb4⟩
  rcases hi : inB a 0 60
  · have hx := near_no2 (L := L) hi
    have HX := Lib.hid hx; clear hx hm hi
    go_wp2_with fail
    refine (c_fnI _ _ _ _ _ _ hS1 (by omega)).mono ?_
    rintro e w2 ⟨rfl, d2⟩
    rw [HX.out]
    have hS2 := d2.sl hS1
    have B2 := stepB B1 d2.below
    go_wp2_with fail
    refine (c_fnS _ _ _ _ _ _ hS2 (by omega)).mono ?_
    rintro e w3 ⟨rfl, d3⟩
    rw [HX.out]
    have hS3 := d3.sl hS2
    have B3 := stepB B2 d3.below
    go_wp2_with fail
    refine (c_alive _).mono ?_
    rintro e w4 ⟨rfl, hb4⟩
    go_wp2
    go_ret
    exact ⟨rfl, stepB B3 hb4⟩
  obtain ⟨k, hk, hx, hmin, hbel⟩ := near_law hm hi
  have hf := floorsV_iff.1 hm
  obtain ⟨zz1, zz2⟩ := fv_bd hf hk
  have HF := Lib.hid hf; clear hf
  clear hm hi
  have HX := Lib.hid hx; clear hx
  have HMIN := Lib.hid hmin; clear hmin
  rw [HL.out] at hk
  obtain ⟨b, o, rfl, _, _⟩ := hS1.2 (by omega)
  obtain ⟨fb, hfb⟩ : ∃ f, floorBelow L a = f := ⟨_, rfl⟩
  rw [hfb] at hbel
  have HB := Lib.hid hfb; clear hfb
  have hbel : fb = (k : Int) ∨ (((k : Int) == fb) = false ∧ fb = (k : Int) - 1) := by
    rcases hbel with h | h
    · exact .inl h.symm
    · exact .inr ⟨beq_eq_false_iff_ne.2 (by omega), by omega⟩
  have i0 : (k : Int) < (n : Int) := by omega
  have nk : decide ((k : Int) < 0) = false := by simp
  obtain ⟨z, hz⟩ : ∃ z, nth L k = z := ⟨_, rfl⟩
  rw [hz] at zz1 zz2
  go_wp2_with fail
  refine (c_fnI _ _ _ _ _ _ hS1 (by omega)).mono ?_
  rintro e w2 ⟨rfl, d2⟩
  rw [HX.out]
  have hS2 := d2.sl hS1
  have B2 := stepB B1 d2.below
  go_wp2_with fail
  refine (c_fnS _ _ _ _ _ _ hS2 (by omega)).mono ?_
  rintro e w3 ⟨rfl, d3⟩
  rw [HX.out]
  have hS3 := d3.sl hS2
  have B3 := stepB B2 d3.below
  obtain ⟨b', o', e', _, hc4⟩ := hS3.2 (by omega)
  cases e'
  have ck := hc4 k hk
  rw [hz] at ck
  have HC := Lib.hid hc4; clear hc4
  have HZ := Lib.hid hz; clear hz
  by_cases hza : z < a
  · have s0 : z - a < a - z := by omega
    have hdist : dist (nth L k) a = a - z := by rw [HZ.out]; unfold dist; rw [if_pos hza]
    have HDI := Lib.hid hdist; clear hdist
    go_wp2
    have v1 : IntKind.i64.wrap (z - a) = z - a := IntWalk.i64_in _ (by omega)
    have v2 : IntKind.i64.wrap (a - z) = a - z := IntWalk.i64_in _ (by omega)
    go_quiet (fail)
    clear v1 v2
    obtain ⟨d, hd0⟩ : ∃ d, (a - z) = d := ⟨_, rfl⟩
    rw [hd0]
    have hdd := HDI.out
    rw [hd0] at hdd
    have HDI2 := Lib.hid hdd; clear hdd
    have HD0 := Lib.hid hd0; clear hd0
    go_wp2
    go_loopw [7] (fun s wr => ∃ j : Nat, j ≤ n ∧ s = .int .i64 (j : Int) ∧ DN w3 wr) (fun s _ => n - (intOf s).toNat)
    case atStart => exact ⟨0, by omega, rfl, (DN.refl _).more _⟩
    case round =>
      obtain ⟨j, hj, rfl, hd⟩ := hrel
      by_cases hlt : j < n
      · have cj : wr.cell? ⟨b, o + j, none⟩ = some (.int .i64 (nth L j)) := (hd.cell _).trans (HC.out j hlt)
        have i1 : (j : Int) < (n : Int) := by omega
        obtain ⟨m1, m2⟩ := HMIN.out j (by rw [HL.out]; exact hlt)
        obtain ⟨z1, z2⟩ := fv_bd HF.out (i := j) (by rw [HL.out]; exact hlt)
        rw [HDI2.out] at m1 m2
        obtain ⟨y, hy⟩ : ∃ y, nth L j = y := ⟨_, rfl⟩
        rw [hy] at cj m1 m2 z1 z2
        clear hy
        have e0 : ∀ D : Int, D = dist y a → (decide (D < d) = false) ∧ ((j < k ∧ (D == d) = false) ∨ decide (j < k) = false) := fun D hD => by
          subst hD
          refine ⟨decide_eq_false (by omega), ?_⟩
          by_cases hjk : j < k
          · exact .inl ⟨hjk, beq_eq_false_iff_ne.2 (by have := m2 hjk; omega)⟩
          · exact .inr (decide_eq_false (by omega))
        clear m1 m2
        by_cases hya : y < a
        · obtain ⟨D, hD⟩ : ∃ D, a - y = D := ⟨_, rfl⟩
          obtain ⟨e1, e2⟩ := e0 D (by rw [← hD]; unfold dist; rw [if_pos hya])
          have HDD := Lib.hid hD; clear hD
          have s1 : y - a < a - y := by omega
          clear e0
          rcases e2 with ⟨e2, e3⟩ | e2
          all_goals
            go_wp2
            have v1 : IntKind.i64.wrap (y - a) = y - a := IntWalk.i64_in _ (by omega)
            have v2 : IntKind.i64.wrap (a - y) = a - y := IntWalk.i64_in _ (by omega)
            go_quiet (fail)
            clear v1 v2
            rw [HDD.out]
            go_wp2
            go_roundw
            case rel => exact ⟨j + 1, by omega, by go_num, hd.more _⟩
            case measure => simp [intOf]; omega
        · obtain ⟨D, hD⟩ : ∃ D, y - a = D := ⟨_, rfl⟩
          obtain ⟨e1, e2⟩ := e0 D (by rw [← hD]; unfold dist; rw [if_neg hya])
          have HDD := Lib.hid hD; clear hD
          have s1 : ¬ y - a < a - y := by omega
          clear e0
          rcases e2 with ⟨e2, e3⟩ | e2
          all_goals
            go_wp2
            have v1 : IntKind.i64.wrap (y - a) = y - a := IntWalk.i64_in _ (by omega)
            have v2 : IntKind.i64.wrap (a - y) = a - y := IntWalk.i64_in _ (by omega)
            go_quiet (fail)
            clear v1 v2
            rw [HDD.out]
            go_wp2
            go_roundw
            case rel => exact ⟨j + 1, by omega, by go_num, hd.more _⟩
            case measure => simp [intOf]; omega
      · obtain rfl : n = j := by omega
        go_wp2_with fail
        refine (c_fbI _ _ _ _ _ _ (hd.sl hS3) (by omega)).mono ?_
        rintro e w5 ⟨rfl, d5⟩
        rw [HB.out]
        rcases hbel with rfl | ⟨hb0, rfl⟩
        all_goals
          go_wp2
          go_ret
          exact ⟨rfl, stepB (stepB B3 hd.below) d5.below⟩
  · have s0 : ¬ z - a < a - z := by omega
    have hdist : dist (nth L k) a = z - a := by rw [HZ.out]; unfold dist; rw [if_neg hza]
    have HDI := Lib.hid hdist; clear hdist
    go_wp2
    have v1 : IntKind.i64.wrap (z - a) = z - a := IntWalk.i64_in _ (by omega)
    have v2 : IntKind.i64.wrap (a - z) = a - z := IntWalk.i64_in _ (by omega)
    go_quiet (fail)
    clear v1 v2
    obtain ⟨d, hd0⟩ : ∃ d, (z - a) = d := ⟨_, rfl⟩
    rw [hd0]
    have hdd := HDI.out
    rw [hd0] at hdd
    have HDI2 := Lib.hid hdd; clear hdd
    have HD0 := Lib.hid hd0; clear hd0
    go_wp2
    go_loopw [7] (fun s wr => ∃ j : Nat, j ≤ n ∧ s = .int .i64 (j : Int) ∧ DN w3 wr) (fun s _ => n - (intOf s).toNat)
    case atStart => exact ⟨0, by omega, rfl, (DN.refl _).more _⟩
    case round =>
      obtain ⟨j, hj, rfl, hd⟩ := hrel
      by_cases hlt : j < n
      · have cj : wr.cell? ⟨b, o + j, none⟩ = some (.int .i64 (nth L j)) := (hd.cell _).trans (HC.out j hlt)
        have i1 : (j : Int) < (n : Int) := by omega
        obtain ⟨m1, m2⟩ := HMIN.out j (by rw [HL.out]; exact hlt)
        obtain ⟨z1, z2⟩ := fv_bd HF.out (i := j) (by rw [HL.out]; exact hlt)
        rw [HDI2.out] at m1 m2
        obtain ⟨y, hy⟩ : ∃ y, nth L j = y := ⟨_, rfl⟩
        rw [hy] at cj m1 m2 z1 z2
        clear hy
        have e0 : ∀ D : Int, D = dist y a → (decide (D < d) = false) ∧ ((j < k ∧ (D == d) = false) ∨ decide (j < k) = false) := fun D hD => by
          subst hD
          refine ⟨decide_eq_false (by omega), ?_⟩
          by_cases hjk : j < k
          · exact .inl ⟨hjk, beq_eq_false_iff_ne.2 (by have := m2 hjk; omega)⟩
          · exact .inr (decide_eq_false (by omega))
        clear m1 m2
        by_cases hya : y < a
        · obtain ⟨D, hD⟩ : ∃ D, a - y = D := ⟨_, rfl⟩
          obtain ⟨e1, e2⟩ := e0 D (by rw [← hD]; unfold dist; rw [if_pos hya])
          have HDD := Lib.hid hD; clear hD
          have s1 : y - a < a - y := by omega
          clear e0
          rcases e2 with ⟨e2, e3⟩ | e2
          all_goals
            go_wp2
            have v1 : IntKind.i64.wrap (y - a) = y - a := IntWalk.i64_in _ (by omega)
            have v2 : IntKind.i64.wrap (a - y) = a - y := IntWalk.i64_in _ (by omega)
            go_quiet (fail)
            clear v1 v2
            rw [HDD.out]
            go_wp2
            go_roundw
            case rel => exact ⟨j + 1, by omega, by go_num, hd.more _⟩
            case measure => simp [intOf]; omega
        · obtain ⟨D, hD⟩ : ∃ D, y - a = D := ⟨_, rfl⟩
          obtain ⟨e1, e2⟩ := e0 D (by rw [← hD]; unfold dist; rw [if_neg hya])
          have HDD := Lib.hid hD; clear hD
          have s1 : ¬ y - a < a - y := by omega
          clear e0
          rcases e2 with ⟨e2, e3⟩ | e2
          all_goals
            go_wp2
            have v1 : IntKind.i64.wrap (y - a) = y - a := IntWalk.i64_in _ (by omega)
            have v2 : IntKind.i64.wrap (a - y) = a - y := IntWalk.i64_in _ (by omega)
            go_quiet (fail)
            clear v1 v2
            rw [HDD.out]
            go_wp2
            go_roundw
            case rel => exact ⟨j + 1, by omega, by go_num, hd.more _⟩
            case measure => simp [intOf]; omega
      · obtain rfl : n = j := by omega
        go_wp2_with fail
        refine (c_fbI _ _ _ _ _ _ (hd.sl hS3) (by omega)).mono ?_
        rintro e w5 ⟨rfl, d5⟩
        rw [HB.out]
        rcases hbel with rfl | ⟨hb0, rfl⟩
        all_goals
          go_wp2
          go_ret
          exact ⟨rfl, stepB (stepB B3 hd.below) d5.below⟩
namespace fnFloorNear
set_option linter.unusedVariables false
set_option maxRecDepth 100000 in
theorem lifted (os : Os) (started : os.Started) (H : Type) (enc : TypeId × Value → H) :
    ReturnsInHanded {} Try.checked os 9 .any (Rows.fnFloorNearSpec.pre6 enc Try.prog Try.f9 Rows.fnFloorNearRow.domain false) (Rows.fnFloorNearSpec.post enc Try.prog Try.f9 false true false false) := by
  refine returnsInHanded_of_change (C := Try.checked) own started (by kernel_rfl) Try.func9
    (ChangeSpec.witness6 (enc := enc) (C := Try.checked) false ⟨#[], #[.slice none 0 0], []⟩ 8 (by kernel_rfl) (by kernel_rfl) (by kernel_rfl) (by kernel_rfl)) ?_
  intro W base args ds gs before hval0 hW hcnd _
  have hval : ∀ (j : Nat) t v, Try.f9.params[j]? = some t → args[j]? = some v → Value.okWide Try.prog W .any base t v := hval0
  have hW' := hW
  obtain ⟨p, q, hA0, hV, rfl, hfz, hnd⟩ := hW
  have hA : DataW.TrodAll enc Try.prog W 0 (fun _ => true) true Try.f9.params.toList args.toList ds p := hA0
  rw [Try.params9] at hA hval
  obtain ⟨v0, vs0, d0, ds0, p0, q0, hargs, rfl, rfl, h0, r0⟩ := trodAll_cons hA
  obtain ⟨rfl, rfl, rfl⟩ := trodAll_nil r0
  obtain rfl : args = #[v0] := by cases args; simp_all
  obtain ⟨rfl, rfl⟩ := trodVars_none hV
  have k0 := h0
  have lt0 : ∀ x ∈ p0, x.block < W.heap.size := by obtain ⟨m, hm⟩ := k0; exact DataW.trod_lt m _ _ _ hm
  obtain ⟨a0, len0, cap0, rfl⟩ := okWide_slice Try.underlying22 (hval 0 22 v0 rfl rfl)
  obtain ⟨z0, w0⟩ : ∃ zs, IsRow .u8 W a0 len0 cap0 zs := by
    obtain ⟨fuel, hf⟩ := h0
    rcases open_ints Try.underlying22 Try.underlying5 (by kernel_rfl) hf with ⟨hcs, _⟩ | ⟨x, l, c, zs, hcs, _, hl, hm, hz, _, hcell, hwz⟩
    · simp [Value.cells] at hcs
      obtain ⟨rfl, rfl, rfl⟩ := hcs
      exact ⟨[], .inl ⟨rfl, rfl, rfl, rfl⟩⟩
    · simp [Value.cells] at hcs
      obtain ⟨rfl, rfl, rfl⟩ := hcs
      exact ⟨zs, .inr ⟨_, rfl, hl, hm, by simpa using hz, hcell, hwz⟩⟩
  clear hA0 hval0
  refine (walk_FnFloorNear a0 len0 cap0 z0 W w0).mono fun e W' ⟨he, bel⟩ => ?_
  subst he
  exact ⟨_, rfl, _, _, _, [], _, [], hW', trodAll_mk1 (shut_bool Try.underlying4 _), (trodAll_cons_mk (Below.trod laidOut (by kernel_rfl) (of_decide_eq_true (by kernel_rfl)) k0 bel lt0) trodAll_mk0), rfl, bel.frame _, fun h => by cases h⟩
theorem over : Rows.fnFloorNearRow.holds Try.pinned (OpenSpec.ofChange Rows.fnFloorNearSpec) :=
  OpenClaim.holds_of_wide 9 Try.f9 rfl rfl rfl rfl rfl rfl rfl ⟨rfl, rfl, rfl, rfl, rfl⟩ rfl rfl rfl rfl rfl (by kernel_rfl) Try.func9 (by kernel_rfl)
    (of_decide_eq_true (by kernel_rfl)) (by unfold Func.isWrapper; first | (rw [if_pos (by decide +kernel)]; kernel_rfl) | (rw [if_neg (by decide +kernel)]; exact ⟨rfl, rfl⟩))
    (fun os started H enc _ => lifted os started H enc)
/-- The statement. -/
theorem proved : Rows.FnFloorNearSaid := over
end fnFloorNear
#print axioms fnFloorNear.proved
end Go.Proofs.Ytkigpogamjgngaa
