/- FnMotionTicks returns true for every code: in the end every car stands at its target. No conditions. -/
import Derived.Test.YtkigpogamjgngaaOpn
import Derived.Test.YtkigpogamjgngaaDra
import Derived.Test.YtkigpogamjgngaaTicks
import Derived.Test.YtkigpogamjgngaaPlainD
import Derived.Deep.LoopGhost
namespace Go.Proofs.Ytkigpogamjgngaa
open Go.ChangeShapes Go.WideShapes Go.ChangeAt Go.RowKit Go.Joins Pl
theorem mostF_bd (n : Nat) : ∀ k, 0 ≤ mostF n k ∧ mostF n k ≤ 5 * (k : Int) := by
  intro k
  induction k with
  | zero => simp [mostF]
  | succ k ih => simp only [mostF]; omega
theorem rest_no {a v t : Int} (h : 0 < ticksM a v t) : (a == t) = false ∨ ((a == t) = true ∧ (v == 0) = false) := by
  by_cases e : a = t
  · refine .inr ⟨by simp [e], beq_eq_false_iff_ne.2 (fun e' => ?_)⟩
    subst e e'; rw [ticksM_rest] at h; omega
  · exact .inl (beq_eq_false_iff_ne.2 e)
set_option maxHeartbeats 4000000 in
theorem walk_FnMotionTicks (a0 : Option Addr) (len0 cap0 : Nat) (z0 : List Int) (w : World) (h0 : IsRow .u8 w a0 len0 cap0 z0) :
    Calls Try.prog 10 #[.slice a0 len0 cap0] w fun e w' => e = .returned (.bool true) ∧ Below w.heap.size w w' := by
  obtain ⟨src, hcap⟩ := srcB_of_row h0
  clear h0
  by_cases hbig : 1048576 < len0
  · go_enter Try.func10, Try.ntmps10
    go_wp2
    go_ret
    exact ⟨rfl, Below.refl _ _⟩
  go_enter Try.func10, Try.ntmps10
  go_wp2_with fail
  refine (c_DrawMotionTicks _ _ _ _ _ src (by omega) hcap).mono ?_
  rintro e w1 ⟨a, v, t, ⟨a1, a2⟩, ⟨v1, v2⟩, ⟨t1, t2⟩, rfl, B1⟩
  rcases tickT_cases a v t with ⟨_, hx⟩ | ⟨_, _, hx⟩ | ⟨hmv, ht, hx⟩
  · have HX := Lib.hid hx; clear hx
    go_wp2_with fail
    refine (c_ticksI _ _ _ _).mono ?_
    rintro e w2 ⟨rfl, hb2⟩
    rw [HX.out]
    have B2 := stepB (B1.alloc B1.size _) hb2
    have mo2 := (Own2.new _ _ _ _).call hb2
    have c0 := mo2.c0
    have c1 := mo2.c1
    have cl := mo2.lt
    go_wp2_with fail
    refine (c_ticksS _ _ _ _).mono ?_
    rintro e w3 ⟨rfl, hb3⟩
    rw [HX.out]
    have B3 := stepB B2 hb3
    have mo3 := mo2.call hb3
    clear c0 c1
    have c0 := mo3.c0
    have c1 := mo3.c1
    have cl := mo3.lt
    go_wp2_with fail
    refine (c_alive _).mono ?_
    rintro e w4 ⟨rfl, hb4⟩
    go_wp2
    go_ret
    exact ⟨rfl, stepB B3 hb4⟩
  · have HX := Lib.hid hx; clear hx
    go_wp2_with fail
    refine (c_ticksI _ _ _ _).mono ?_
    rintro e w2 ⟨rfl, hb2⟩
    rw [HX.out]
    have B2 := stepB (B1.alloc B1.size _) hb2
    have mo2 := (Own2.new _ _ _ _).call hb2
    have c0 := mo2.c0
    have c1 := mo2.c1
    have cl := mo2.lt
    go_wp2_with fail
    refine (c_ticksS _ _ _ _).mono ?_
    rintro e w3 ⟨rfl, hb3⟩
    rw [HX.out]
    have B3 := stepB B2 hb3
    have mo3 := mo2.call hb3
    clear c0 c1
    have c0 := mo3.c0
    have c1 := mo3.c1
    have cl := mo3.lt
    go_wp2_with fail
    refine (c_alive _).mono ?_
    rintro e w4 ⟨rfl, hb4⟩
    go_wp2
    go_ret
    exact ⟨rfl, stepB B3 hb4⟩
  · obtain ⟨N, hN⟩ : ∃ N, ticksM a v t = N := ⟨_, rfl⟩
    have hle := ticksM_le hmv ht
    have hml : v = 0 → N = 0 ∨ mostF N (N - 1) < dist a t := fun h0 => by
      subst h0
      have := most_law (motV_iff.1 hmv).1 (inB_iff.1 ht)
      rw [hN] at this; exact this
    rw [hN] at hx hle
    obtain ⟨⟨a3, a4⟩, v3, v4⟩ := motV_iff.1 hmv
    obtain ⟨t3, t4⟩ := inB_iff.1 ht
    have HX := Lib.hid hx; clear hx
    have HTN := Lib.hid hN; clear hN
    have HMV := Lib.hid hmv; clear hmv
    have HT := Lib.hid ht; clear ht
    have HML := Lib.hid hml; clear hml
    have nN : decide ((N : Int) < 0) = false := by simp
    by_cases hv0 : v = 0
    · subst hv0
      have hml' := HML.out rfl
      have HML2 := Lib.hid hml'; clear hml'
      go_wp2_with fail
      refine (c_ticksI _ _ _ _).mono ?_
      rintro e w2 ⟨rfl, hb2⟩
      rw [HX.out]
      have B2 := stepB (B1.alloc B1.size _) hb2
      have mo2 := (Own2.new _ _ _ _).call hb2
      have c0 := mo2.c0
      have c1 := mo2.c1
      have cl := mo2.lt
      go_wp2_with fail
      refine (c_ticksS _ _ _ _).mono ?_
      rintro e w3 ⟨rfl, hb3⟩
      rw [HX.out]
      have B3 := stepB B2 hb3
      have mo3 := mo2.call hb3
      clear c0 c1
      have c0 := mo3.c0
      have c1 := mo3.c1
      have cl := mo3.lt
      go_wp2
      clear c0 c1 cl
      go_loopw [7] (fun s wr => ∃ (k : Nat) (xa xv : Int), s = .int .i64 (k : Int) ∧ motV xa xv = true ∧ k + ticksM xa xv t = N ∧ Below w.heap.size w wr ∧ Own2 wr w1.heap.size (.int .i64 a) (.int .i64 0) ∧ Own2 wr w3.heap.size (.int .i64 xa) (.int .i64 xv)) (fun s _ => N - (intOf s).toNat)
      case atStart => exact ⟨0, a, 0, rfl, HMV.out, by have := HTN.out; omega, B3.alloc B3.size _, mo3.alloc _, Own2.new _ _ _ _⟩
      case round =>
        have hw3 : w.heap.size ≤ w3.heap.size := B3.size
        have hl3 : w1.heap.size < w3.heap.size := mo3.lt
        clear B3 mo3 B2 mo2 hb2 hb3
        obtain ⟨k, xa, xv, rfl, hmx, hkx, B4, mo4, xo4⟩ := hrel
        have c0 := mo4.c0
        have c1 := mo4.c1
        have cl := mo4.lt
        have d0 := xo4.c0
        have d1 := xo4.c1
        have g0 := xo4.f0
        have g1 := xo4.f1
        have dl := xo4.lt
        by_cases hlt : k < N
        · have i1 : (k : Int) < (N : Int) := by omega
          have hr := rest_no (a := xa) (v := xv) (t := t) (by omega)
          have hnr : ¬ (xa = t ∧ xv = 0) := by
            rintro ⟨rfl, rfl⟩
            rw [ticksM_rest] at hkx; omega
          have hst := ticksM_step hmx HT.out hnr
          have hsv := stepM_valid hmx HT.out
          obtain ⟨p, hp⟩ : ∃ p, (stepM xa xv t).1 = p := ⟨_, rfl⟩
          obtain ⟨q, hq⟩ : ∃ q, (stepM xa xv t).2 = q := ⟨_, rfl⟩
          rw [hp, hq] at hst hsv
          have HP := Lib.hid hp; clear hp
          have HQ := Lib.hid hq; clear hq hnr
          have HST := Lib.hid hst; clear hst
          have HSV := Lib.hid hsv; clear hsv
          have HMX := Lib.hid hmx; clear hmx
          have HKX := Lib.hid hkx; clear hkx
          rcases hr with r1 | ⟨r1, r2⟩
          all_goals
            go_wp2_with fail
            refine (c_stepI _ _ _ _).mono ?_
            rintro e w5 ⟨rfl, hb5⟩
            rw [HP.out, HQ.out]
            have B5 := stepB B4 hb5
            have mo5 := mo4.call hb5
            have xo5 := xo4.call hb5
            clear c0 c1 d0 d1 g0 g1
            have d0 := xo5.c0
            have d1 := xo5.c1
            have g0 := xo5.f0
            have g1 := xo5.f1
            go_wp2
            go_roundw
            case rel => exact ⟨k + 1, p, q, by go_num, HSV.out, by have h1 := HKX.out; have h2 := HST.out; omega, (B5.setCell (by simp; omega) _).setCell (by simp; omega) _, (mo5.far (by simp; omega) _).far (by simp; omega) _, (xo5.set0 _).set1 _⟩
            case measure => simp [intOf]; omega
        · have hk0 : ticksM xa xv t = 0 := by omega
          obtain ⟨rfl, rfl⟩ := ticksM_zero hmx HT.out hk0
          obtain rfl : k = N := by omega
          clear hk0 hkx hmx
          go_wp2
          go_loop [8, 9, 10] (fun s8 s9 s10 => ∃ (j : Nat) (sp : Int), (j = 0 ∨ j + 1 ≤ k) ∧ s10 = .int .i64 ((j : Int) + 1) ∧ s9 = .int .i64 sp ∧ s8 = .int .i64 (mostF k j)) (fun _ _ s10 => k - (intOf s10).toNat)
          case atStart => exact ⟨0, 0, .inl rfl, rfl, rfl, rfl⟩
          case round =>
            obtain ⟨j, sp, hj, rfl, rfl, rfl⟩ := hrel
            obtain ⟨m1, m2⟩ := mostF_bd k j
            have hnx : mostF k (j + 1) = mostF k j + max (min (min ((j : Int) + 1) ((k : Int) - 1 - ((j : Int) + 1))) 5) 0 := rfl
            have HNX := Lib.hid hnx; clear hnx
            obtain ⟨M, hM⟩ : ∃ M, mostF k j = M := ⟨_, rfl⟩
            rw [hM] at m1 m2 HNX ⊢
            by_cases hjk : j + 1 < k
            · have HMM := Lib.hid hM; clear hM
              have i3 : (j : Int) + 1 < (k : Int) := by omega
              go_wp2
              all_goals
                go_round
                case rel => exact ⟨j + 1, _, .inr (by omega), by go_num, rfl, by rw [HNX.out]; congr 1; omega⟩
                case measure => simp [intOf]; omega
            · have hn3 : decide ((j : Int) + 1 < (k : Int)) = false := by simp; omega
              have hfin : k = 0 ∨ M < dist a xa := by
                rcases HML2.out with h | h
                · exact .inl h
                · by_cases hk0 : k = 0
                  · exact .inl hk0
                  · right
                    have hjj : j = k - 1 := by omega
                    rw [← hM, hjj]; exact h
              clear hM
              have HFIN := Lib.hid hfin; clear hfin hj
              go_wp2
              all_goals
                go_ret
                refine ⟨?_, B4⟩
                first
                  | rfl
                  | (refine ret_bool ?_
                     have hf := HFIN.out
                     unfold dist at hf
                     simp only [Bool.or_eq_true, beq_iff_eq, decide_eq_true_eq]
                     rcases hf with hf | hf
                     · left; omega
                     · right; split at hf <;> omega)
    · have e0 : (v == 0) = false := beq_eq_false_iff_ne.2 hv0
      have e1 : (v != 0) = true := by simp [hv0]
      clear HML
      go_wp2_with fail
      refine (c_ticksI _ _ _ _).mono ?_
      rintro e w2 ⟨rfl, hb2⟩
      rw [HX.out]
      have B2 := stepB (B1.alloc B1.size _) hb2
      have mo2 := (Own2.new _ _ _ _).call hb2
      have c0 := mo2.c0
      have c1 := mo2.c1
      have cl := mo2.lt
      go_wp2_with fail
      refine (c_ticksS _ _ _ _).mono ?_
      rintro e w3 ⟨rfl, hb3⟩
      rw [HX.out]
      have B3 := stepB B2 hb3
      have mo3 := mo2.call hb3
      clear c0 c1
      have c0 := mo3.c0
      have c1 := mo3.c1
      have cl := mo3.lt
      go_wp2
      clear c0 c1 cl
      go_loopw [7] (fun s wr => ∃ (k : Nat) (xa xv : Int), s = .int .i64 (k : Int) ∧ motV xa xv = true ∧ k + ticksM xa xv t = N ∧ Below w.heap.size w wr ∧ Own2 wr w1.heap.size (.int .i64 a) (.int .i64 v) ∧ Own2 wr w3.heap.size (.int .i64 xa) (.int .i64 xv)) (fun s _ => N - (intOf s).toNat)
      case atStart => exact ⟨0, a, v, rfl, HMV.out, by have := HTN.out; omega, B3.alloc B3.size _, mo3.alloc _, Own2.new _ _ _ _⟩
      case round =>
        have hw3 : w.heap.size ≤ w3.heap.size := B3.size
        have hl3 : w1.heap.size < w3.heap.size := mo3.lt
        clear B3 mo3 B2 mo2 hb2 hb3
        obtain ⟨k, xa, xv, rfl, hmx, hkx, B4, mo4, xo4⟩ := hrel
        have c0 := mo4.c0
        have c1 := mo4.c1
        have cl := mo4.lt
        have d0 := xo4.c0
        have d1 := xo4.c1
        have g0 := xo4.f0
        have g1 := xo4.f1
        have dl := xo4.lt
        by_cases hlt : k < N
        · have i1 : (k : Int) < (N : Int) := by omega
          have hr := rest_no (a := xa) (v := xv) (t := t) (by omega)
          have hnr : ¬ (xa = t ∧ xv = 0) := by
            rintro ⟨rfl, rfl⟩
            rw [ticksM_rest] at hkx; omega
          have hst := ticksM_step hmx HT.out hnr
          have hsv := stepM_valid hmx HT.out
          obtain ⟨p, hp⟩ : ∃ p, (stepM xa xv t).1 = p := ⟨_, rfl⟩
          obtain ⟨q, hq⟩ : ∃ q, (stepM xa xv t).2 = q := ⟨_, rfl⟩
          rw [hp, hq] at hst hsv
          have HP := Lib.hid hp; clear hp
          have HQ := Lib.hid hq; clear hq hnr
          have HST := Lib.hid hst; clear hst
          have HSV := Lib.hid hsv; clear hsv
          have HMX := Lib.hid hmx; clear hmx
          have HKX := Lib.hid hkx; clear hkx
          rcases hr with r1 | ⟨r1, r2⟩
          all_goals
            go_wp2_with fail
            refine (c_stepI _ _ _ _).mono ?_
            rintro e w5 ⟨rfl, hb5⟩
            rw [HP.out, HQ.out]
            have B5 := stepB B4 hb5
            have mo5 := mo4.call hb5
            have xo5 := xo4.call hb5
            clear c0 c1 d0 d1 g0 g1
            have d0 := xo5.c0
            have d1 := xo5.c1
            have g0 := xo5.f0
            have g1 := xo5.f1
            go_wp2
            go_roundw
            case rel => exact ⟨k + 1, p, q, by go_num, HSV.out, by have h1 := HKX.out; have h2 := HST.out; omega, (B5.setCell (by simp; omega) _).setCell (by simp; omega) _, (mo5.far (by simp; omega) _).far (by simp; omega) _, (xo5.set0 _).set1 _⟩
            case measure => simp [intOf]; omega
        · have hk0 : ticksM xa xv t = 0 := by omega
          obtain ⟨rfl, rfl⟩ := ticksM_zero hmx HT.out hk0
          obtain rfl : k = N := by omega
          clear hk0 hkx hmx
          go_wp2
          go_loop [8, 9, 10] (fun s8 s9 s10 => s8 = .int .i64 0 ∧ s9 = .int .i64 0 ∧ s10 = .int .i64 1) (fun _ _ _ => 0)
          case atStart => exact ⟨rfl, rfl, rfl⟩
          case round =>
            obtain ⟨rfl, rfl, rfl⟩ := hrel
            by_cases h1 : 1 < k
            · have i3 : (1 : Int) < (k : Int) := by omega
              go_wp2
              all_goals
                go_ret
                exact ⟨rfl, B4⟩
            · have i3 : decide ((1 : Int) < (k : Int)) = false := by simp; omega
              go_wp2
              all_goals
                go_ret
                exact ⟨rfl, B4⟩
namespace fnMotionTicks
set_option linter.unusedVariables false
set_option maxRecDepth 100000 in
theorem lifted (os : Os) (started : os.Started) (H : Type) (enc : TypeId × Value → H) :
    ReturnsInHanded {} Try.checked os 10 .any (Rows.fnMotionTicksSpec.pre6 enc Try.prog Try.f10 Rows.fnMotionTicksRow.domain false) (Rows.fnMotionTicksSpec.post enc Try.prog Try.f10 false true false false) := by
  refine returnsInHanded_of_change (C := Try.checked) own started (by kernel_rfl) Try.func10
    (ChangeSpec.witness6 (enc := enc) (C := Try.checked) false ⟨#[], #[.slice none 0 0], []⟩ 8 (by kernel_rfl) (by kernel_rfl) (by kernel_rfl) (by kernel_rfl)) ?_
  intro W base args ds gs before hval0 hW hcnd _
  have hval : ∀ (j : Nat) t v, Try.f10.params[j]? = some t → args[j]? = some v → Value.okWide Try.prog W .any base t v := hval0
  have hW' := hW
  obtain ⟨p, q, hA0, hV, rfl, hfz, hnd⟩ := hW
  have hA : DataW.TrodAll enc Try.prog W 0 (fun _ => true) true Try.f10.params.toList args.toList ds p := hA0
  rw [Try.params10] at hA hval
  obtain ⟨v0, vs0, d0, ds0, p0, q0, hargs, rfl, rfl, h0, r0⟩ := trodAll_cons hA
  obtain ⟨rfl, rfl, rfl⟩ := trodAll_nil r0
  obtain rfl : args = #[v0] := by cases args; simp_all
  obtain ⟨rfl, rfl⟩ := trodVars_none hV
  have k0 := h0
  have lt0 : ∀ x ∈ p0, x.block < W.heap.size := by obtain ⟨m, hm⟩ := k0; exact DataW.trod_lt m _ _ _ hm
  obtain ⟨a0, len0, cap0, rfl⟩ := okWide_slice Try.underlying22 (hval 0 22 v0 rfl rfl)
  obtain ⟨z0, w0⟩ : ∃ zs, IsRow .u8 W a0 len0 cap0 zs := by
    obtain ⟨fuel, hf⟩ := h0
    rcases open_ints Try.underlying22 Try.underlying5 (by kernel_rfl) hf with ⟨hcs, _⟩ | ⟨x, l, c, zs, hcs, _, hl, hm, hz, _, hcell, hwz⟩
    · simp [Value.cells] at hcs
      obtain ⟨rfl, rfl, rfl⟩ := hcs
      exact ⟨[], .inl ⟨rfl, rfl, rfl, rfl⟩⟩
    · simp [Value.cells] at hcs
      obtain ⟨rfl, rfl, rfl⟩ := hcs
      exact ⟨zs, .inr ⟨_, rfl, hl, hm, by simpa using hz, hcell, hwz⟩⟩
  clear hA0 hval0
  refine (walk_FnMotionTicks a0 len0 cap0 z0 W w0).mono fun e W' ⟨he, bel⟩ => ?_
  subst he
  exact ⟨_, rfl, _, _, _, [], _, [], hW', trodAll_mk1 (shut_bool Try.underlying4 _), (trodAll_cons_mk (Below.trod laidOut (by kernel_rfl) (of_decide_eq_true (by kernel_rfl)) k0 bel lt0) trodAll_mk0), rfl, bel.frame _, fun h => by cases h⟩
theorem over : Rows.fnMotionTicksRow.holds Try.pinned (OpenSpec.ofChange Rows.fnMotionTicksSpec) :=
  OpenClaim.holds_of_wide 10 Try.f10 rfl rfl rfl rfl rfl rfl rfl ⟨rfl, rfl, rfl, rfl, rfl⟩ rfl rfl rfl rfl rfl (by kernel_rfl) Try.func10 (by kernel_rfl)
    (of_decide_eq_true (by kernel_rfl)) (by unfold Func.isWrapper; first | (rw [if_pos (by decide +kernel)]; kernel_rfl) | (rw [if_neg (by decide +kernel)]; exact ⟨rfl, rfl⟩))
    (fun os started H enc _ => lifted os started H enc)
/-- The statement. -/
theorem proved : Rows.FnMotionTicksSaid := over
end fnMotionTicks
#print axioms fnMotionTicks.proved
end Go.Proofs.Ytkigpogamjgngaa
