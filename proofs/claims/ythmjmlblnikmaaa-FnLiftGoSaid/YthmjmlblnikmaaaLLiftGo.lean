/- FnLiftGo returns true for every code: every car goes where it is driven. No conditions. -/
import Derived.Test.YthmjmlblnikmaaaOpn
import Derived.Test.YthmjmlblnikmaaaDraL
import Derived.Test.YthmjmlblnikmaaaLiG
import Derived.Deep.QuietTactic
import Derived.BigQuiet
namespace Go.Proofs.Ythmjmlblnikmaaa
open Go.ChangeShapes Go.WideShapes Go.ChangeAt Go.RowKit Go.Joins Pl
set_option maxHeartbeats 8000000 in
theorem walk_FnLiftGo (a0 : Option Addr) (len0 cap0 : Nat) (z0 : List Int) (w : World) (h0 : IsRow .u8 w a0 len0 cap0 z0) :
    Calls Try.prog 4 #[.slice a0 len0 cap0] w fun e w' => e = .returned (.bool true) ∧ Below w.heap.size w w' := by
  obtain ⟨src, hcap⟩ := srcB_of_row h0
  clear h0
  by_cases hbig : 1048576 < len0
  · go_enter Try.func4, Try.ntmps4
    go_wp2
    go_ret
    exact ⟨rfl, Below.refl _ _⟩
  go_enter Try.func4, Try.ntmps4
  go_wp2_with fail
  refine (c_DrawLiftGo _ _ _ _ _ src (by omega) hcap).mono ?_
  rintro e w1 ⟨A, n, cp, L, a, v, g, h, t, hn, hc, s0, rfl, B1⟩
  have hl := s0.1
  have HL := Lib.hid hl; clear hl
  have s1 := SlA.of s0
  clear s0
  have lb : w.heap.size ≤ w1.heap.size := B1.size
  rcases go_cases L a v g h t with ⟨_, hz, _⟩ | ⟨_, _, hz, _⟩ | ⟨k, hk, rfl, hv, _, hz, _⟩
  · have HZ := Lib.hid hz; clear hz
    have B1 := B1.alloc B1.size (.cells #[.int .i64 a, .int .i64 v, .int .i64 g, .int .i64 h] 29)
    have s1 := s1.alloc (.cells #[.int .i64 a, .int .i64 v, .int .i64 g, .int .i64 h] 29)
    have x1 := Own4.new w1 (.int .i64 a) (.int .i64 v) (.int .i64 g) (.int .i64 h) 29
    have o0 := x1.c0
    have o1 := x1.c1
    have o2 := x1.c2
    have o3 := x1.c3
    have oz0 := x1.f0
    have oz1 := x1.f1
    have oz2 := x1.f2
    have oz3 := x1.f3
    have ol := x1.lt
    go_wp2_with fail
    refine (c_goI _ _ _ _ _ _ _ _ _ _ s1.slR.sl (by omega)).mono ?_
    rintro e w2 ⟨rfl, hb2⟩
    rw [HZ.out]
    have B2 := stepB B1 hb2
    have s2 := s1.call hb2
    clear o0 oz0 o1 oz1 o2 oz2 o3 oz3 ol
    have x2 := x1.call hb2
    have o0 := x2.c0
    have o1 := x2.c1
    have o2 := x2.c2
    have o3 := x2.c3
    have oz0 := x2.f0
    have oz1 := x2.f1
    have oz2 := x2.f2
    have oz3 := x2.f3
    have ol := x2.lt
    clear hb2
    go_wp2_with fail
    refine (c_goS _ _ _ _ _ _ _ _ _ _ s2.slR.sl (by omega)).mono ?_
    rintro e w3 ⟨rfl, hb3⟩
    rw [HZ.out]
    have B3 := stepB B2 hb3
    have s3 := s2.call hb3
    clear o0 oz0 o1 oz1 o2 oz2 o3 oz3 ol
    have x3 := x2.call hb3
    have o0 := x3.c0
    have o1 := x3.c1
    have o2 := x3.c2
    have o3 := x3.c3
    have oz0 := x3.f0
    have oz1 := x3.f1
    have oz2 := x3.f2
    have oz3 := x3.f3
    have ol := x3.lt
    clear hb3
    go_wp2_with fail
    refine (c_alive _).mono ?_
    rintro e w4 ⟨rfl, hb4⟩
    go_wp2
    go_ret
    exact ⟨rfl, stepB B3 hb4⟩
  · have HZ := Lib.hid hz; clear hz
    have B1 := B1.alloc B1.size (.cells #[.int .i64 a, .int .i64 v, .int .i64 g, .int .i64 h] 29)
    have s1 := s1.alloc (.cells #[.int .i64 a, .int .i64 v, .int .i64 g, .int .i64 h] 29)
    have x1 := Own4.new w1 (.int .i64 a) (.int .i64 v) (.int .i64 g) (.int .i64 h) 29
    have o0 := x1.c0
    have o1 := x1.c1
    have o2 := x1.c2
    have o3 := x1.c3
    have oz0 := x1.f0
    have oz1 := x1.f1
    have oz2 := x1.f2
    have oz3 := x1.f3
    have ol := x1.lt
    go_wp2_with fail
    refine (c_goI _ _ _ _ _ _ _ _ _ _ s1.slR.sl (by omega)).mono ?_
    rintro e w2 ⟨rfl, hb2⟩
    rw [HZ.out]
    have B2 := stepB B1 hb2
    have s2 := s1.call hb2
    clear o0 oz0 o1 oz1 o2 oz2 o3 oz3 ol
    have x2 := x1.call hb2
    have o0 := x2.c0
    have o1 := x2.c1
    have o2 := x2.c2
    have o3 := x2.c3
    have oz0 := x2.f0
    have oz1 := x2.f1
    have oz2 := x2.f2
    have oz3 := x2.f3
    have ol := x2.lt
    clear hb2
    go_wp2_with fail
    refine (c_goS _ _ _ _ _ _ _ _ _ _ s2.slR.sl (by omega)).mono ?_
    rintro e w3 ⟨rfl, hb3⟩
    rw [HZ.out]
    have B3 := stepB B2 hb3
    have s3 := s2.call hb3
    clear o0 oz0 o1 oz1 o2 oz2 o3 oz3 ol
    have x3 := x2.call hb3
    have o0 := x3.c0
    have o1 := x3.c1
    have o2 := x3.c2
    have o3 := x3.c3
    have oz0 := x3.f0
    have oz1 := x3.f1
    have oz2 := x3.f2
    have oz3 := x3.f3
    have ol := x3.lt
    clear hb3
    go_wp2_with fail
    refine (c_alive _).mono ?_
    rintro e w4 ⟨rfl, hb4⟩
    go_wp2
    go_ret
    exact ⟨rfl, stepB B3 hb4⟩
  · have hk' : k < n := by rw [← HL.out]; exact hk
    have i1 : (k : Int) < (n : Int) := by omega
    have hend := goF_end hk (goT L ⟨a, v, g, h⟩ k) ⟨a, v, g, h⟩ hv rfl
    have hle := goT_le (x := ⟨a, v, g, h⟩) hv hk
    obtain ⟨N, hN⟩ : ∃ N, goT L ⟨a, v, g, h⟩ k = N := ⟨_, rfl⟩
    rw [hN] at hz hend hle
    clear hN hv
    have HZ := Lib.hid hz; clear hz
    have HE := Lib.hid hend; clear hend
    obtain ⟨b, o, rfl, _, _, _, _⟩ := s1.2 (by omega)
    have B1 := B1.alloc B1.size (.cells #[.int .i64 a, .int .i64 v, .int .i64 g, .int .i64 h] 29)
    have s1 := s1.alloc (.cells #[.int .i64 a, .int .i64 v, .int .i64 g, .int .i64 h] 29)
    have x1 := Own4.new w1 (.int .i64 a) (.int .i64 v) (.int .i64 g) (.int .i64 h) 29
    have o0 := x1.c0
    have o1 := x1.c1
    have o2 := x1.c2
    have o3 := x1.c3
    have oz0 := x1.f0
    have oz1 := x1.f1
    have oz2 := x1.f2
    have oz3 := x1.f3
    have ol := x1.lt
    go_wp2_with fail
    refine (c_goI _ _ _ _ _ _ _ _ _ _ s1.slR.sl (by omega)).mono ?_
    rintro e w2 ⟨rfl, hb2⟩
    rw [HZ.out]
    have B2 := stepB B1 hb2
    have s2 := s1.call hb2
    clear o0 oz0 o1 oz1 o2 oz2 o3 oz3 ol
    have x2 := x1.call hb2
    have o0 := x2.c0
    have o1 := x2.c1
    have o2 := x2.c2
    have o3 := x2.c3
    have oz0 := x2.f0
    have oz1 := x2.f1
    have oz2 := x2.f2
    have oz3 := x2.f3
    have ol := x2.lt
    clear hb2
    go_wp2_with fail
    refine (c_goS _ _ _ _ _ _ _ _ _ _ s2.slR.sl (by omega)).mono ?_
    rintro e w3 ⟨rfl, hb3⟩
    rw [HZ.out]
    have B3 := stepB B2 hb3
    have s3 := s2.call hb3
    clear o0 oz0 o1 oz1 o2 oz2 o3 oz3 ol
    have x3 := x2.call hb3
    have o0 := x3.c0
    have o1 := x3.c1
    have o2 := x3.c2
    have o3 := x3.c3
    have oz0 := x3.f0
    have oz1 := x3.f1
    have oz2 := x3.f2
    have oz3 := x3.f3
    have ol := x3.lt
    clear hb3
    go_wp2
    clear o0 oz0 o1 oz1 o2 oz2 o3 oz3 ol
    go_loopw [7] (fun s wr => ∃ (m : Nat) (a' v' g' h' : Int), m ≤ N ∧ s = .int .i64 (m : Int) ∧ goF L k (N - m) ⟨a', v', g', h'⟩ = ⟨nth L k, 0, 0, 0⟩ ∧ Below w.heap.size w wr ∧ Own4 wr w1.heap.size (.int .i64 a') (.int .i64 v') (.int .i64 g') (.int .i64 h') ∧ SlA wr w.heap.size w1.heap.size (some ⟨b, o, none⟩) n L) (fun s _ => N - (intOf s).toNat)
    case atStart => exact ⟨0, a, v, g, h, by omega, rfl, HE.out, B3, x3, s3⟩
    case round =>
      clear B1 B2 B3 x1 x2 x3 s1 s2 s3 HE
      obtain ⟨m, a', v', g', h', hm, rfl, hF, B4, x4, s4⟩ := hrel
      have o0 := x4.c0
      have o1 := x4.c1
      have o2 := x4.c2
      have o3 := x4.c3
      have oz0 := x4.f0
      have oz1 := x4.f1
      have oz2 := x4.f2
      have oz3 := x4.f3
      have ol := x4.lt
      by_cases hlt : m < N
      · have hF' : goF L k (N - (m + 1)) (liftStep L ⟨a', v', g', h'⟩ (k : Int) false false) = ⟨nth L k, 0, 0, 0⟩ := by
          rw [show N - m = (N - (m + 1)) + 1 from by omega] at hF
          exact hF
        have HF := Lib.hid hF'; clear hF hF'
        go_wp2_with fail
        refine (c_lstI _ _ _ _ _ _ _ _ _ _ _ _ s4.slR.sl (by omega)).mono ?_
        rintro e w5 ⟨rfl, hb5⟩
        have B5 := stepB B4 hb5
        have s5 := s4.call hb5
        clear o0 oz0 o1 oz1 o2 oz2 o3 oz3 ol
        have x5 := x4.call hb5
        have o0 := x5.c0
        have o1 := x5.c1
        have o2 := x5.c2
        have o3 := x5.c3
        have oz0 := x5.f0
        have oz1 := x5.f1
        have oz2 := x5.f2
        have oz3 := x5.f3
        have ol := x5.lt
        clear hb5
        go_wp2
        go_roundw
        case rel =>
          refine ⟨m + 1, _, _, _, _, by omega, by go_num, HF.out, ?_, (((x5.set0 _).set1 _).set2 _).set3 _, ?_⟩
          · (repeat (first | (with_reducible exact B5) | refine Below.setCell ?_ (by simp; omega) _))
          · (repeat (first | (with_reducible exact s5) | refine SlA.put ?_ (.inr (by simp)) _))
        case measure => simp [intOf]; omega
      · obtain rfl : m = N := by omega
        rw [Nat.sub_self] at hF
        obtain ⟨rfl, rfl, rfl, rfl⟩ := Car.mk.inj hF
        clear hF
        have ck := sla_cell s4 hk'
        go_wp2
        go_quiet (fail)
        go_wp2
        go_ret
        exact ⟨rfl, below_drewN B4 _⟩
namespace fnLiftGo
set_option linter.unusedVariables false
set_option maxRecDepth 100000 in
theorem lifted (os : Os) (started : os.Started) (H : Type) (enc : TypeId × Value → H) :
    ReturnsInHanded {} Try.checked os 4 .any (Rows.fnLiftGoSpec.pre6 enc Try.prog Try.f4 Rows.fnLiftGoRow.domain false) (Rows.fnLiftGoSpec.post enc Try.prog Try.f4 false true false false) := by
  refine returnsInHanded_of_change (C := Try.checked) own started (by kernel_rfl) Try.func4
    (ChangeSpec.witness6 (enc := enc) (C := Try.checked) false ⟨#[], #[.slice none 0 0], []⟩ 8 (by kernel_rfl) (by kernel_rfl) (by kernel_rfl) (by kernel_rfl)) ?_
  intro W base args ds gs before hval0 hW hcnd _
  have hval : ∀ (j : Nat) t v, Try.f4.params[j]? = some t → args[j]? = some v → Value.okWide Try.prog W .any base t v := hval0
  have hW' := hW
  obtain ⟨p, q, hA0, hV, rfl, hfz, hnd⟩ := hW
  have hA : DataW.TrodAll enc Try.prog W 0 (fun _ => true) true Try.f4.params.toList args.toList ds p := hA0
  rw [Try.params4] at hA hval
  obtain ⟨v0, vs0, d0, ds0, p0, q0, hargs, rfl, rfl, h0, r0⟩ := trodAll_cons hA
  obtain ⟨rfl, rfl, rfl⟩ := trodAll_nil r0
  obtain rfl : args = #[v0] := by cases args; simp_all
  obtain ⟨rfl, rfl⟩ := trodVars_none hV
  have k0 := h0
  have lt0 : ∀ x ∈ p0, x.block < W.heap.size := by obtain ⟨m, hm⟩ := k0; exact DataW.trod_lt m _ _ _ hm
  obtain ⟨a0, len0, cap0, rfl⟩ := okWide_slice Try.underlying22 (hval 0 22 v0 rfl rfl)
  obtain ⟨z0, w0⟩ : ∃ zs, IsRow .u8 W a0 len0 cap0 zs := by
    obtain ⟨fuel, hf⟩ := h0
    rcases open_ints Try.underlying22 Try.underlying5 (by kernel_rfl) hf with ⟨hcs, _⟩ | ⟨x, l, c, zs, hcs, _, hl, hm, hz, _, hcell, hwz⟩
    · simp [Value.cells] at hcs
      obtain ⟨rfl, rfl, rfl⟩ := hcs
      exact ⟨[], .inl ⟨rfl, rfl, rfl, rfl⟩⟩
    · simp [Value.cells] at hcs
      obtain ⟨rfl, rfl, rfl⟩ := hcs
      exact ⟨zs, .inr ⟨_, rfl, hl, hm, by simpa using hz, hcell, hwz⟩⟩
  clear hA0 hval0
  refine (walk_FnLiftGo a0 len0 cap0 z0 W w0).mono fun e W' ⟨he, bel⟩ => ?_
  subst he
  exact ⟨_, rfl, _, _, _, [], _, [], hW', trodAll_mk1 (shut_bool Try.underlying4 _), (trodAll_cons_mk (Below.trod laidOut (by kernel_rfl) (of_decide_eq_true (by kernel_rfl)) k0 bel lt0) trodAll_mk0), rfl, bel.frame _, fun h => by cases h⟩
theorem over : Rows.fnLiftGoRow.holds Try.pinned (OpenSpec.ofChange Rows.fnLiftGoSpec) :=
  OpenClaim.holds_of_wide 4 Try.f4 rfl rfl rfl rfl rfl rfl rfl ⟨rfl, rfl, rfl, rfl, rfl⟩ rfl rfl rfl rfl rfl (by kernel_rfl) Try.func4 (by kernel_rfl)
    (of_decide_eq_true (by kernel_rfl)) (by unfold Func.isWrapper; first | (rw [if_pos (by decide +kernel)]; kernel_rfl) | (rw [if_neg (by decide +kernel)]; exact ⟨rfl, rfl⟩))
    (fun os started H enc _ => lifted os started H enc)
/-- The statement. -/
theorem proved : Rows.FnLiftGoSaid := over
end fnLiftGo
#print axioms fnLiftGo.proved
end Go.Proofs.Ythmjmlblnikmaaa
