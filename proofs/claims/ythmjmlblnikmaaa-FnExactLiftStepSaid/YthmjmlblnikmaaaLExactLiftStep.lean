/- FnExactLiftStep returns true for all arguments: the program's LiftStep and the reference's return the same, and leave their floors as they were. No conditions. -/
import Derived.Test.YthmjmlblnikmaaaFrame
import Derived.Test.YthmjmlblnikmaaaRow
import Derived.Test.YthmjmlblnikmaaaOLi
import Derived.Test.YthmjmlblnikmaaaLiS
import Derived.Deep.RegionWith
import Derived.Deep.RegionHeld3
import Derived.Deep.Cut
namespace Go.Proofs.Ythmjmlblnikmaaa
open Go.ChangeShapes Go.WideShapes Go.ChangeAt Go.RowKit Go.Joins Pl
/-- A copy of a slice, at whatever address. -/
def MadeX (w : World) (n : Nat) (L : List Int) (e : Ending) (w' : World) : Prop := ∃ A, e = .returned (.slice A n n) ∧ Sl w' A n L ∧ Below w.heap.size w w'
theorem own4S {w : World} {b : Nat} {x y z u : Value} (h : Own4 w b x y z u) : (w.cell? ⟨b, 0, none⟩ = some x ∧ w.cell? ⟨b, 1, none⟩ = some y) ∧ (w.cell? ⟨b, 2, none⟩ = some z ∧ w.cell? ⟨b, 3, none⟩ = some u) := ⟨⟨h.c0, h.c1⟩, h.c2, h.c3⟩
theorem new_drew (w : World) (o : Obj) (x y z u : Value) (t : TypeId) : Own4 ((w.alloc o).drew.alloc (.cells #[x, y, z, u] t)) (w.heap.size + 1) x y z u := by
  have h := Own4.new (w.alloc o).drew x y z u t
  rwa [show (w.alloc o).drew.heap.size = w.heap.size + 1 from by simp [World.drew]] at h
/-- Where the ways through the first statement meet: the reference's result lies in a box of ours. -/
def MidX (w : World) (x y z u p q r s : Value) (v : Value) (wx : World) : Prop :=
  ∃ b : Nat, v = .pointer (some ⟨b, 0, none⟩) ∧ w.heap.size < b ∧ Own4 wx w.heap.size x y z u ∧ Own4 wx b p q r s ∧ Below w.heap.size w wx
theorem c_toIntX (A : Option Addr) (n c : Nat) (L : List Int) (w : World) (hS : Src w A n L) (hn : n ≤ 2097152) :
    Calls Try.prog 25 #[.slice A n c] w (MadeX w n L) := (c_toIntS A n c L w hS hn).mono fun _ _ ⟨he, hs, hb⟩ => ⟨_, he, hs, hb⟩
set_option maxHeartbeats 4000000 in
theorem walk_FnExactLiftStep (a0 : Option Addr) (len0 cap0 : Nat) (z0 : List Int) (a1 b1 c1 e1 : Int) (_ : (Lit.int .i64 a1).wf = true) (_ : (Lit.int .i64 b1).wf = true) (_ : (Lit.int .i64 c1).wf = true) (_ : (Lit.int .i64 e1).wf = true) (a2 : Int) (_ : (Lit.int .i64 a2).wf = true) (a3 a4 : Bool) (w : World) (h0 : IsRow .i64 w a0 len0 cap0 z0) :
    Calls Try.prog 9 #[.slice a0 len0 cap0, .agg #[.int .i64 a1, .int .i64 b1, .int .i64 c1, .int .i64 e1], .int .i64 a2, .bool a3, .bool a4] w fun e w' => e = .returned (.bool true) ∧ Below w.heap.size w w' := by
  have src0 := src_of_row h0
  have hc0 := row_cap h0
  obtain ⟨L0, hL0⟩ : ∃ L, z0.take len0 = L := ⟨_, rfl⟩
  rw [hL0] at src0
  clear hL0 h0
  obtain ⟨B0, own0⟩ := start4 w (.int .i64 a1) (.int .i64 b1) (.int .i64 c1) (.int .i64 e1) 45
  by_cases hbig0 : 1048576 < len0
  · go_enter Try.func9, Try.ntmps9
    go_wp2
    go_ret
    exact ⟨rfl, B0⟩
  have Bd := stepB B0 (DN.drew1 _).below
  have ownd := own0.dn (DN.drew1 _)
  have srcd := src0.call Bd
  go_enter Try.func9, Try.ntmps9
  go_upto_region 3 with fail
  go_cut [11] from 14 (fun v wx => MidX w (.int .i64 a1) (.int .i64 b1) (.int .i64 c1) (.int .i64 e1) (.int .i64 (liftStep L0 ⟨a1, b1, c1, e1⟩ a2 a3 a4).a) (.int .i64 (liftStep L0 ⟨a1, b1, c1, e1⟩ a2 a3 a4).v) (.int .i64 (liftStep L0 ⟨a1, b1, c1, e1⟩ a2 a3 a4).g) (.int .i64 (liftStep L0 ⟨a1, b1, c1, e1⟩ a2 a3 a4).h) v wx)
  case first =>
    go_region_held3 (fun w' => (w'.cell? ⟨w.heap.size, 0, none⟩ = some (.int .i64 a1) ∧ w'.cell? ⟨w.heap.size, 1, none⟩ = some (.int .i64 b1)) ∧ (w'.cell? ⟨w.heap.size, 2, none⟩ = some (.int .i64 c1) ∧ w'.cell? ⟨w.heap.size, 3, none⟩ = some (.int .i64 e1)))
      (first | exact own4S ownd | exact own4S own1 | exact own4S own2 | exact own4S own3 | exact own4S (ownd.alloc _) | exact own4S (own1.alloc _) | exact own4S (own2.alloc _) | exact own4S (own3.alloc _) | exact own4S (by (repeat (first | (with_reducible exact own3) | refine Own4.far ?_ (by first | (simp; done) | (simp; omega)) _))) | go_keep)
      (first
        | (go_at_call 25; refine (c_toIntX _ _ _ L0 _ (by first | exact srcd | exact srcd.alloc _) (by omega)).mono ?_; rintro e w1 ⟨A1, rfl, s1, hb1⟩; have own1 : Own4 w1 w.heap.size (.int .i64 a1) (.int .i64 b1) (.int .i64 c1) (.int .i64 e1) := (by first | exact ownd.call hb1 | exact (ownd.alloc _).call hb1); have B1 : Below w.heap.size w w1 := (by first | exact stepB Bd hb1 | exact stepB (Bd.alloc Bd.size _) hb1); (try (have q1 := (new_drew w (.cells #[.int .i64 a1, .int .i64 b1, .int .i64 c1, .int .i64 e1] 45) (.int .i64 0) (.int .i64 0) (.int .i64 0) (.int .i64 0) 29).call hb1)); have lt1 := own1.lt; clear hb1)
        | (go_at_call 26; refine (c_toLift _ _ _ _ _).mono ?_; rintro e w2 ⟨rfl, hb2⟩; have own2 : Own4 w2 w.heap.size (.int .i64 a1) (.int .i64 b1) (.int .i64 c1) (.int .i64 e1) := (by first | exact own1.call hb2 | exact (own1.alloc _).call hb2); have B2 : Below w.heap.size w w2 := (by first | exact stepB B1 hb2 | exact stepB (B1.alloc B1.size _) hb2); have s2 : Sl w2 A1 len0 L0 := (by first | exact s1.call hb2 | exact (s1.alloc _).call hb2); (try (have q2 := q1.call hb2)); (try (have q2 := (Own4.new w1 (.int .i64 0) (.int .i64 0) (.int .i64 0) (.int .i64 0) 29).call hb2)); have lt2 := own2.lt; clear hb2)
        | (go_at_call 13; refine (c_lstS _ _ _ L0 _ _ _ _ _ _ _ _ (by first | exact s2 | exact s2.alloc _) (by omega)).mono ?_; rintro e w3 ⟨rfl, hb3⟩; have own3 : Own4 w3 w.heap.size (.int .i64 a1) (.int .i64 b1) (.int .i64 c1) (.int .i64 e1) := (by first | exact own2.call hb3 | exact (own2.alloc _).call hb3); have B3 : Below w.heap.size w w3 := (by first | exact stepB B2 hb3 | exact stepB (B2.alloc B2.size _) hb3); (try (have q3 := q2.call hb3)); (try (have q3 := (Own4.new w2 (.int .i64 0) (.int .i64 0) (.int .i64 0) (.int .i64 0) 29).call hb3)); (try (have d0 := q3.c0; have d1 := q3.c1; have d2 := q3.c2; have d3 := q3.c3; have k0 := q3.f0; have k1 := q3.f1; have k2 := q3.f2; have k3 := q3.f3)); have lt3 := own3.lt; clear hb3))
    all_goals
      go_wp2_with fail
      go_meet
      case rel =>
        refine ⟨_, rfl, (by omega), ?_, ?_, ?_⟩
        · (repeat (first | (with_reducible exact own3) | (with_reducible exact own3.alloc _) | (with_reducible refine Own4.far ?_ (by first | (simp; done) | (simp; omega)) _)))
        · first | (with_reducible exact ((((q3.set0 _).set1 _).set2 _).set3 _)) | (with_reducible exact Own4.new _ _ _ _ _ _)
        · (repeat (first | (with_reducible exact B3) | (with_reducible exact B3.alloc B3.size _) | (with_reducible refine Below.setCell ?_ (by first | (simp; done) | (simp; omega)) _)))
  case rest =>
    clear ownd srcd Bd
    obtain ⟨b, rfl, hb, own3, q3, B3⟩ := hcut
    have o0 := own3.c0
    have o1 := own3.c1
    have o2 := own3.c2
    have o3 := own3.c3
    have lt0 := own3.lt
    go_wp2_with fail
    refine (c_toIntX _ _ _ _ _ (src0.call B3) (by omega)).mono ?_
    rintro e w4 ⟨A4, rfl, x4, hb4⟩
    have B4 := stepB B3 hb4
    have own4 := own3.call hb4
    have q4 := q3.call hb4
    clear o0 o1 o2 o3 lt0
    have o0 := own4.c0
    have o1 := own4.c1
    have o2 := own4.c2
    have o3 := own4.c3
    have lt0 := own4.lt
    go_wp2_with fail
    refine (c_toLift _ _ _ _ _).mono ?_
    rintro e w5 ⟨rfl, hb5⟩
    have B5 := stepB B4 hb5
    have own5 := own4.call hb5
    have q5 := q4.call hb5
    have x5 := x4.call hb5
    clear o0 o1 o2 o3 lt0
    have o0 := own5.c0
    have o1 := own5.c1
    have o2 := own5.c2
    have o3 := own5.c3
    have lt0 := own5.lt
    go_wp2_with fail
    refine (c_lstI _ _ _ _ _ _ _ _ _ _ _ _ x5 (by omega)).mono ?_
    rintro e w6 ⟨rfl, hb6⟩
    have B6 := stepB B5 hb6
    have own6 := own5.call hb6
    have q6 := q5.call hb6
    have x6 := x5.call hb6
    have B6' := B6.alloc B6.size (.cells #[.int .i64 (liftStep L0 ⟨a1, b1, c1, e1⟩ a2 a3 a4).a, .int .i64 (liftStep L0 ⟨a1, b1, c1, e1⟩ a2 a3 a4).v, .int .i64 (liftStep L0 ⟨a1, b1, c1, e1⟩ a2 a3 a4).g, .int .i64 (liftStep L0 ⟨a1, b1, c1, e1⟩ a2 a3 a4).h] 29)
    have own6' := own6.alloc (.cells #[.int .i64 (liftStep L0 ⟨a1, b1, c1, e1⟩ a2 a3 a4).a, .int .i64 (liftStep L0 ⟨a1, b1, c1, e1⟩ a2 a3 a4).v, .int .i64 (liftStep L0 ⟨a1, b1, c1, e1⟩ a2 a3 a4).g, .int .i64 (liftStep L0 ⟨a1, b1, c1, e1⟩ a2 a3 a4).h] 29)
    have q6' := q6.alloc (.cells #[.int .i64 (liftStep L0 ⟨a1, b1, c1, e1⟩ a2 a3 a4).a, .int .i64 (liftStep L0 ⟨a1, b1, c1, e1⟩ a2 a3 a4).v, .int .i64 (liftStep L0 ⟨a1, b1, c1, e1⟩ a2 a3 a4).g, .int .i64 (liftStep L0 ⟨a1, b1, c1, e1⟩ a2 a3 a4).h] 29)
    have x6' := x6.alloc (.cells #[.int .i64 (liftStep L0 ⟨a1, b1, c1, e1⟩ a2 a3 a4).a, .int .i64 (liftStep L0 ⟨a1, b1, c1, e1⟩ a2 a3 a4).v, .int .i64 (liftStep L0 ⟨a1, b1, c1, e1⟩ a2 a3 a4).g, .int .i64 (liftStep L0 ⟨a1, b1, c1, e1⟩ a2 a3 a4).h] 29)
    clear o0 o1 o2 o3 lt0
    have o0 := own6'.c0
    have o1 := own6'.c1
    have o2 := own6'.c2
    have o3 := own6'.c3
    have lt0 := own6'.lt
    have d0 := q6'.c0
    have d1 := q6'.c1
    have d2 := q6'.c2
    have d3 := q6'.c3
    have dl := q6'.lt
    go_wp2_with fail
    refine (c_eqLift _ _ _ _ _).mono ?_
    rintro e w7 ⟨rfl, hb7⟩
    have B7 := stepB B6' hb7
    have own7 := own6'.call hb7
    have x7 := x6'.call hb7
    clear d0 d1 d2 d3 dl
    clear o0 o1 o2 o3 lt0
    have o0 := own7.c0
    have o1 := own7.c1
    have o2 := own7.c2
    have o3 := own7.c3
    have lt0 := own7.lt
    go_wp2_with fail
    refine (c_toIntX _ _ _ _ _ (src0.call B7) (by omega)).mono ?_
    rintro e w8 ⟨A8, rfl, y8, hb8⟩
    have B8 := stepB B7 hb8
    have own8 := own7.call hb8
    have x8 := x7.call hb8
    clear o0 o1 o2 o3 lt0
    have o0 := own8.c0
    have o1 := own8.c1
    have o2 := own8.c2
    have o3 := own8.c3
    have lt0 := own8.lt
    go_wp2_with fail
    refine (c_eqIntS _ _ _ _ _ _ _ x8 y8 (by omega)).mono ?_
    rintro e w9 ⟨rfl, dd9⟩
    go_wp2
    go_ret
    exact ⟨rfl, stepB B8 dd9.below⟩
namespace fnExactLiftStep
set_option linter.unusedVariables false
set_option maxRecDepth 100000 in
theorem lifted (os : Os) (started : os.Started) (H : Type) (enc : TypeId × Value → H) :
    ReturnsInHanded {} Try.checked os 9 .any (Rows.fnExactLiftStepSpec.pre6 enc Try.prog Try.f9 Rows.fnExactLiftStepRow.domain false) (Rows.fnExactLiftStepSpec.post enc Try.prog Try.f9 false true false false) := by
  refine returnsInHanded_of_change (C := Try.checked) own started (by kernel_rfl) Try.func9
    (ChangeSpec.witness6 (enc := enc) (C := Try.checked) false ⟨#[], #[.slice none 0 0, .agg #[.int .i64 0, .int .i64 0, .int .i64 0, .int .i64 0], .int .i64 0, .bool false, .bool false], []⟩ 8 (by kernel_rfl) (by kernel_rfl) (by kernel_rfl) (by kernel_rfl)) ?_
  intro W base args ds gs before hval0 hW hcnd _
  have hval : ∀ (j : Nat) t v, Try.f9.params[j]? = some t → args[j]? = some v → Value.okWide Try.prog W .any base t v := hval0
  have hW' := hW
  obtain ⟨p, q, hA0, hV, rfl, hfz, hnd⟩ := hW
  have hA : DataW.TrodAll enc Try.prog W 0 (fun _ => true) true Try.f9.params.toList args.toList ds p := hA0
  rw [Try.params9] at hA hval
  obtain ⟨v0, vs0, d0, ds0, p0, q0, hargs, rfl, rfl, h0, r0⟩ := trodAll_cons hA
  obtain ⟨v1, vs1, d1, ds1, p1, q1, rfl, rfl, rfl, h1, r1⟩ := trodAll_cons r0
  obtain ⟨v2, vs2, d2, ds2, p2, q2, rfl, rfl, rfl, h2, r2⟩ := trodAll_cons r1
  obtain ⟨v3, vs3, d3, ds3, p3, q3, rfl, rfl, rfl, h3, r3⟩ := trodAll_cons r2
  obtain ⟨v4, vs4, d4, ds4, p4, q4, rfl, rfl, rfl, h4, r4⟩ := trodAll_cons r3
  obtain ⟨rfl, rfl, rfl⟩ := trodAll_nil r4
  obtain rfl : args = #[v0, v1, v2, v3, v4] := by cases args; simp_all
  obtain ⟨rfl, rfl⟩ := trodVars_none hV
  have k0 := h0
  have lt0 : ∀ x ∈ p0, x.block < W.heap.size := by obtain ⟨m, hm⟩ := k0; exact DataW.trod_lt m _ _ _ hm
  obtain ⟨a0, len0, cap0, rfl⟩ := okWide_slice Try.underlying23 (hval 0 23 v0 rfl rfl)
  obtain ⟨z0, w0⟩ : ∃ zs, IsRow .i64 W a0 len0 cap0 zs := by
    obtain ⟨fuel, hf⟩ := h0
    rcases open_ints Try.underlying23 Try.underlying3 (by kernel_rfl) hf with ⟨hcs, _⟩ | ⟨x, l, c, zs, hcs, _, hl, hm, hz, _, hcell, hwz⟩
    · simp [Value.cells] at hcs
      obtain ⟨rfl, rfl, rfl⟩ := hcs
      exact ⟨[], .inl ⟨rfl, rfl, rfl, rfl⟩⟩
    · simp [Value.cells] at hcs
      obtain ⟨rfl, rfl, rfl⟩ := hcs
      exact ⟨zs, .inr ⟨_, rfl, hl, hm, by simpa using hz, hcell, hwz⟩⟩
  have k1 := h1
  have lt1 : ∀ x ∈ p1, x.block < W.heap.size := by obtain ⟨m, hm⟩ := k1; exact DataW.trod_lt m _ _ _ hm
  obtain ⟨a1, b1, c1, e1, rfl, wa1, wb1, wc1, we1⟩ := open_lift (hval 1 45 v1 rfl rfl) h1
  obtain ⟨a2, rfl, rfl, rfl, w2⟩ := open_int Try.underlying3 (hval 2 3 v2 rfl rfl) h2
  obtain ⟨a3, rfl, rfl, rfl⟩ := open_bool Try.underlying4 (hval 3 4 v3 rfl rfl) h3
  obtain ⟨a4, rfl, rfl, rfl⟩ := open_bool Try.underlying4 (hval 4 4 v4 rfl rfl) h4
  clear hA0 hval0
  refine (walk_FnExactLiftStep a0 len0 cap0 z0 a1 b1 c1 e1 wa1 wb1 wc1 we1 a2 w2 a3 a4 W w0).mono fun e W' ⟨he, bel⟩ => ?_
  subst he
  exact ⟨_, rfl, _, _, _, [], _, [], hW', trodAll_mk1 (shut_bool Try.underlying4 _), (trodAll_cons_mk (Below.trod laidOut (by kernel_rfl) (of_decide_eq_true (by kernel_rfl)) k0 bel lt0) (trodAll_cons_mk (Below.trod laidOut (by kernel_rfl) (of_decide_eq_true (by kernel_rfl)) k1 bel lt1) (trodAll_cons_mk (shut_int Try.underlying3 w2) (trodAll_cons_mk (shut_bool Try.underlying4 _) (trodAll_cons_mk (shut_bool Try.underlying4 _) trodAll_mk0))))), rfl, bel.frame _, fun h => by cases h⟩
theorem over : Rows.fnExactLiftStepRow.holds Try.pinned (OpenSpec.ofChange Rows.fnExactLiftStepSpec) :=
  OpenClaim.holds_of_wide 9 Try.f9 rfl rfl rfl rfl rfl rfl rfl ⟨rfl, rfl, rfl, rfl, rfl⟩ rfl rfl rfl rfl rfl (by kernel_rfl) Try.func9 (by kernel_rfl)
    (of_decide_eq_true (by kernel_rfl)) (by unfold Func.isWrapper; first | (rw [if_pos (by decide +kernel)]; kernel_rfl) | (rw [if_neg (by decide +kernel)]; exact ⟨rfl, rfl⟩))
    (fun os started H enc _ => lifted os started H enc)
/-- The statement. -/
theorem proved : Rows.FnExactLiftStepSaid := over
end fnExactLiftStep
#print axioms fnExactLiftStep.proved
end Go.Proofs.Ythmjmlblnikmaaa
