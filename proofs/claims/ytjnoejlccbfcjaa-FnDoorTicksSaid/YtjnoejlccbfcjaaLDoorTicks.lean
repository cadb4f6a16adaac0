/- FnDoorTicks returns true for every code: in the end every door is closed. No conditions. -/
import Derived.Test.YtjnoejlccbfcjaaOpn
import Derived.Test.YtjnoejlccbfcjaaDra
import Derived.Test.YtjnoejlccbfcjaaDRun
import Derived.Test.YtjnoejlccbfcjaaPlainD
namespace Go.Proofs.Ytjnoejlccbfcjaa
open Go.ChangeShapes Go.WideShapes Go.ChangeAt Go.RowKit Go.Joins Pl
set_option maxHeartbeats 4000000 in
theorem walk_FnDoorTicks (a0 : Option Addr) (len0 cap0 : Nat) (z0 : List Int) (w : World) (h0 : IsRow .u8 w a0 len0 cap0 z0) :
    Calls Try.prog 10 #[.slice a0 len0 cap0] w fun e w' => e = .returned (.bool true) ∧ Below w.heap.size w w' := by
  obtain ⟨src, hcap⟩ := srcB_of_row h0
  clear h0
  by_cases hbig : 1048576 < len0
  · go_enter Try.func10, Try.ntmps10
    go_wp2
    go_ret
    exact ⟨rfl, Below.refl _ _⟩
  go_enter Try.func10, Try.ntmps10
  go_wp2_with fail
  refine (c_DrawDoorTicks _ _ _ _ _ src (by omega) hcap).mono ?_
  rintro e w1 ⟨a, v, ha, hv, rfl, B1⟩
  clear ha hv
  rcases hm : doorV a v
  · have hz : doorTicks a v = -1 := by unfold doorTicks; rw [hm]; rfl
    have HZ := Lib.hid hz; clear hz hm
    go_wp2_with fail
    refine (c_doorTI _ _ _).mono ?_
    rintro e w2 ⟨rfl, hb2⟩
    rw [HZ.out]
    have B2 := stepB (B1.alloc B1.size _) hb2
    have mo2 := (Own2.new _ _ _ _).call hb2
    have c0 := mo2.c0
    have c1 := mo2.c1
    have cl := mo2.lt
    go_wp2_with fail
    refine (c_doorTS _ _ _).mono ?_
    rintro e w3 ⟨rfl, hb3⟩
    rw [HZ.out]
    have B3 := stepB B2 hb3
    have mo3 := mo2.call hb3
    clear c0 c1
    have c0 := mo3.c0
    have c1 := mo3.c1
    have cl := mo3.lt
    go_wp2_with fail
    refine (c_alive _).mono ?_
    rintro e w4 ⟨rfl, hb4⟩
    go_wp2
    go_ret
    exact ⟨rfl, stepB B3 hb4⟩
  · have hz : doorTicks a v = a + v := by unfold doorTicks; rw [hm]; rfl
    obtain ⟨hl1, hl2⟩ := doorTicks_law hm
    obtain ⟨⟨q1, q2⟩, ⟨q3, q4⟩, q5⟩ := doorV_iff.1 hm
    clear q5
    have HZ := Lib.hid hz; clear hz hm
    have HL := Lib.hid hl1; clear hl1
    have H2 := Lib.hid hl2; clear hl2
    go_wp2_with fail
    refine (c_doorTI _ _ _).mono ?_
    rintro e w2 ⟨rfl, hb2⟩
    rw [HZ.out]
    have B2 := stepB (B1.alloc B1.size _) hb2
    have mo2 := (Own2.new _ _ _ _).call hb2
    have c0 := mo2.c0
    have c1 := mo2.c1
    have cl := mo2.lt
    go_wp2_with fail
    refine (c_doorTS _ _ _).mono ?_
    rintro e w3 ⟨rfl, hb3⟩
    rw [HZ.out]
    have B3 := stepB B2 hb3
    have mo3 := mo2.call hb3
    clear c0 c1
    have c0 := mo3.c0
    have c1 := mo3.c1
    have cl := mo3.lt
    go_wp2_with fail
    refine (c_drI _ _ _ _ _ _ [] _ _ _ [] _ (Sl.nil _ _) (by omega) (Sl.nil _ _) (by omega)).mono ?_
    rintro e w4 ⟨rfl, hb4⟩
    rw [HL.out]
    have B4 := stepB B3 hb4
    have mo4 := mo3.call hb4
    clear c0 c1
    have c0 := mo4.c0
    have c1 := mo4.c1
    have cl := mo4.lt
    by_cases h0 : a + v = 0
    · have e0 : (a + v == 0) = true := by simp [h0]
      clear h0
      go_wp2
      go_ret
      exact ⟨rfl, B4⟩
    · have e0 : (a + v == 0) = false := by simp [h0]
      have hp : 0 < (doorRun a v (a + v - 1) [] []).1 := by
        rcases H2.out with h | h
        · exact absurd h h0
        · exact h
      clear h0
      obtain ⟨g, hg⟩ : ∃ g, (doorRun a v (a + v - 1) [] []).1 = g := ⟨_, rfl⟩
      obtain ⟨h, hh⟩ : ∃ h, (doorRun a v (a + v - 1) [] []).2 = h := ⟨_, rfl⟩
      rw [hg] at hp
      have HG := Lib.hid hg; clear hg
      have HH := Lib.hid hh; clear hh
      have hfd : ∀ w : World, (Instr.field 35 (.agg #[.int .i64 g, .int .i64 h]) 0).run Try.prog w = .ok (.int .i64 g) w := fun _ => by kernel_rfl
      go_wp2_with fail
      refine (c_drI _ _ _ _ _ _ [] _ _ _ [] _ (Sl.nil _ _) (by omega) (Sl.nil _ _) (by omega)).mono ?_
      rintro e w5 ⟨rfl, hb5⟩
      rw [HG.out, HH.out]
      have B5 := stepB B4 hb5
      have mo5 := mo4.call hb5
      clear c0 c1
      have c0 := mo5.c0
      have c1 := mo5.c1
      have cl := mo5.lt
      go_wp2
      go_ret
      exact ⟨rfl, B5⟩
namespace fnDoorTicks
set_option linter.unusedVariables false
set_option maxRecDepth 100000 in
theorem lifted (os : Os) (started : os.Started) (H : Type) (enc : TypeId × Value → H) :
    ReturnsInHanded {} Try.checked os 10 .any (Rows.fnDoorTicksSpec.pre6 enc Try.prog Try.f10 Rows.fnDoorTicksRow.domain false) (Rows.fnDoorTicksSpec.post enc Try.prog Try.f10 false true false false) := by
  refine returnsInHanded_of_change (C := Try.checked) own started (by kernel_rfl) Try.func10
    (ChangeSpec.witness6 (enc := enc) (C := Try.checked) false ⟨#[], #[.slice none 0 0], []⟩ 8 (by kernel_rfl) (by kernel_rfl) (by kernel_rfl) (by kernel_rfl)) ?_
  intro W base args ds gs before hval0 hW hcnd _
  have hval : ∀ (j : Nat) t v, Try.f10.params[j]? = some t → args[j]? = some v → Value.okWide Try.prog W .any base t v := hval0
  have hW' := hW
  obtain ⟨p, q, hA0, hV, rfl, hfz, hnd⟩ := hW
  have hA : DataW.TrodAll enc Try.prog W 0 (fun _ => true) true Try.f10.params.toList args.toList ds p := hA0
  rw [Try.params10] at hA hval
  obtain ⟨v0, vs0, d0, ds0, p0, q0, hargs, rfl, rfl, h0, r0⟩ := trodAll_cons hA
  obtain ⟨rfl, rfl, rfl⟩ := trodAll_nil r0
  obtain rfl : args = #[v0] := by cases args; simp_all
  obtain ⟨rfl, rfl⟩ := trodVars_none hV
  have k0 := h0
  have lt0 : ∀ x ∈ p0, x.block < W.heap.size := by obtain ⟨m, hm⟩ := k0; exact DataW.trod_lt m _ _ _ hm
  obtain ⟨a0, len0, cap0, rfl⟩ := okWide_slice Try.underlying22 (hval 0 22 v0 rfl rfl)
  obtain ⟨z0, w0⟩ : ∃ zs, IsRow .u8 W a0 len0 cap0 zs := by
    obtain ⟨fuel, hf⟩ := h0
    rcases open_ints Try.underlying22 Try.underlying5 (by kernel_rfl) hf with ⟨hcs, _⟩ | ⟨x, l, c, zs, hcs, _, hl, hm, hz, _, hcell, hwz⟩
    · simp [Value.cells] at hcs
      obtain ⟨rfl, rfl, rfl⟩ := hcs
      exact ⟨[], .inl ⟨rfl, rfl, rfl, rfl⟩⟩
    · simp [Value.cells] at hcs
      obtain ⟨rfl, rfl, rfl⟩ := hcs
      exact ⟨zs, .inr ⟨_, rfl, hl, hm, by simpa using hz, hcell, hwz⟩⟩
  clear hA0 hval0
  refine (walk_FnDoorTicks a0 len0 cap0 z0 W w0).mono fun e W' ⟨he, bel⟩ => ?_
  subst he
  exact ⟨_, rfl, _, _, _, [], _, [], hW', trodAll_mk1 (shut_bool Try.underlying4 _), (trodAll_cons_mk (Below.trod laidOut (by kernel_rfl) (of_decide_eq_true (by kernel_rfl)) k0 bel lt0) trodAll_mk0), rfl, bel.frame _, fun h => by cases h⟩
theorem over : Rows.fnDoorTicksRow.holds Try.pinned (OpenSpec.ofChange Rows.fnDoorTicksSpec) :=
  OpenClaim.holds_of_wide 10 Try.f10 rfl rfl rfl rfl rfl rfl rfl ⟨rfl, rfl, rfl, rfl, rfl⟩ rfl rfl rfl rfl rfl (by kernel_rfl) Try.func10 (by kernel_rfl)
    (of_decide_eq_true (by kernel_rfl)) (by unfold Func.isWrapper; first | (rw [if_pos (by decide +kernel)]; kernel_rfl) | (rw [if_neg (by decide +kernel)]; exact ⟨rfl, rfl⟩))
    (fun os started H enc _ => lifted os started H enc)
/-- The statement. -/
theorem proved : Rows.FnDoorTicksSaid := over
end fnDoorTicks
#print axioms fnDoorTicks.proved
end Go.Proofs.Ytjnoejlccbfcjaa
