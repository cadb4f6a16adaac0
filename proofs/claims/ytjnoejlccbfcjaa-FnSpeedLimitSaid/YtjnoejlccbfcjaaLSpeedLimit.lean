/- FnSpeedLimit returns true for every code: a limit is the greatest speed. No conditions. -/
import Derived.Test.YtjnoejlccbfcjaaOpn
import Derived.Test.YtjnoejlccbfcjaaDrB
import Derived.Test.YtjnoejlccbfcjaaTicks
import Derived.Test.YtjnoejlccbfcjaaPlainD
namespace Go.Proofs.Ytjnoejlccbfcjaa
open Go.ChangeShapes Go.WideShapes Go.ChangeAt Go.RowKit Go.Joins Pl
set_option maxHeartbeats 4000000 in
theorem walk_FnSpeedLimit (a0 : Option Addr) (len0 cap0 : Nat) (z0 : List Int) (w : World) (h0 : IsRow .u8 w a0 len0 cap0 z0) :
    Calls Try.prog 9 #[.slice a0 len0 cap0] w fun e w' => e = .returned (.bool true) ∧ Below w.heap.size w w' := by
  obtain ⟨src, hcap⟩ := srcB_of_row h0
  clear h0
  by_cases hbig : 1048576 < len0
  · go_enter Try.func9, Try.ntmps9
    go_wp2
    go_ret
    exact ⟨rfl, Below.refl _ _⟩
  go_enter Try.func9, Try.ntmps9
  go_wp2_with fail
  refine (c_DrawSpeedLimit _ _ _ _ _ src (by omega) hcap).mono ?_
  rintro e w1 ⟨a, up, a1, a2, rfl, B1⟩
  rcases hi : inB a 0 60
  · have hz : ∀ u, speedLimit a u = -1 := fun u => by unfold speedLimit; rw [hi]; rfl
    have HZ := Lib.hid hz; clear hz hi
    go_wp2_with fail
    refine (c_limI _ _ _).mono ?_
    rintro e w9 ⟨rfl, rfl⟩
    rw [HZ.out]
    go_wp2_with fail
    refine (c_limS _ _ _).mono ?_
    rintro e w9 ⟨rfl, rfl⟩
    rw [HZ.out]
    go_wp2_with fail
    refine (c_alive _).mono ?_
    rintro e w2 ⟨rfl, hb2⟩
    go_wp2
    go_ret
    exact ⟨rfl, stepB B1 hb2⟩
  · cases up
    · obtain ⟨⟨l1, l2⟩, l3, l4⟩ := lim_law hi false
      have h3 : canStop a (-speedLimit a false) 0 = true := by
        rw [show (-speedLimit a false) = (if false = true then 1 else -1) * speedLimit a false from by simp]; exact l3
      have h4 : speedLimit a false = 5 ∨ canStop a (-(speedLimit a false + 1)) 0 = false := by
        rcases l4 with h | h
        · exact .inl h
        · right; rw [show (-(speedLimit a false + 1)) = (if false = true then 1 else -1) * (speedLimit a false + 1) from by simp]; exact h
      obtain ⟨x, hx⟩ : ∃ x, speedLimit a false = x := ⟨_, rfl⟩
      rw [hx] at l1 l2 h3 h4
      have HX := Lib.hid hx; clear hx l3 l4 hi
      have H3 := Lib.hid h3; clear h3
      go_wp2_with fail
      refine (c_limI _ _ _).mono ?_
      rintro e w9 ⟨rfl, rfl⟩
      rw [HX.out]
      go_wp2_with fail
      refine (c_limS _ _ _).mono ?_
      rintro e w9 ⟨rfl, rfl⟩
      rw [HX.out]
      by_cases h5 : x = 5
      · subst h5
        clear h4
        go_wp2_with fail
        refine (c_canI _ _ _ _).mono ?_
        rintro e w2 ⟨rfl, hb2⟩
        rw [H3.out]
        go_wp2
        go_ret
        exact ⟨rfl, stepB B1 hb2⟩
      · have e5 : (x == 5) = false := by simp [h5]
        have h4' := h4.resolve_left h5
        have H4 := Lib.hid h4'; clear h4' h4 h5
        go_wp2_with fail
        refine (c_canI _ _ _ _).mono ?_
        rintro e w2 ⟨rfl, hb2⟩
        rw [H3.out]
        go_wp2_with fail
        refine (c_canI _ _ _ _).mono ?_
        rintro e w3 ⟨rfl, hb3⟩
        rw [H4.out]
        go_wp2
        go_ret
        exact ⟨rfl, stepB (stepB B1 hb2) hb3⟩
    · obtain ⟨⟨l1, l2⟩, l3, l4⟩ := lim_law hi true
      have h3 : canStop a (speedLimit a true) 60 = true := by
        rw [show (speedLimit a true) = (if true = true then 1 else -1) * speedLimit a true from by simp]; exact l3
      have h4 : speedLimit a true = 5 ∨ canStop a (speedLimit a true + 1) 60 = false := by
        rcases l4 with h | h
        · exact .inl h
        · right; rw [show (speedLimit a true + 1) = (if true = true then 1 else -1) * (speedLimit a true + 1) from by simp]; exact h
      obtain ⟨x, hx⟩ : ∃ x, speedLimit a true = x := ⟨_, rfl⟩
      rw [hx] at l1 l2 h3 h4
      have HX := Lib.hid hx; clear hx l3 l4 hi
      have H3 := Lib.hid h3; clear h3
      go_wp2_with fail
      refine (c_limI _ _ _).mono ?_
      rintro e w9 ⟨rfl, rfl⟩
      rw [HX.out]
      go_wp2_with fail
      refine (c_limS _ _ _).mono ?_
      rintro e w9 ⟨rfl, rfl⟩
      rw [HX.out]
      by_cases h5 : x = 5
      · subst h5
        clear h4
        go_wp2_with fail
        refine (c_canI _ _ _ _).mono ?_
        rintro e w2 ⟨rfl, hb2⟩
        rw [H3.out]
        go_wp2
        go_ret
        exact ⟨rfl, stepB B1 hb2⟩
      · have e5 : (x == 5) = false := by simp [h5]
        have h4' := h4.resolve_left h5
        have H4 := Lib.hid h4'; clear h4' h4 h5
        go_wp2_with fail
        refine (c_canI _ _ _ _).mono ?_
        rintro e w2 ⟨rfl, hb2⟩
        rw [H3.out]
        go_wp2_with fail
        refine (c_canI _ _ _ _).mono ?_
        rintro e w3 ⟨rfl, hb3⟩
        rw [H4.out]
        go_wp2
        go_ret
        exact ⟨rfl, stepB (stepB B1 hb2) hb3⟩
namespace fnSpeedLimit
set_option linter.unusedVariables false
set_option maxRecDepth 100000 in
theorem lifted (os : Os) (started : os.Started) (H : Type) (enc : TypeId × Value → H) :
    ReturnsInHanded {} Try.checked os 9 .any (Rows.fnSpeedLimitSpec.pre6 enc Try.prog Try.f9 Rows.fnSpeedLimitRow.domain false) (Rows.fnSpeedLimitSpec.post enc Try.prog Try.f9 false true false false) := by
  refine returnsInHanded_of_change (C := Try.checked) own started (by kernel_rfl) Try.func9
    (ChangeSpec.witness6 (enc := enc) (C := Try.checked) false ⟨#[], #[.slice none 0 0], []⟩ 8 (by kernel_rfl) (by kernel_rfl) (by kernel_rfl) (by kernel_rfl)) ?_
  intro W base args ds gs before hval0 hW hcnd _
  have hval : ∀ (j : Nat) t v, Try.f9.params[j]? = some t → args[j]? = some v → Value.okWide Try.prog W .any base t v := hval0
  have hW' := hW
  obtain ⟨p, q, hA0, hV, rfl, hfz, hnd⟩ := hW
  have hA : DataW.TrodAll enc Try.prog W 0 (fun _ => true) true Try.f9.params.toList args.toList ds p := hA0
  rw [Try.params9] at hA hval
  obtain ⟨v0, vs0, d0, ds0, p0, q0, hargs, rfl, rfl, h0, r0⟩ := trodAll_cons hA
  obtain ⟨rfl, rfl, rfl⟩ := trodAll_nil r0
  obtain rfl : args = #[v0] := by cases args; simp_all
  obtain ⟨rfl, rfl⟩ := trodVars_none hV
  have k0 := h0
  have lt0 : ∀ x ∈ p0, x.block < W.heap.size := by obtain ⟨m, hm⟩ := k0; exact DataW.trod_lt m _ _ _ hm
  obtain ⟨a0, len0, cap0, rfl⟩ := okWide_slice Try.underlying22 (hval 0 22 v0 rfl rfl)
  obtain ⟨z0, w0⟩ : ∃ zs, IsRow .u8 W a0 len0 cap0 zs := by
    obtain ⟨fuel, hf⟩ := h0
    rcases open_ints Try.underlying22 Try.underlying5 (by kernel_rfl) hf with ⟨hcs, _⟩ | ⟨x, l, c, zs, hcs, _, hl, hm, hz, _, hcell, hwz⟩
    · simp [Value.cells] at hcs
      obtain ⟨rfl, rfl, rfl⟩ := hcs
      exact ⟨[], .inl ⟨rfl, rfl, rfl, rfl⟩⟩
    · simp [Value.cells] at hcs
      obtain ⟨rfl, rfl, rfl⟩ := hcs
      exact ⟨zs, .inr ⟨_, rfl, hl, hm, by simpa using hz, hcell, hwz⟩⟩
  clear hA0 hval0
  refine (walk_FnSpeedLimit a0 len0 cap0 z0 W w0).mono fun e W' ⟨he, bel⟩ => ?_
  subst he
  exact ⟨_, rfl, _, _, _, [], _, [], hW', trodAll_mk1 (shut_bool Try.underlying4 _), (trodAll_cons_mk (Below.trod laidOut (by kernel_rfl) (of_decide_eq_true (by kernel_rfl)) k0 bel lt0) trodAll_mk0), rfl, bel.frame _, fun h => by cases h⟩
theorem over : Rows.fnSpeedLimitRow.holds Try.pinned (OpenSpec.ofChange Rows.fnSpeedLimitSpec) :=
  OpenClaim.holds_of_wide 9 Try.f9 rfl rfl rfl rfl rfl rfl rfl ⟨rfl, rfl, rfl, rfl, rfl⟩ rfl rfl rfl rfl rfl (by kernel_rfl) Try.func9 (by kernel_rfl)
    (of_decide_eq_true (by kernel_rfl)) (by unfold Func.isWrapper; first | (rw [if_pos (by decide +kernel)]; kernel_rfl) | (rw [if_neg (by decide +kernel)]; exact ⟨rfl, rfl⟩))
    (fun os started H enc _ => lifted os started H enc)
/-- The statement. -/
theorem proved : Rows.FnSpeedLimitSaid := over
end fnSpeedLimit
#print axioms fnSpeedLimit.proved
end Go.Proofs.Ytjnoejlccbfcjaa
