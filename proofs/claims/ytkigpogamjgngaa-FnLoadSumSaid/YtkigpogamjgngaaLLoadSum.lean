/- FnLoadSum returns true for every code: loads add up. No conditions. -/
import Derived.Test.YtkigpogamjgngaaOpn
import Derived.Test.YtkigpogamjgngaaDraE
import Derived.Test.YtkigpogamjgngaaLoa
import Derived.Test.YtkigpogamjgngaaSum
import Derived.Test.YtkigpogamjgngaaPlainD
namespace Go.Proofs.Ytkigpogamjgngaa
open Go.ChangeShapes Go.WideShapes Go.ChangeAt Go.RowKit Go.Joins Pl
theorem Sl.drop {w : World} {b o n : Nat} {L : List Int} (h : Sl w (some ⟨b, o, none⟩) n L) {k : Nat} (hk : k ≤ n) : Sl w (some ⟨b, o + k, none⟩) (n - k) (L.drop k) := by
  refine ⟨by rw [List.length_drop, h.1], fun h0 => ?_⟩
  obtain ⟨b', o', e, hlt, hc⟩ := h.2 (by omega)
  cases e
  refine ⟨b, o + k, rfl, hlt, fun j hj => ?_⟩
  rw [nth_drop, Nat.add_assoc]
  exact hc (k + j) (by omega)
theorem Sl.front {w : World} {A : Option Addr} {n : Nat} {L : List Int} (h : Sl w A n L) {k : Nat} (hk : k ≤ n) : Sl w A k (L.take k) := by
  refine ⟨by rw [List.length_take, h.1]; omega, fun h0 => ?_⟩
  obtain ⟨b, o, e, hlt, hc⟩ := h.2 (by omega)
  exact ⟨b, o, e, hlt, fun j hj => by rw [nth_take hj]; exact hc j (by omega)⟩
set_option maxHeartbeats 4000000 in
theorem walk_FnLoadSum (a0 : Option Addr) (len0 cap0 : Nat) (z0 : List Int) (w : World) (h0 : IsRow .u8 w a0 len0 cap0 z0) :
    Calls Try.prog 6 #[.slice a0 len0 cap0] w fun e w' => e = .returned (.bool true) ∧ Below w.heap.size w w' := by
  obtain ⟨src, hcap⟩ := srcB_of_row h0
  clear h0
  by_cases hbig : 1048576 < len0
  · go_enter Try.func6, Try.ntmps6
    go_wp2
    go_ret
    exact ⟨rfl, Below.refl _ _⟩
  go_enter Try.func6, Try.ntmps6
  go_wp2_with fail
  refine (c_DrawLoadSum _ _ _ _ _ src (by omega) hcap).mono ?_
  rintro e w1 ⟨A, n, c, L, hn, hc, hS1, hb, rfl, B1⟩
  have HB := Lib.hid hb; clear hb
  have hl := hS1.1
  have HL := Lib.hid hl; clear hl
  obtain ⟨x, hx⟩ : ∃ x, loadSum L = x := ⟨_, rfl⟩
  obtain ⟨x1, x2⟩ := loadSum_bd L
  rw [hx] at x1 x2
  by_cases hneg : x < 0
  · obtain rfl : x = -1 := by omega
    have HX := Lib.hid hx; clear hx
    go_wp2_with fail
    refine (c_lsI _ _ _ _ _ hS1 (by omega)).mono ?_
    rintro e w2 ⟨rfl, d2⟩
    rw [HX.out]
    have hS2 := d2.sl hS1
    have B2 := stepB B1 d2.below
    go_wp2_with fail
    refine (c_lsS _ _ _ _ _ hS2 (by omega)).mono ?_
    rintro e w3 ⟨rfl, d3⟩
    rw [HX.out]
    have hS3 := d3.sl hS2
    have B3 := stepB B2 d3.below
    go_wp2_with fail
    refine (c_alive _).mono ?_
    rintro e w4 ⟨rfl, hb4⟩
    go_wp2
    go_ret
    exact ⟨rfl, stepB B3 hb4⟩
  · have nd : decide (x < 0) = false := by simpa using hneg
    obtain ⟨hsum, htot⟩ := load_law (L := L) (by omega) (n / 2)
    rw [hx] at hsum htot
    have HX := Lib.hid hx; clear hx
    obtain ⟨P, hP⟩ : ∃ P, loadSum (L.take (n / 2)) = P := ⟨_, rfl⟩
    obtain ⟨Q, hQ⟩ : ∃ Q, loadSum (L.drop (n / 2)) = Q := ⟨_, rfl⟩
    obtain ⟨p1, p2⟩ := loadSum_bd (L.take (n / 2))
    obtain ⟨q1, q2⟩ := loadSum_bd (L.drop (n / 2))
    rw [hP] at hsum p1 p2
    rw [hQ] at hsum q1 q2
    have HP := Lib.hid hP; clear hP
    have HQ := Lib.hid hQ; clear hQ
    have es : (P + Q == x) = true := by simp [hsum]
    have ex : (x == L.sum) = true := by simp [htot]
    clear hsum htot hneg
    obtain ⟨h, hh⟩ : ∃ h, n / 2 = h := ⟨_, rfl⟩
    rw [hh] at HP HQ
    have hn2 : h ≤ n := by omega
    have hn3 : 0 < n → h < n := fun _ => by omega
    have hi2 : ((n : Int) / 2) = (h : Int) := by omega
    have HI := Lib.hid hi2; clear hi2 hh
    go_wp2_with fail
    refine (c_lsI _ _ _ _ _ hS1 (by omega)).mono ?_
    rintro e w2 ⟨rfl, d2⟩
    rw [HX.out]
    have hS2 := d2.sl hS1
    have B2 := stepB B1 d2.below
    go_wp2_with fail
    refine (c_lsS _ _ _ _ _ hS2 (by omega)).mono ?_
    rintro e w3 ⟨rfl, d3⟩
    rw [HX.out]
    have hS3 := d3.sl hS2
    have B3 := stepB B2 d3.below
    have hi2 := HI.out
    go_wp2
    clear hi2
    by_cases h0 : n = 0
    · subst h0
      obtain rfl : h = 0 := by omega
      have cP : ∀ A' c' m, Calls Try.prog 21 #[.slice A' 0 c'] (w3.drewN m) (Quiet (w3.drewN m) (.int .i64 0)) := fun A' c' m => by
        have := c_lsI A' 0 c' [] (w3.drewN m) (Sl.nil _ _) (by omega)
        exact this
      obtain rfl : L = [] := List.eq_nil_of_length_eq_zero HL.out
      have hx0 : x = 0 := by have := HX.out; rw [← this]; rfl
      subst hx0
      have cS : ∀ m, Calls Try.prog 24 #[.slice A 0 c] (w3.drewN m) (Quiet (w3.drewN m) (.int .i64 0)) := fun m => by
        have := c_sumOf A 0 c [] (w3.drewN m) (Sl.nil _ _) (by omega) HB.out
        exact this
      clear es ex
      go_quiet ((first | (go_at_call 21; exact quiet_of_quiet (cP _ _ _)) | (go_at_call 24; exact quiet_of_quiet (cS _))))
      go_wp2
      go_ret
      exact ⟨rfl, below_drewN B3 _⟩
    · obtain ⟨b, o, rfl, _, _⟩ := hS3.2 (by omega)
      have cP : ∀ m, Calls Try.prog 21 #[.slice (some ⟨b, o, none⟩) h c] (w3.drewN m) (Quiet (w3.drewN m) (.int .i64 P)) := fun m => by
        have := c_lsI _ h c _ (w3.drewN m) ((hS3.front hn2).drewN m) (by omega)
        rw [HP.out] at this; exact this
      have cQ : ∀ m, Calls Try.prog 21 #[.slice (some ⟨b, o + h, none⟩) (n - h) (c - h)] (w3.drewN m) (Quiet (w3.drewN m) (.int .i64 Q)) := fun m => by
        have := c_lsI _ (n - h) (c - h) _ (w3.drewN m) ((hS3.drop hn2).drewN m) (by omega)
        rw [HQ.out] at this; exact this
      have cS : ∀ m, Calls Try.prog 24 #[.slice (some ⟨b, o, none⟩) n c] (w3.drewN m) (Quiet (w3.drewN m) (.int .i64 L.sum)) := fun m =>
        c_sumOf _ n c L (w3.drewN m) (hS3.drewN m) (by omega) HB.out
      have k1 : (h : Int) ≤ (n : Int) := by omega
      have k2 : (h : Int) ≤ (c : Int) := by omega
      have k3 : (n : Int) ≤ (c : Int) := by omega
      have k4 : ¬ c = h := by have := hn3 (by omega); omega
      clear hn3
      have k5 : (0 : Int) ≤ (h : Int) := by omega
      have hw : IntKind.i64.wrap (P + Q) = P + Q := IntWalk.i64_in _ (by omega)
      go_quiet ((first | (go_at_call 21; with_reducible exact quiet_of_quiet (cP _)) | (go_at_call 21; with_reducible exact quiet_of_quiet (cQ _)) | (go_at_call 24; with_reducible exact quiet_of_quiet (cS _))))
      clear hw
      go_wp2
      go_ret
      exact ⟨rfl, below_drewN B3 _⟩
namespace fnLoadSum
set_option linter.unusedVariables false
set_option maxRecDepth 100000 in
theorem lifted (os : Os) (started : os.Started) (H : Type) (enc : TypeId × Value → H) :
    ReturnsInHanded {} Try.checked os 6 .any (Rows.fnLoadSumSpec.pre6 enc Try.prog Try.f6 Rows.fnLoadSumRow.domain false) (Rows.fnLoadSumSpec.post enc Try.prog Try.f6 false true false false) := by
  refine returnsInHanded_of_change (C := Try.checked) own started (by kernel_rfl) Try.func6
    (ChangeSpec.witness6 (enc := enc) (C := Try.checked) false ⟨#[], #[.slice none 0 0], []⟩ 8 (by kernel_rfl) (by kernel_rfl) (by kernel_rfl) (by kernel_rfl)) ?_
  intro W base args ds gs before hval0 hW hcnd _
  have hval : ∀ (j : Nat) t v, Try.f6.params[j]? = some t → args[j]? = some v → Value.okWide Try.prog W .any base t v := hval0
  have hW' := hW
  obtain ⟨p, q, hA0, hV, rfl, hfz, hnd⟩ := hW
  have hA : DataW.TrodAll enc Try.prog W 0 (fun _ => true) true Try.f6.params.toList args.toList ds p := hA0
  rw [Try.params6] at hA hval
  obtain ⟨v0, vs0, d0, ds0, p0, q0, hargs, rfl, rfl, h0, r0⟩ := trodAll_cons hA
  obtain ⟨rfl, rfl, rfl⟩ := trodAll_nil r0
  obtain rfl : args = #[v0] := by cases args; simp_all
  obtain ⟨rfl, rfl⟩ := trodVars_none hV
  have k0 := h0
  have lt0 : ∀ x ∈ p0, x.block < W.heap.size := by obtain ⟨m, hm⟩ := k0; exact DataW.trod_lt m _ _ _ hm
  obtain ⟨a0, len0, cap0, rfl⟩ := okWide_slice Try.underlying22 (hval 0 22 v0 rfl rfl)
  obtain ⟨z0, w0⟩ : ∃ zs, IsRow .u8 W a0 len0 cap0 zs := by
    obtain ⟨fuel, hf⟩ := h0
    rcases open_ints Try.underlying22 Try.underlying5 (by kernel_rfl) hf with ⟨hcs, _⟩ | ⟨x, l, c, zs, hcs, _, hl, hm, hz, _, hcell, hwz⟩
    · simp [Value.cells] at hcs
      obtain ⟨rfl, rfl, rfl⟩ := hcs
      exact ⟨[], .inl ⟨rfl, rfl, rfl, rfl⟩⟩
    · simp [Value.cells] at hcs
      obtain ⟨rfl, rfl, rfl⟩ := hcs
      exact ⟨zs, .inr ⟨_, rfl, hl, hm, by simpa using hz, hcell, hwz⟩⟩
  clear hA0 hval0
  refine (walk_FnLoadSum a0 len0 cap0 z0 W w0).mono fun e W' ⟨he, bel⟩ => ?_
  subst he
  exact ⟨_, rfl, _, _, _, [], _, [], hW', trodAll_mk1 (shut_bool Try.underlying4 _), (trodAll_cons_mk (Below.trod laidOut (by kernel_rfl) (of_decide_eq_true (by kernel_rfl)) k0 bel lt0) trodAll_mk0), rfl, bel.frame _, fun h => by cases h⟩
theorem over : Rows.fnLoadSumRow.holds Try.pinned (OpenSpec.ofChange Rows.fnLoadSumSpec) :=
  OpenClaim.holds_of_wide 6 Try.f6 rfl rfl rfl rfl rfl rfl rfl ⟨rfl, rfl, rfl, rfl, rfl⟩ rfl rfl rfl rfl rfl (by kernel_rfl) Try.func6 (by kernel_rfl)
    (of_decide_eq_true (by kernel_rfl)) (by unfold Func.isWrapper; first | (rw [if_pos (by decide +kernel)]; kernel_rfl) | (rw [if_neg (by decide +kernel)]; exact ⟨rfl, rfl⟩))
    (fun os started H enc _ => lifted os started H enc)
/-- The statement. -/
theorem proved : Rows.FnLoadSumSaid := over
end fnLoadSum
#print axioms fnLoadSum.proved
end Go.Proofs.Ytkigpogamjgngaa
