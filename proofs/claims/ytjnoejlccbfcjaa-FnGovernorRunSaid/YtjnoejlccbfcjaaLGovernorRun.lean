/- FnGovernorRun returns true for every code: behind the last trip there is a reset. No conditions. -/
import Derived.Test.YtjnoejlccbfcjaaOpn
import Derived.Test.YtjnoejlccbfcjaaDra
import Derived.Test.YtjnoejlccbfcjaaGovL
import Derived.Test.YtjnoejlccbfcjaaPlainD
import Derived.Deep.LoopGhost
namespace Go.Proofs.Ytjnoejlccbfcjaa
open Go.ChangeShapes Go.WideShapes Go.ChangeAt Go.RowKit Go.Joins Pl
theorem gov_fast {x rs : Bool} {s : Int} (h : 7 ≤ s ∨ s ≤ -7) : govStep x s rs = true := if_pos h
theorem gov_slow {x rs : Bool} {s : Int} (h : ¬ (7 ≤ s ∨ s ≤ -7)) : govStep x s rs = (x && !(rs && s == 0)) := if_neg h
theorem bd_nth {L : List Int} {lo hi : Int} (h : ∀ x ∈ L, lo ≤ x ∧ x ≤ hi) {k : Nat} (hk : k < L.length) : lo ≤ nth L k ∧ nth L k ≤ hi := h _ (nth_mem hk)
set_option maxHeartbeats 4000000 in
theorem walk_FnGovernorRun (a0 : Option Addr) (len0 cap0 : Nat) (z0 : List Int) (w : World) (h0 : IsRow .u8 w a0 len0 cap0 z0) :
    Calls Try.prog 8 #[.slice a0 len0 cap0] w fun e w' => e = .returned (.bool true) ∧ Below w.heap.size w w' := by
  obtain ⟨src, hcap⟩ := srcB_of_row h0
  clear h0
  by_cases hbig : 1048576 < len0
  · go_enter Try.func8, Try.ntmps8
    go_wp2
    go_ret
    exact ⟨rfl, Below.refl _ _⟩
  go_enter Try.func8, Try.ntmps8
  go_wp2_with fail
  refine (c_DrawGovernorRun _ _ _ _ _ src (by omega) hcap).mono ?_
  rintro e w1 ⟨tr, A, n, c, S, A', n', c', R, hn, hn', hS, hR, hb, rfl, B1⟩
  have HB := Lib.hid hb; clear hb
  have hl := hS.1
  have HL := Lib.hid hl; clear hl
  obtain ⟨fin, hfin⟩ : ∃ x, govRun tr S R S.length = x := ⟨_, rfl⟩
  have HF := Lib.hid hfin; clear hfin
  go_wp2_with fail
  refine (c_grI _ _ _ _ _ _ _ _ _ _ hS (by omega) hR (by omega)).mono ?_
  rintro e w2 ⟨rfl, d2⟩
  rw [HF.out]
  have hS2 := d2.sl hS
  have hR2 := d2.sl hR
  go_wp2_with fail
  refine (c_grS _ _ _ _ _ _ _ _ _ _ hS2 (by omega) hR2 (by omega)).mono ?_
  rintro e w3 ⟨rfl, d3⟩
  rw [HF.out]
  have hS3 := d3.sl hS2
  have hR3 := d3.sl hR2
  have B3 := stepB (stepB B1 d2.below) d3.below
  clear hS hR hS2 hR2
  go_wp2
  go_loopw [7, 8] (fun t s wr => ∃ (k : Nat) (x : Bool), k ≤ n ∧ s = .int .i64 (k : Int) ∧ govRun tr S R k = x ∧ t = .bool x ∧ DN w3 wr) (fun _ s _ => n - (intOf s).toNat)
  case atStart => exact ⟨0, tr, by omega, rfl, rfl, rfl, DN.refl _⟩
  case round =>
    obtain ⟨k, x, hk, rfl, hx, rfl, hd⟩ := hrel
    by_cases hlt : k < n
    · obtain ⟨b, o, rfl, hbl, hc⟩ := hS3.2 (by omega)
      have ck : wr.cell? ⟨b, o + k, none⟩ = some (.int .i64 (nth S k)) := (hd.cell _).trans (hc k hlt)
      clear hc
      have i1 : (k : Int) < (n : Int) := by omega
      have hnx : govRun tr S R (k + 1) = govStep x (nth S k) (hasI R (k : Int)) := by rw [← hx]; rfl
      obtain ⟨b1, b2⟩ := bd_nth HB.out (k := k) (by rw [HL.out]; exact hlt)
      obtain ⟨s, hs⟩ : ∃ s, nth S k = s := ⟨_, rfl⟩
      rw [hs] at ck hnx b1 b2
      clear hs hx
      by_cases h0 : s = 0
      · subst h0
        rw [gov_slow (by omega)] at hnx
        rcases x
        · have hnx' : govRun tr S R (k + 1) = false := hnx
          have HN := Lib.hid hnx'; clear hnx hnx'
          go_wp2
          go_roundw
          case rel => exact ⟨k + 1, _, by omega, by go_num, HN.out, rfl, hd⟩
          case measure => simp [intOf]; omega
        · rcases hh : hasI R (k : Int)
          · have hnx' : govRun tr S R (k + 1) = true := by rw [hnx, hh]; rfl
            have HN := Lib.hid hnx'; clear hnx hnx'
            have HH := Lib.hid hh; clear hh
            go_wp2_with fail
            refine (c_hasInt _ _ _ _ _ _ (hd.sl hR3) (by omega)).mono ?_
            rintro e w5 ⟨rfl, d5⟩
            rw [HH.out]
            have ck5 := (d5.cell _).trans ck
            go_wp2
            go_roundw
            case rel => exact ⟨k + 1, _, by omega, by go_num, HN.out, rfl, hd.trans d5⟩
            case measure => simp [intOf]; omega
          · have hnx' : govRun tr S R (k + 1) = false := by rw [hnx, hh]; rfl
            have HN := Lib.hid hnx'; clear hnx hnx'
            have HH := Lib.hid hh; clear hh
            go_wp2_with fail
            refine (c_hasInt _ _ _ _ _ _ (hd.sl hR3) (by omega)).mono ?_
            rintro e w5 ⟨rfl, d5⟩
            rw [HH.out]
            have ck5 := (d5.cell _).trans ck
            go_wp2
            go_roundw
            case rel => exact ⟨k + 1, _, by omega, by go_num, HN.out, rfl, hd.trans d5⟩
            case measure => simp [intOf]; omega
      · have e0 : (s == 0) = false := by simp [h0]
        by_cases hf1 : 7 ≤ s
        · rw [gov_fast (.inl hf1)] at hnx
          have HN := Lib.hid hnx; clear hnx h0
          rcases x
          all_goals
            go_wp2
            go_roundw
            case rel => exact ⟨k + 1, _, by omega, by go_num, HN.out, rfl, hd⟩
            case measure => simp [intOf]; omega
        · have d1 : decide (7 ≤ s) = false := by simpa using hf1
          by_cases hf2 : s ≤ -7
          · have hf3 : 7 ≤ -s := by omega
            rw [gov_fast (.inr hf2)] at hnx
            have HN := Lib.hid hnx; clear hnx h0
            rcases x
            all_goals
              go_wp2
              go_roundw
              case rel => exact ⟨k + 1, _, by omega, by go_num, HN.out, rfl, hd⟩
              case measure => simp [intOf]; omega
          · have d2' : decide (7 ≤ -s) = false := by simp; omega
            rw [gov_slow (by omega), e0, Bool.and_false, Bool.not_false, Bool.and_true] at hnx
            have HN := Lib.hid hnx; clear hnx h0
            rcases x
            all_goals
              go_wp2
              go_roundw
              case rel => exact ⟨k + 1, _, by omega, by go_num, HN.out, rfl, hd⟩
              case measure => simp [intOf]; omega
    · obtain rfl : n = k := by omega
      have hxx := HF.out
      rw [HL.out, hx] at hxx
      subst hxx
      clear hx
      have B4 := stepB B3 hd.below
      have hz : govRun false [] [] ([] : List Int).length = false := rfl
      have HZ := Lib.hid hz; clear hz
      go_wp2_with fail
      refine (c_grI _ _ _ _ [] _ _ _ [] _ (Sl.nil _ _) (by omega) (Sl.nil _ _) (by omega)).mono ?_
      rintro e w5 ⟨rfl, d5⟩
      rw [HZ.out]
      have B5 := stepB B4 d5.below
      go_wp2_with fail
      refine (c_alive _).mono ?_
      rintro e w6 ⟨rfl, hb6⟩
      go_wp2
      go_ret
      exact ⟨rfl, stepB B5 hb6⟩
namespace fnGovernorRun
set_option linter.unusedVariables false
set_option maxRecDepth 100000 in
theorem lifted (os : Os) (started : os.Started) (H : Type) (enc : TypeId × Value → H) :
    ReturnsInHanded {} Try.checked os 8 .any (Rows.fnGovernorRunSpec.pre6 enc Try.prog Try.f8 Rows.fnGovernorRunRow.domain false) (Rows.fnGovernorRunSpec.post enc Try.prog Try.f8 false true false false) := by
  refine returnsInHanded_of_change (C := Try.checked) own started (by kernel_rfl) Try.func8
    (ChangeSpec.witness6 (enc := enc) (C := Try.checked) false ⟨#[], #[.slice none 0 0], []⟩ 8 (by kernel_rfl) (by kernel_rfl) (by kernel_rfl) (by kernel_rfl)) ?_
  intro W base args ds gs before hval0 hW hcnd _
  have hval : ∀ (j : Nat) t v, Try.f8.params[j]? = some t → args[j]? = some v → Value.okWide Try.prog W .any base t v := hval0
  have hW' := hW
  obtain ⟨p, q, hA0, hV, rfl, hfz, hnd⟩ := hW
  have hA : DataW.TrodAll enc Try.prog W 0 (fun _ => true) true Try.f8.params.toList args.toList ds p := hA0
  rw [Try.params8] at hA hval
  obtain ⟨v0, vs0, d0, ds0, p0, q0, hargs, rfl, rfl, h0, r0⟩ := trodAll_cons hA
  obtain ⟨rfl, rfl, rfl⟩ := trodAll_nil r0
  obtain rfl : args = #[v0] := by cases args; simp_all
  obtain ⟨rfl, rfl⟩ := trodVars_none hV
  have k0 := h0
  have lt0 : ∀ x ∈ p0, x.block < W.heap.size := by obtain ⟨m, hm⟩ := k0; exact DataW.trod_lt m _ _ _ hm
  obtain ⟨a0, len0, cap0, rfl⟩ := okWide_slice Try.underlying22 (hval 0 22 v0 rfl rfl)
  obtain ⟨z0, w0⟩ : ∃ zs, IsRow .u8 W a0 len0 cap0 zs := by
    obtain ⟨fuel, hf⟩ := h0
    rcases open_ints Try.underlying22 Try.underlying5 (by kernel_rfl) hf with ⟨hcs, _⟩ | ⟨x, l, c, zs, hcs, _, hl, hm, hz, _, hcell, hwz⟩
    · simp [Value.cells] at hcs
      obtain ⟨rfl, rfl, rfl⟩ := hcs
      exact ⟨[], .inl ⟨rfl, rfl, rfl, rfl⟩⟩
    · simp [Value.cells] at hcs
      obtain ⟨rfl, rfl, rfl⟩ := hcs
      exact ⟨zs, .inr ⟨_, rfl, hl, hm, by simpa using hz, hcell, hwz⟩⟩
  clear hA0 hval0
  refine (walk_FnGovernorRun a0 len0 cap0 z0 W w0).mono fun e W' ⟨he, bel⟩ => ?_
  subst he
  exact ⟨_, rfl, _, _, _, [], _, [], hW', trodAll_mk1 (shut_bool Try.underlying4 _), (trodAll_cons_mk (Below.trod laidOut (by kernel_rfl) (of_decide_eq_true (by kernel_rfl)) k0 bel lt0) trodAll_mk0), rfl, bel.frame _, fun h => by cases h⟩
theorem over : Rows.fnGovernorRunRow.holds Try.pinned (OpenSpec.ofChange Rows.fnGovernorRunSpec) :=
  OpenClaim.holds_of_wide 8 Try.f8 rfl rfl rfl rfl rfl rfl rfl ⟨rfl, rfl, rfl, rfl, rfl⟩ rfl rfl rfl rfl rfl (by kernel_rfl) Try.func8 (by kernel_rfl)
    (of_decide_eq_true (by kernel_rfl)) (by unfold Func.isWrapper; first | (rw [if_pos (by decide +kernel)]; kernel_rfl) | (rw [if_neg (by decide +kernel)]; exact ⟨rfl, rfl⟩))
    (fun os started H enc _ => lifted os started H enc)
/-- The statement. -/
theorem proved : Rows.FnGovernorRunSaid := over
end fnGovernorRun
#print axioms fnGovernorRun.proved
end Go.Proofs.Ytjnoejlccbfcjaa
