/- FnDoorRun returns true for every code: ticks follow each other. No conditions. -/
import Derived.Test.YtjnoejlccbfcjaaOpn
import Derived.Test.YtjnoejlccbfcjaaDra
import Derived.Test.YtjnoejlccbfcjaaDRun
import Derived.Test.YtjnoejlccbfcjaaPlainD
import Derived.Deep.LoopGhost
import Derived.Deep.RegionWith
namespace Go.Proofs.Ytjnoejlccbfcjaa
open Go.ChangeShapes Go.WideShapes Go.ChangeAt Go.RowKit Go.Joins Pl
theorem below_row {B : Nat} {a w w' : World} {row : Option Nat} (h : Below B a w) (hB : B ≤ w.heap.size) (hg : w.grownBy w' row) (hr : ∀ k, row = some k → B ≤ k) : Below B a w' :=
  ⟨hg.os.trans h.os, hg.tape.trans h.tape, hg.output.trans h.output, Nat.le_trans h.size hg.size, fun k hk => (hg.block k (by omega) (fun e => by have := hr k e.symm; omega)).trans (h.block k hk)⟩
theorem shift_snoc {L : List Int} {m : Int} {k : Nat} (hk : k < L.length) : shift (L.take (k + 1)) m = shift (L.take k) m ++ [nth L k - m] := by
  unfold shift
  rw [List.take_succ_eq_append_getElem hk, List.map_append]
  have : L[k] = nth L k := by simp [nth, hk]
  rw [this]; rfl
theorem shift_len (L : List Int) (m : Int) : (shift L m).length = L.length := by simp [shift]
theorem bd_nth {L : List Int} {lo hi : Int} (h : ∀ x ∈ L, lo ≤ x ∧ x ≤ hi) {k : Nat} (hk : k < L.length) : lo ≤ nth L k ∧ nth L k ≤ hi := h _ (nth_mem hk)
/-- The list so far, made by append. -/
def Sofar (w0 w : World) (v : Value) (L : List Int) (m : Int) (k : Nat) : Prop := Below w0.heap.size w0 w ∧ w.ownsRow w0.heap.size 3 1 v k ((shift (L.take k) m).map (Value.int .i64))
theorem Sofar.begin (w0 : World) (L : List Int) (m : Int) : Sofar w0 (w0.alloc (.cells #[] 3)) (.slice (some ⟨w0.heap.size, 0, none⟩) 0 0) L m 0 :=
  ⟨(Below.refl _ _).alloc (Nat.le_refl _) _, World.ownsRow_made (base := w0.heap.size) (e := 3) (size := 1) w0 #[] 0 (Nat.le_refl _) (by unfold maxLen; omega) rfl⟩
theorem Sofar.more {w0 w w' : World} {v v' : Value} {L : List Int} {m : Int} {k : Nat} (h : Sofar w0 w v L m k) (hk : k < L.length) (o : Obj) (hown : w'.ownsRow w0.heap.size 3 1 v' (k + 1) ((shift (L.take k) m).map (Value.int .i64) ++ [.int .i64 (nth L k - m)])) (hg : (w.alloc o).grownBy w' v.ownBlock) : Sofar w0 w' v' L m (k + 1) := by
  refine ⟨below_row (h.1.alloc h.1.size o) (by have := h.1.size; simp; omega) hg (own_ge h.2), ?_⟩
  rw [shift_snoc hk, List.map_append]; exact hown
theorem Sofar.full {w0 w : World} {v : Value} {L : List Int} {m : Int} {n : Nat} (h : Sofar w0 w v L m n) (hn : L.length = n) (h0 : 0 < w0.heap.size) : ∃ A c, v = .slice A n c ∧ Sl w A n (shift L m) := by
  have ho := h.2
  rw [List.take_of_length_le (by omega)] at ho
  obtain ⟨A, c, e, _, hs⟩ := slR_of_row (R := w0.heap.size - 1) ho (by omega)
  exact ⟨A, c, e, hs.sl⟩
set_option maxHeartbeats 4000000 in
theorem walk_FnDoorRun (a0 : Option Addr) (len0 cap0 : Nat) (z0 : List Int) (w : World) (h0 : IsRow .u8 w a0 len0 cap0 z0) :
    Calls Try.prog 11 #[.slice a0 len0 cap0] w fun e w' => e = .returned (.bool true) ∧ Below w.heap.size w w' := by
  obtain ⟨src, hcap⟩ := srcB_of_row h0
  clear h0
  by_cases hbig : 1048576 < len0
  · go_enter Try.func11, Try.ntmps11
    go_wp2
    go_ret
    exact ⟨rfl, Below.refl _ _⟩
  go_enter Try.func11, Try.ntmps11
  go_wp2_with fail
  refine (c_DrawDoorRun _ _ _ _ _ src (by omega) hcap).mono ?_
  rintro e w1 ⟨a, v, t, A, n, c, LA, A', n', c', LB, hn, hn', hA, hB, hbA, hbB, ha, hv, ⟨t1, t2⟩, rfl, B1⟩
  clear ha hv
  have HLA := Lib.hid hbA; clear hbA
  have HLB := Lib.hid hbB; clear hbB
  have hlA := hA.1
  have hlB := hB.1
  have HLLA := Lib.hid hlA; clear hlA
  have HLLB := Lib.hid hlB; clear hlB
  obtain ⟨i0, hi, hz0, hz1, hz2⟩ := info_parts intInfo'
  rcases hm : doorV a v
  · have hx : (doorRun a v t LA LB).1 = 0 := by unfold doorRun; rw [hm]; rfl
    have hy : (doorRun a v t LA LB).2 = 0 := by unfold doorRun; rw [hm]; rfl
    have HX := Lib.hid hx; clear hx
    have HY := Lib.hid hy; clear hy
    have HM := Lib.hid hm; clear hm
    go_wp2_with fail
    refine (c_drI _ _ _ _ _ _ _ _ _ _ _ _ (hA.alloc _) (by omega) (hB.alloc _) (by omega)).mono ?_
    rintro e w2 ⟨rfl, hb2⟩
    rw [HX.out, HY.out]
    have B2 := stepB (B1.alloc B1.size _) hb2
    have mo2 := (Own2.new _ _ _ _).call hb2
    have c0 := mo2.c0
    have c1 := mo2.c1
    have cl := mo2.lt
    have hA2 := (hA.alloc _).call hb2
    have hB2 := (hB.alloc _).call hb2
    have B3 := B2.alloc B2.size (.cells #[.int .i64 0, .int .i64 0] 35)
    have mo3 := mo2.alloc (.cells #[.int .i64 0, .int .i64 0] 35)
    have hA3 := hA2.alloc (.cells #[.int .i64 0, .int .i64 0] 35)
    have hB3 := hB2.alloc (.cells #[.int .i64 0, .int .i64 0] 35)
    have xo3 := Own2.new w2 (.int .i64 0) (.int .i64 0) 35
    clear c0 c1
    have c0 := mo3.c0
    have c1 := mo3.c1
    have d0 := xo3.c0
    have d1 := xo3.c1
    go_wp2_with fail
    go_region_with (first | (go_at_call 44; refine (c_drS _ _ _ _ _ _ _ _ _ _ _ _ (hA3.drewN 1) (by omega) (hB3.drewN 1) (by omega)).mono ?_; rintro e w4 ⟨rfl, hb4⟩; rw [HX.out, HY.out]; have Bk := stepB B3.drew hb4; have mo4 := mo3.drew.call hb4; have c0' := mo4.c0; have c1' := mo4.c1; have xo4 := xo3.drew.call hb4; have d0' := xo4.c0; have d1' := xo4.c1))
    all_goals
      have B4 := Bk
      clear c0 c1 d0 d1
      have c0 := c0'
      have c1 := c1'
      have cl := mo4.lt
      have d0 := d0'
      have d1 := d1'
      have dl := xo4.lt
      clear c0' c1' d0' d1'
      have hA4 := (hA3.drewN 1).call hb4
      have hB4 := (hB3.drewN 1).call hb4
      go_wp2_with fail
      refine (c_doorVS _ _ _).mono ?_
      rintro e w5 ⟨rfl, hb5⟩
      rw [HM.out]
      have B5 := stepB B4 hb5
      have mo5 := mo4.call hb5
      have xo5 := xo4.call hb5
      clear c0 c1 d0 d1
      have c0 := mo5.c0
      have c1 := mo5.c1
      have cl := mo5.lt
      have d0 := xo5.c0
      have d1 := xo5.c1
      have dl := xo5.lt
      go_wp2_with fail
      refine (c_alive _).mono ?_
      rintro e w6 ⟨rfl, hb6⟩
      go_wp2
      go_ret
      exact ⟨rfl, stepB B5 hb6⟩
  · rcases ht : inB t 0 99
    · have hx : (doorRun a v t LA LB).1 = 0 := by unfold doorRun; rw [hm, ht]; rfl
      have hy : (doorRun a v t LA LB).2 = 0 := by unfold doorRun; rw [hm, ht]; rfl
      have HX := Lib.hid hx; clear hx
      have HY := Lib.hid hy; clear hy
      have HM := Lib.hid hm; clear hm
      have hcase : t < 0 ∨ (decide (t < 0) = false ∧ 99 < t) := by
        by_cases h : t < 0
        · exact .inl h
        · refine .inr ⟨by simpa using h, ?_⟩
          rcases Int.lt_or_le 99 t with h' | h'
          · exact h'
          · rw [inB_mk (by omega) h'] at ht; cases ht
      clear ht
      rcases hcase with hc | ⟨hc, hc'⟩
      all_goals
        go_wp2_with fail
        refine (c_drI _ _ _ _ _ _ _ _ _ _ _ _ (hA.alloc _) (by omega) (hB.alloc _) (by omega)).mono ?_
        rintro e w2 ⟨rfl, hb2⟩
        rw [HX.out, HY.out]
        have B2 := stepB (B1.alloc B1.size _) hb2
        have mo2 := (Own2.new _ _ _ _).call hb2
        have c0 := mo2.c0
        have c1 := mo2.c1
        have cl := mo2.lt
        have hA2 := (hA.alloc _).call hb2
        have hB2 := (hB.alloc _).call hb2
        have B3 := B2.alloc B2.size (.cells #[.int .i64 0, .int .i64 0] 35)
        have mo3 := mo2.alloc (.cells #[.int .i64 0, .int .i64 0] 35)
        have hA3 := hA2.alloc (.cells #[.int .i64 0, .int .i64 0] 35)
        have hB3 := hB2.alloc (.cells #[.int .i64 0, .int .i64 0] 35)
        have xo3 := Own2.new w2 (.int .i64 0) (.int .i64 0) 35
        clear c0 c1
        have c0 := mo3.c0
        have c1 := mo3.c1
        have d0 := xo3.c0
        have d1 := xo3.c1
        go_wp2_with fail
        go_region_with (first | (go_at_call 44; refine (c_drS _ _ _ _ _ _ _ _ _ _ _ _ (hA3.drewN 1) (by omega) (hB3.drewN 1) (by omega)).mono ?_; rintro e w4 ⟨rfl, hb4⟩; rw [HX.out, HY.out]; have Bk := stepB B3.drew hb4; have mo4 := mo3.drew.call hb4; have c0' := mo4.c0; have c1' := mo4.c1; have xo4 := xo3.drew.call hb4; have d0' := xo4.c0; have d1' := xo4.c1))
        all_goals
          have B4 := Bk
          clear c0 c1 d0 d1
          have c0 := c0'
          have c1 := c1'
          have cl := mo4.lt
          have d0 := d0'
          have d1 := d1'
          have dl := xo4.lt
          clear c0' c1' d0' d1'
          have hA4 := (hA3.drewN 1).call hb4
          have hB4 := (hB3.drewN 1).call hb4
          go_wp2_with fail
          refine (c_doorVS _ _ _).mono ?_
          rintro e w5 ⟨rfl, hb5⟩
          rw [HM.out]
          have B5 := stepB B4 hb5
          have mo5 := mo4.call hb5
          have xo5 := xo4.call hb5
          clear c0 c1 d0 d1
          have c0 := mo5.c0
          have c1 := mo5.c1
          have cl := mo5.lt
          have d0 := xo5.c0
          have d1 := xo5.c1
          have dl := xo5.lt
          go_wp2_with fail
          refine (c_alive _).mono ?_
          rintro e w6 ⟨rfl, hb6⟩
          go_wp2
          go_ret
          exact ⟨rfl, stepB B5 hb6⟩
    · obtain ⟨x, hx⟩ : ∃ x, (doorRun a v t LA LB).1 = x := ⟨_, rfl⟩
      obtain ⟨y, hy⟩ : ∃ y, (doorRun a v t LA LB).2 = y := ⟨_, rfl⟩
      have hadd := doorRun_add (A := LA) (B := LB) hm ht
      have hsh := doorRun_shut ht LB
      obtain ⟨p, hp⟩ : ∃ p, (doorRun a v (t / 2) LA LB).1 = p := ⟨_, rfl⟩
      obtain ⟨q, hq⟩ : ∃ q, (doorRun a v (t / 2) LA LB).2 = q := ⟨_, rfl⟩
      rw [hp, hq] at hadd
      have hq1 : (doorRun p q (t - (t / 2)) (shift LA (t / 2)) (shift LB (t / 2))).1 = x := by rw [hadd]; exact hx
      have hq2 : (doorRun p q (t - (t / 2)) (shift LA (t / 2)) (shift LB (t / 2))).2 = y := by rw [hadd]; exact hy
      obtain ⟨t3, t4⟩ := inB_iff.1 ht
      have dt : decide (t < 0) = false := by simp; omega
      have f1 : 0 ≤ (t / 2) := by omega
      have f2 : (t / 2) ≤ 49 := by omega
      have f3 : (t / 2) ≤ t := by omega
      clear hadd ht
      have HX := Lib.hid hx; clear hx
      have HY := Lib.hid hy; clear hy
      have HM := Lib.hid hm; clear hm
      have HP1 := Lib.hid hp; clear hp
      have HP2 := Lib.hid hq; clear hq
      have HQ1 := Lib.hid hq1; clear hq1
      have HQ2 := Lib.hid hq2; clear hq2
      have HSH := Lib.hid hsh; clear hsh
      go_wp2_with fail
      refine (c_drI _ _ _ _ _ _ _ _ _ _ _ _ (hA.alloc _) (by omega) (hB.alloc _) (by omega)).mono ?_
      rintro e w2 ⟨rfl, hb2⟩
      rw [HX.out, HY.out]
      have B2 := stepB (B1.alloc B1.size _) hb2
      have mo2 := (Own2.new _ _ _ _).call hb2
      have c0 := mo2.c0
      have c1 := mo2.c1
      have cl := mo2.lt
      have hA2 := (hA.alloc _).call hb2
      have hB2 := (hB.alloc _).call hb2
      have B3 := B2.alloc B2.size (.cells #[.int .i64 x, .int .i64 y] 35)
      have mo3 := mo2.alloc (.cells #[.int .i64 x, .int .i64 y] 35)
      have hA3 := hA2.alloc (.cells #[.int .i64 x, .int .i64 y] 35)
      have hB3 := hB2.alloc (.cells #[.int .i64 x, .int .i64 y] 35)
      have xo3 := Own2.new w2 (.int .i64 x) (.int .i64 y) 35
      clear c0 c1
      have c0 := mo3.c0
      have c1 := mo3.c1
      have d0 := xo3.c0
      have d1 := xo3.c1
      go_wp2_with fail
      go_region_with (first | (go_at_call 44; refine (c_drS _ _ _ _ _ _ _ _ _ _ _ _ (hA3.drewN 1) (by omega) (hB3.drewN 1) (by omega)).mono ?_; rintro e w4 ⟨rfl, hb4⟩; rw [HX.out, HY.out]; have Bk := stepB B3.drew hb4; have mo4 := mo3.drew.call hb4; have c0' := mo4.c0; have c1' := mo4.c1; have xo4 := xo3.drew.call hb4; have d0' := xo4.c0; have d1' := xo4.c1))
      all_goals
        have B4 := Bk
        clear c0 c1 d0 d1
        have c0 := c0'
        have c1 := c1'
        have cl := mo4.lt
        have d0 := d0'
        have d1 := d1'
        have dl := xo4.lt
        clear c0' c1' d0' d1'
        have hA4 := (hA3.drewN 1).call hb4
        have hB4 := (hB3.drewN 1).call hb4
        go_wp2_with fail
        refine (c_doorVS _ _ _).mono ?_
        rintro e w5 ⟨rfl, hb5⟩
        rw [HM.out]
        have B5 := stepB B4 hb5
        have mo5 := mo4.call hb5
        have xo5 := xo4.call hb5
        clear c0 c1 d0 d1
        have c0 := mo5.c0
        have c1 := mo5.c1
        have cl := mo5.lt
        have d0 := xo5.c0
        have d1 := xo5.c1
        have dl := xo5.lt
        have hA5 := hA4.call hb5
        have hB5 := hB4.call hb5
        go_wp2
        clear c0 c1 cl d0 d1 dl
        go_loopw [9, 10] (fun s9 s10 wr => ∃ k : Nat, k ≤ n ∧ s10 = .int .i64 (k : Int) ∧ Sofar w5 wr s9 LA (t / 2) k) (fun _ s10 _ => n - (intOf s10).toNat)
        case atStart => exact ⟨0, by omega, rfl, Sofar.begin _ _ _⟩
        case round =>
          obtain ⟨k, hk, rfl, SF⟩ := hrel
          by_cases hlt : k < n
          · obtain ⟨b, o, rfl, hbl, hc⟩ := hA5.2 (by omega)
            have ck : wr.cell? ⟨b, o + k, none⟩ = some (.int .i64 (nth LA k)) := (SF.1.cell (p := ⟨b, o + k, none⟩) hbl).trans (hc k hlt)
            clear hc
            have i1 : (k : Int) < (n : Int) := by omega
            obtain ⟨b1, b2⟩ := bd_nth HLA.out (k := k) (by rw [HLLA.out]; exact hlt)
            have hSF := SF.2.alloc (.cells #[.int .i64 (nth LA k - (t / 2))] 3)
            have HSF := Lib.hid hSF; clear hSF
            have HS := Lib.hid SF; clear SF
            go_wp2_with (at_builtin; refine wpList_append_own_at _ rfl _ _ 41 rfl w5.heap.size 3 i0 (.int .i64 0) 1 8 Try.underlying41 hi hz0 hz1 hz2 rfl (by decide) _ _ _ rfl HSF.out ⟨wr.heap.size, 0, none⟩ 1 1 [.int .i64 (nth LA k - (t / 2))] rfl rfl (cell_one_new _ _ _) (ints_oneCell .i64 [_]) (by unfold maxLen; omega) (by omega) (by have := HS.out.1.size; simp; omega) ?_; intro v' w8 hown' hgrow hnil hloc)
            have SF' := HS.out.more (by rw [HLLA.out]; exact hlt) _ hown' hgrow
            clear hown' hgrow hnil hloc HSF
            have HS' := Lib.hid SF'; clear SF'
            go_wp2
            go_roundw
            case rel => exact ⟨k + 1, by omega, by go_num, HS'.out⟩
            case measure => simp [intOf]; omega
          · obtain rfl : n = k := by omega
            obtain ⟨AX, cX, rfl, hX⟩ := SF.full HLLA.out (by have := mo5.lt; omega)
            obtain ⟨w6, hw6⟩ : ∃ w6, w6 = wr := ⟨_, rfl⟩
            subst hw6
            have B6 := stepB B5 SF.1
            have mo6 := mo5.call SF.1
            have xo6 := xo5.call SF.1
            have hA6 := hA5.call SF.1
            have hB6 := hB5.call SF.1
            have hl6 := mo6.lt
            clear SF
            go_wp2
            go_loopw [11, 12] (fun s9 s10 wr => ∃ k : Nat, k ≤ n' ∧ s10 = .int .i64 (k : Int) ∧ Sofar w6 wr s9 LB (t / 2) k) (fun _ s10 _ => n' - (intOf s10).toNat)
            case atStart => exact ⟨0, by omega, rfl, Sofar.begin _ _ _⟩
            case round =>
              obtain ⟨k, hk, rfl, SF⟩ := hrel
              by_cases hlt : k < n'
              · obtain ⟨b, o, rfl, hbl, hc⟩ := hB6.2 (by omega)
                have ck : wr.cell? ⟨b, o + k, none⟩ = some (.int .i64 (nth LB k)) := (SF.1.cell (p := ⟨b, o + k, none⟩) hbl).trans (hc k hlt)
                clear hc
                have i1 : (k : Int) < (n' : Int) := by omega
                obtain ⟨b1, b2⟩ := bd_nth HLB.out (k := k) (by rw [HLLB.out]; exact hlt)
                have hSF := SF.2.alloc (.cells #[.int .i64 (nth LB k - (t / 2))] 3)
                have HSF := Lib.hid hSF; clear hSF
                have HS := Lib.hid SF; clear SF
                go_wp2_with (at_builtin; refine wpList_append_own_at _ rfl _ _ 41 rfl w6.heap.size 3 i0 (.int .i64 0) 1 8 Try.underlying41 hi hz0 hz1 hz2 rfl (by decide) _ _ _ rfl HSF.out ⟨wr.heap.size, 0, none⟩ 1 1 [.int .i64 (nth LB k - (t / 2))] rfl rfl (cell_one_new _ _ _) (ints_oneCell .i64 [_]) (by unfold maxLen; omega) (by omega) (by have := HS.out.1.size; simp; omega) ?_; intro v' w8 hown' hgrow hnil hloc)
                have SF' := HS.out.more (by rw [HLLB.out]; exact hlt) _ hown' hgrow
                clear hown' hgrow hnil hloc HSF
                have HS' := Lib.hid SF'; clear SF'
                go_wp2
                go_roundw
                case rel => exact ⟨k + 1, by omega, by go_num, HS'.out⟩
                case measure => simp [intOf]; omega
              · obtain rfl : n' = k := by omega
                obtain ⟨AY, cY, rfl, hY⟩ := SF.full HLLB.out (by omega)
                have B7 := stepB B6 SF.1
                have mo7 := mo6.call SF.1
                have xo7 := xo6.call SF.1
                have hA7 := hA6.call SF.1
                have hB7 := hB6.call SF.1
                have hX7 := hX.call SF.1
                clear SF
                have c0 := mo7.c0
                have c1 := mo7.c1
                have cl := mo7.lt
                have d0 := xo7.c0
                have d1 := xo7.c1
                have dl := xo7.lt
                go_wp2_with fail
                refine (c_drI _ _ _ _ _ _ _ _ _ _ _ _ hA7 (by omega) hB7 (by omega)).mono ?_
                rintro e w8 ⟨rfl, hb8⟩
                rw [HP1.out, HP2.out]
                have B8 := stepB B7 hb8
                have mo8 := mo7.call hb8
                have xo8 := xo7.call hb8
                clear c0 c1 d0 d1
                have c0 := mo8.c0
                have c1 := mo8.c1
                have cl := mo8.lt
                have d0 := xo8.c0
                have d1 := xo8.c1
                have dl := xo8.lt
                go_wp2_with fail
                refine (c_drI _ _ _ _ _ _ _ _ _ _ _ _ (hX7.call hb8) (by omega) (hY.call hb8) (by omega)).mono ?_
                rintro e w9 ⟨rfl, hb9⟩
                rw [HQ1.out, HQ2.out]
                have B9 := stepB B8 hb9
                have mo9 := mo8.call hb9
                have xo9 := xo8.call hb9
                clear c0 c1 d0 d1
                have c0 := mo9.c0
                have c1 := mo9.c1
                have cl := mo9.lt
                have d0 := xo9.c0
                have d1 := xo9.c1
                have dl := xo9.lt
                have B9' := B9.alloc B9.size (.cells #[.int .i64 x, .int .i64 y] 35)
                have hB9 := ((hB7.call hb8).call hb9).alloc (.cells #[.int .i64 x, .int .i64 y] 35)
                have mo9' := mo9.alloc (.cells #[.int .i64 x, .int .i64 y] 35)
                have xo9' := xo9.alloc (.cells #[.int .i64 x, .int .i64 y] 35)
                have yo := Own2.new w9 (.int .i64 x) (.int .i64 y) 35
                clear c0 c1 d0 d1
                have d0 := xo9'.c0
                have d1 := xo9'.c1
                have y0 := yo.c0
                have y1 := yo.c1
                go_wp2_with fail
                refine (c_drI _ _ _ _ _ _ [] _ _ _ _ _ (Sl.nil _ _) (by omega) hB9 (by omega)).mono ?_
                rintro e w10 ⟨rfl, hb10⟩
                rw [HSH.out]
                go_wp2
                go_ret
                exact ⟨rfl, stepB B9' hb10⟩
namespace fnDoorRun
set_option linter.unusedVariables false
set_option maxRecDepth 100000 in
theorem lifted (os : Os) (started : os.Started) (H : Type) (enc : TypeId × Value → H) :
    ReturnsInHanded {} Try.checked os 11 .any (Rows.fnDoorRunSpec.pre6 enc Try.prog Try.f11 Rows.fnDoorRunRow.domain false) (Rows.fnDoorRunSpec.post enc Try.prog Try.f11 false true false false) := by
  refine returnsInHanded_of_change (C := Try.checked) own started (by kernel_rfl) Try.func11
    (ChangeSpec.witness6 (enc := enc) (C := Try.checked) false ⟨#[], #[.slice none 0 0], []⟩ 8 (by kernel_rfl) (by kernel_rfl) (by kernel_rfl) (by kernel_rfl)) ?_
  intro W base args ds gs before hval0 hW hcnd _
  have hval : ∀ (j : Nat) t v, Try.f11.params[j]? = some t → args[j]? = some v → Value.okWide Try.prog W .any base t v := hval0
  have hW' := hW
  obtain ⟨p, q, hA0, hV, rfl, hfz, hnd⟩ := hW
  have hA : DataW.TrodAll enc Try.prog W 0 (fun _ => true) true Try.f11.params.toList args.toList ds p := hA0
  rw [Try.params11] at hA hval
  obtain ⟨v0, vs0, d0, ds0, p0, q0, hargs, rfl, rfl, h0, r0⟩ := trodAll_cons hA
  obtain ⟨rfl, rfl, rfl⟩ := trodAll_nil r0
  obtain rfl : args = #[v0] := by cases args; simp_all
  obtain ⟨rfl, rfl⟩ := trodVars_none hV
  have k0 := h0
  have lt0 : ∀ x ∈ p0, x.block < W.heap.size := by obtain ⟨m, hm⟩ := k0; exact DataW.trod_lt m _ _ _ hm
  obtain ⟨a0, len0, cap0, rfl⟩ := okWide_slice Try.underlying22 (hval 0 22 v0 rfl rfl)
  obtain ⟨z0, w0⟩ : ∃ zs, IsRow .u8 W a0 len0 cap0 zs := by
    obtain ⟨fuel, hf⟩ := h0
    rcases open_ints Try.underlying22 Try.underlying5 (by kernel_rfl) hf with ⟨hcs, _⟩ | ⟨x, l, c, zs, hcs, _, hl, hm, hz, _, hcell, hwz⟩
    · simp [Value.cells] at hcs
      obtain ⟨rfl, rfl, rfl⟩ := hcs
      exact ⟨[], .inl ⟨rfl, rfl, rfl, rfl⟩⟩
    · simp [Value.cells] at hcs
      obtain ⟨rfl, rfl, rfl⟩ := hcs
      exact ⟨zs, .inr ⟨_, rfl, hl, hm, by simpa using hz, hcell, hwz⟩⟩
  clear hA0 hval0
  refine (walk_FnDoorRun a0 len0 cap0 z0 W w0).mono fun e W' ⟨he, bel⟩ => ?_
  subst he
  exact ⟨_, rfl, _, _, _, [], _, [], hW', trodAll_mk1 (shut_bool Try.underlying4 _), (trodAll_cons_mk (Below.trod laidOut (by kernel_rfl) (of_decide_eq_true (by kernel_rfl)) k0 bel lt0) trodAll_mk0), rfl, bel.frame _, fun h => by cases h⟩
theorem over : Rows.fnDoorRunRow.holds Try.pinned (OpenSpec.ofChange Rows.fnDoorRunSpec) :=
  OpenClaim.holds_of_wide 11 Try.f11 rfl rfl rfl rfl rfl rfl rfl ⟨rfl, rfl, rfl, rfl, rfl⟩ rfl rfl rfl rfl rfl (by kernel_rfl) Try.func11 (by kernel_rfl)
    (of_decide_eq_true (by kernel_rfl)) (by unfold Func.isWrapper; first | (rw [if_pos (by decide +kernel)]; kernel_rfl) | (rw [if_neg (by decide +kernel)]; exact ⟨rfl, rfl⟩))
    (fun os started H enc _ => lifted os started H enc)
/-- The statement. -/
theorem proved : Rows.FnDoorRunSaid := over
end fnDoorRun
#print axioms fnDoorRun.proved
end Go.Proofs.Ytjnoejlccbfcjaa
