/- FnLiftVisit returns true for every code: in the end every door opens at its floor. No conditions. -/
import Derived.Test.YthmjmlblnikmaaaOpn
import Derived.Test.YthmjmlblnikmaaaDraL
import Derived.Test.YthmjmlblnikmaaaLiV
import Derived.Deep.QuietTactic
import Derived.BigQuiet
namespace Go.Proofs.Ythmjmlblnikmaaa
open Go.ChangeShapes Go.WideShapes Go.ChangeAt Go.RowKit Go.Joins Pl
/-- What a visit keeps. -/
def VisR (L : List Int) (k : Nat) (a0 : Int) (N m : Nat) (x : Car) : Prop := liftV L x.a x.v x.g x.h = true ∧ visT L x k + m = N ∧ OpenAt L k a0 x
theorem visR_end {L : List Int} {k N : Nat} {a0 : Int} {x : Car} (hk : k < L.length) (h : VisR L k a0 N N x) : x.a = nth L k ∧ x.v = 0 ∧ x.g = 4 := by
  obtain ⟨hv, ht, _⟩ := h
  have hd : visDone L x k = true := by
    rcases hd : visDone L x k
    · have := visT_step hv hk hd; omega
    · rfl
  obtain ⟨h1, _, _, _⟩ := liftV_iff.1 hv
  simp only [visDone, Bool.and_eq_true, beq_iff_eq] at hd
  have := (here_iff h1 hk).1 hd.1
  exact ⟨this.1, this.2, hd.2⟩
theorem visR_step {L : List Int} {k N m : Nat} {a0 : Int} {x y : Car} (hk : k < L.length) (h : VisR L k a0 N m x) (hd : visDone L x k = false) (hy : visStep L x k = y) :
    VisR L k a0 N (m + 1) y ∧ (decide (0 < y.g) = false ∨ (0 < y.g ∧ (y.a != a0) = false) ∨ (0 < y.g ∧ (y.a != a0) = true ∧ (y.a != nth L k) = false)) := by
  subst hy
  obtain ⟨hv, ht, ho⟩ := h
  have h1 := visT_step hv hk hd
  have h2 := open_step hv hk ho
  refine ⟨⟨visStep_valid hv hk, by omega, h2⟩, ?_⟩
  by_cases hg : 0 < (visStep L x k).g
  · by_cases he : (visStep L x k).a = a0
    · exact .inr (.inl ⟨hg, by simp [he]⟩)
    · rcases h2 hg with h3 | h3
      · exact absurd h3 he
      · exact .inr (.inr ⟨hg, by simp [he], by simp [h3]⟩)
  · exact .inl (decide_eq_false hg)
theorem c_lstI_at (A : Option Addr) (n c : Nat) (L : List Int) (a v g h t : Int) (ask bl : Bool) (w : World) (ra rv rg rh : Int) (hr : liftStep L ⟨a, v, g, h⟩ t ask bl = ⟨ra, rv, rg, rh⟩) (hS : Sl w A n L) (hn : n ≤ 2097152) :
    Calls Try.prog 12 #[.slice A n c, .agg #[.int .i64 a, .int .i64 v, .int .i64 g, .int .i64 h], .int .i64 t, .bool ask, .bool bl] w fun e w' => e = .returned (.agg #[.int .i64 ra, .int .i64 rv, .int .i64 rg, .int .i64 rh]) ∧ Below w.heap.size w w' := by
  have h := c_lstI A n c L a v g h t ask bl w hS hn
  rw [hr] at h
  exact h
set_option maxHeartbeats 8000000 in
theorem walk_FnLiftVisit (a0 : Option Addr) (len0 cap0 : Nat) (z0 : List Int) (w : World) (h0 : IsRow .u8 w a0 len0 cap0 z0) :
    Calls Try.prog 5 #[.slice a0 len0 cap0] w fun e w' => e = .returned (.bool true) ∧ Below w.heap.size w w' := by
  obtain ⟨src, hcap⟩ := srcB_of_row h0
  clear h0
  by_cases hbig : 1048576 < len0
  · go_enter Try.func5, Try.ntmps5
    go_wp2
    go_ret
    exact ⟨rfl, Below.refl _ _⟩
  go_enter Try.func5, Try.ntmps5
  go_wp2_with fail
  refine (c_DrawLiftVisit _ _ _ _ _ src (by omega) hcap).mono ?_
  rintro e w1 ⟨A, n, cp, L, a, v, g, h, t, hn, hc, s0, rfl, B1⟩
  have hl := s0.1
  have HL := Lib.hid hl; clear hl
  have s1 := SlA.of s0
  clear s0
  have lb : w.heap.size ≤ w1.heap.size := B1.size
  rcases go_cases L a v g h t with ⟨_, _, hz⟩ | ⟨_, _, _, hz⟩ | ⟨k, hk, rfl, hv, _, _, hz⟩
  · have HZ := Lib.hid hz; clear hz
    have B1 := B1.alloc B1.size (.cells #[.int .i64 a, .int .i64 v, .int .i64 g, .int .i64 h] 29)
    have s1 := s1.alloc (.cells #[.int .i64 a, .int .i64 v, .int .i64 g, .int .i64 h] 29)
    have x1 := Own4.new w1 (.int .i64 a) (.int .i64 v) (.int .i64 g) (.int .i64 h) 29
    have o0 := x1.c0
    have o1 := x1.c1
    have o2 := x1.c2
    have o3 := x1.c3
    have oz0 := x1.f0
    have oz1 := x1.f1
    have oz2 := x1.f2
    have oz3 := x1.f3
    have ol := x1.lt
    go_wp2_with fail
    refine (c_viI _ _ _ _ _ _ _ _ _ _ s1.slR.sl (by omega)).mono ?_
    rintro e w2 ⟨rfl, hb2⟩
    rw [HZ.out]
    have B2 := stepB B1 hb2
    have s2 := s1.call hb2
    clear o0 oz0 o1 oz1 o2 oz2 o3 oz3 ol
    have x2 := x1.call hb2
    have o0 := x2.c0
    have o1 := x2.c1
    have o2 := x2.c2
    have o3 := x2.c3
    have oz0 := x2.f0
    have oz1 := x2.f1
    have oz2 := x2.f2
    have oz3 := x2.f3
    have ol := x2.lt
    clear hb2
    go_wp2_with fail
    refine (c_viS _ _ _ _ _ _ _ _ _ _ s2.slR.sl (by omega)).mono ?_
    rintro e w3 ⟨rfl, hb3⟩
    rw [HZ.out]
    have B3 := stepB B2 hb3
    have s3 := s2.call hb3
    clear o0 oz0 o1 oz1 o2 oz2 o3 oz3 ol
    have x3 := x2.call hb3
    have o0 := x3.c0
    have o1 := x3.c1
    have o2 := x3.c2
    have o3 := x3.c3
    have oz0 := x3.f0
    have oz1 := x3.f1
    have oz2 := x3.f2
    have oz3 := x3.f3
    have ol := x3.lt
    clear hb3
    go_wp2_with fail
    refine (c_alive _).mono ?_
    rintro e w4 ⟨rfl, hb4⟩
    go_wp2
    go_ret
    exact ⟨rfl, stepB B3 hb4⟩
  · have HZ := Lib.hid hz; clear hz
    have B1 := B1.alloc B1.size (.cells #[.int .i64 a, .int .i64 v, .int .i64 g, .int .i64 h] 29)
    have s1 := s1.alloc (.cells #[.int .i64 a, .int .i64 v, .int .i64 g, .int .i64 h] 29)
    have x1 := Own4.new w1 (.int .i64 a) (.int .i64 v) (.int .i64 g) (.int .i64 h) 29
    have o0 := x1.c0
    have o1 := x1.c1
    have o2 := x1.c2
    have o3 := x1.c3
    have oz0 := x1.f0
    have oz1 := x1.f1
    have oz2 := x1.f2
    have oz3 := x1.f3
    have ol := x1.lt
    go_wp2_with fail
    refine (c_viI _ _ _ _ _ _ _ _ _ _ s1.slR.sl (by omega)).mono ?_
    rintro e w2 ⟨rfl, hb2⟩
    rw [HZ.out]
    have B2 := stepB B1 hb2
    have s2 := s1.call hb2
    clear o0 oz0 o1 oz1 o2 oz2 o3 oz3 ol
    have x2 := x1.call hb2
    have o0 := x2.c0
    have o1 := x2.c1
    have o2 := x2.c2
    have o3 := x2.c3
    have oz0 := x2.f0
    have oz1 := x2.f1
    have oz2 := x2.f2
    have oz3 := x2.f3
    have ol := x2.lt
    clear hb2
    go_wp2_with fail
    refine (c_viS _ _ _ _ _ _ _ _ _ _ s2.slR.sl (by omega)).mono ?_
    rintro e w3 ⟨rfl, hb3⟩
    rw [HZ.out]
    have B3 := stepB B2 hb3
    have s3 := s2.call hb3
    clear o0 oz0 o1 oz1 o2 oz2 o3 oz3 ol
    have x3 := x2.call hb3
    have o0 := x3.c0
    have o1 := x3.c1
    have o2 := x3.c2
    have o3 := x3.c3
    have oz0 := x3.f0
    have oz1 := x3.f1
    have oz2 := x3.f2
    have oz3 := x3.f3
    have ol := x3.lt
    clear hb3
    go_wp2_with fail
    refine (c_alive _).mono ?_
    rintro e w4 ⟨rfl, hb4⟩
    go_wp2
    go_ret
    exact ⟨rfl, stepB B3 hb4⟩
  · have hk' : k < n := by rw [← HL.out]; exact hk
    have i1 : (k : Int) < (n : Int) := by omega
    have hle := visT_le (x := ⟨a, v, g, h⟩) hv hk
    have hrel0 : VisR L k a (visT L ⟨a, v, g, h⟩ k) 0 ⟨a, v, g, h⟩ := ⟨hv, by omega, fun _ => .inl rfl⟩
    obtain ⟨N, hN⟩ : ∃ N, visT L ⟨a, v, g, h⟩ k = N := ⟨_, rfl⟩
    rw [hN] at hz hrel0 hle
    clear hN hv
    have HK := Lib.hid hk; clear hk
    have HZ := Lib.hid hz; clear hz
    have HE := Lib.hid hrel0; clear hrel0
    obtain ⟨b, o, rfl, _, _, _, _⟩ := s1.2 (by omega)
    have B1 := B1.alloc B1.size (.cells #[.int .i64 a, .int .i64 v, .int .i64 g, .int .i64 h] 29)
    have s1 := s1.alloc (.cells #[.int .i64 a, .int .i64 v, .int .i64 g, .int .i64 h] 29)
    have x1 := Own4.new w1 (.int .i64 a) (.int .i64 v) (.int .i64 g) (.int .i64 h) 29
    have o0 := x1.c0
    have o1 := x1.c1
    have o2 := x1.c2
    have o3 := x1.c3
    have oz0 := x1.f0
    have oz1 := x1.f1
    have oz2 := x1.f2
    have oz3 := x1.f3
    have ol := x1.lt
    go_wp2_with fail
    refine (c_viI _ _ _ _ _ _ _ _ _ _ s1.slR.sl (by omega)).mono ?_
    rintro e w2 ⟨rfl, hb2⟩
    rw [HZ.out]
    have B2 := stepB B1 hb2
    have s2 := s1.call hb2
    clear o0 oz0 o1 oz1 o2 oz2 o3 oz3 ol
    have x2 := x1.call hb2
    have o0 := x2.c0
    have o1 := x2.c1
    have o2 := x2.c2
    have o3 := x2.c3
    have oz0 := x2.f0
    have oz1 := x2.f1
    have oz2 := x2.f2
    have oz3 := x2.f3
    have ol := x2.lt
    clear hb2
    go_wp2_with fail
    refine (c_viS _ _ _ _ _ _ _ _ _ _ s2.slR.sl (by omega)).mono ?_
    rintro e w3 ⟨rfl, hb3⟩
    rw [HZ.out]
    have B3 := stepB B2 hb3
    have s3 := s2.call hb3
    clear o0 oz0 o1 oz1 o2 oz2 o3 oz3 ol
    have x3 := x2.call hb3
    have o0 := x3.c0
    have o1 := x3.c1
    have o2 := x3.c2
    have o3 := x3.c3
    have oz0 := x3.f0
    have oz1 := x3.f1
    have oz2 := x3.f2
    have oz3 := x3.f3
    have ol := x3.lt
    clear hb3
    go_wp2
    clear o0 oz0 o1 oz1 o2 oz2 o3 oz3 ol
    go_loopw [8] (fun s wr => ∃ (m : Nat) (a' v' g' h' : Int), m ≤ N ∧ s = .int .i64 (m : Int) ∧ VisR L k a N m ⟨a', v', g', h'⟩ ∧ Below w.heap.size w wr ∧ Own4 wr w1.heap.size (.int .i64 a') (.int .i64 v') (.int .i64 g') (.int .i64 h') ∧ SlA wr w.heap.size w1.heap.size (some ⟨b, o, none⟩) n L) (fun s _ => N - (intOf s).toNat)
    case atStart => exact ⟨0, a, v, g, h, by omega, rfl, HE.out, B3, x3, s3⟩
    case round =>
      clear B1 B2 B3 x1 x2 x3 s1 s2 s3 HE
      obtain ⟨m, a', v', g', h', hm, rfl, hR, B4, x4, s4⟩ := hrel
      have o0 := x4.c0
      have o1 := x4.c1
      have o2 := x4.c2
      have o3 := x4.c3
      have oz0 := x4.f0
      have oz1 := x4.f1
      have oz2 := x4.f2
      have oz3 := x4.f3
      have ol := x4.lt
      have ck := sla_cell s4 hk'
      by_cases hlt : m < N
      · have hvt := hR.2.1
        have HR := Lib.hid hR
        rcases vis_cases hR.1 HK.out with ⟨y0, y1, _, e2, e3⟩ | ⟨rfl, _, y1, _, e2, e3⟩ | ⟨rfl, rfl, _, _, _, e2, e3⟩ | ⟨_, _, _, _, e2⟩
        · clear y0 hR hvt
          obtain ⟨ra, rv, rg, rh, hr⟩ : ∃ ra rv rg rh, liftStep L ⟨a', v', g', h'⟩ (k : Int) false false = ⟨ra, rv, rg, rh⟩ := ⟨_, _, _, _, rfl⟩
          obtain ⟨hR, hways⟩ := visR_step HK.out HR.out e2 (e3.trans hr)
          have HR2 := Lib.hid hR; clear hR e2 e3
          have HS := Lib.hid hr; clear hr
          rcases hways with k1 | ⟨k1, k2⟩ | ⟨k1, k2, k3⟩
          all_goals
            go_wp2
            go_quiet (fail)
            generalize hw5 : wr.drewN nq = w5
            have hb5 : Below wr.heap.size wr w5 := DN.below ⟨nq, hw5.symm⟩
            clear hw5
            have B5 := stepB B4 hb5
            have s5 := s4.call hb5
            clear o0 oz0 o1 oz1 o2 oz2 o3 oz3 ol
            have x5 := x4.call hb5
            have o0 := x5.c0
            have o1 := x5.c1
            have o2 := x5.c2
            have o3 := x5.c3
            have oz0 := x5.f0
            have oz1 := x5.f1
            have oz2 := x5.f2
            have oz3 := x5.f3
            have ol := x5.lt
            clear hb5
            have ck := sla_cell s5 hk'
            clear ck
            go_wp2_with fail
            refine (c_lstI_at _ _ _ _ _ _ _ _ _ _ _ _ _ _ _ _ HS.out s5.slR.sl (by omega)).mono ?_
            rintro e w6 ⟨rfl, hb6⟩
            have B6 := stepB B5 hb6
            have s6 := s5.call hb6
            clear o0 oz0 o1 oz1 o2 oz2 o3 oz3 ol
            have x6 := x5.call hb6
            have o0 := x6.c0
            have o1 := x6.c1
            have o2 := x6.c2
            have o3 := x6.c3
            have oz0 := x6.f0
            have oz1 := x6.f1
            have oz2 := x6.f2
            have oz3 := x6.f3
            have ol := x6.lt
            clear hb6
            clear o0 oz0 o1 oz1 o2 oz2 o3 oz3 ol
            have x7 := (((x6.set0 (.int .i64 ra)).set1 (.int .i64 rv)).set2 (.int .i64 rg)).set3 (.int .i64 rh)
            have s7 := (((s6.put (p := ⟨w1.heap.size, 0, none⟩) (.inr (by simp)) (.int .i64 ra)).put (p := ⟨w1.heap.size, 1, none⟩) (.inr (by simp)) (.int .i64 rv)).put (p := ⟨w1.heap.size, 2, none⟩) (.inr (by simp)) (.int .i64 rg)).put (p := ⟨w1.heap.size, 3, none⟩) (.inr (by simp)) (.int .i64 rh)
            have B7 := (((B6.setCell (p := ⟨w1.heap.size, 0, none⟩) (by simp; omega) (.int .i64 ra)).setCell (p := ⟨w1.heap.size, 1, none⟩) (by simp; omega) (.int .i64 rv)).setCell (p := ⟨w1.heap.size, 2, none⟩) (by simp; omega) (.int .i64 rg)).setCell (p := ⟨w1.heap.size, 3, none⟩) (by simp; omega) (.int .i64 rh)
            have oz0 := x6.f0
            have oz1 := x6.f1
            have oz2 := x6.f2
            have oz3 := x6.f3
            have o0 := x6.c0
            have o1 := x6.c1
            have o2 := x6.c2
            have o3 := x6.c3
            have ol := x6.lt
            go_wp2
            generalize hw7 : ((((w6.setCell ⟨w1.heap.size, 0, none⟩ (.int .i64 ra)).setCell ⟨w1.heap.size, 1, none⟩ (.int .i64 rv)).setCell ⟨w1.heap.size, 2, none⟩ (.int .i64 rg)).setCell ⟨w1.heap.size, 3, none⟩ (.int .i64 rh)) = w7
            rw [hw7] at x7 s7 B7
            clear hw7
            clear o0 oz0 o1 oz1 o2 oz2 o3 oz3 ol
            have o0 := x7.c0
            have o1 := x7.c1
            have o2 := x7.c2
            have o3 := x7.c3
            have oz0 := x7.f0
            have oz1 := x7.f1
            have oz2 := x7.f2
            have oz3 := x7.f3
            have ol := x7.lt
            have ck := sla_cell s7 hk'
            go_quiet (fail)
            generalize hw8 : w7.drewN nq = w8
            have hb8 : Below w7.heap.size w7 w8 := DN.below ⟨nq, hw8.symm⟩
            clear hw8
            have B8 := stepB B7 hb8
            have s8 := s7.call hb8
            clear o0 oz0 o1 oz1 o2 oz2 o3 oz3 ol
            have x8 := x7.call hb8
            have o0 := x8.c0
            have o1 := x8.c1
            have o2 := x8.c2
            have o3 := x8.c3
            have oz0 := x8.f0
            have oz1 := x8.f1
            have oz2 := x8.f2
            have oz3 := x8.f3
            have ol := x8.lt
            clear hb8
            go_wp2
            go_roundw
            case rel => exact ⟨m + 1, ra, rv, rg, rh, by omega, by go_num, HR2.out, B8, x8, s8⟩
            case measure => simp [intOf]; omega
        · clear hR hvt
          obtain ⟨ra, rv, rg, rh, hr⟩ : ∃ ra rv rg rh, liftStep L ⟨nth L k, v', g', h'⟩ (k : Int) false false = ⟨ra, rv, rg, rh⟩ := ⟨_, _, _, _, rfl⟩
          obtain ⟨hR, hways⟩ := visR_step HK.out HR.out e2 (e3.trans hr)
          have HR2 := Lib.hid hR; clear hR e2 e3
          have HS := Lib.hid hr; clear hr
          rcases hways with k1 | ⟨k1, k2⟩ | ⟨k1, k2, k3⟩
          all_goals
            go_wp2
            go_quiet (fail)
            generalize hw5 : wr.drewN nq = w5
            have hb5 : Below wr.heap.size wr w5 := DN.below ⟨nq, hw5.symm⟩
            clear hw5
            have B5 := stepB B4 hb5
            have s5 := s4.call hb5
            clear o0 oz0 o1 oz1 o2 oz2 o3 oz3 ol
            have x5 := x4.call hb5
            have o0 := x5.c0
            have o1 := x5.c1
            have o2 := x5.c2
            have o3 := x5.c3
            have oz0 := x5.f0
            have oz1 := x5.f1
            have oz2 := x5.f2
            have oz3 := x5.f3
            have ol := x5.lt
            clear hb5
            have ck := sla_cell s5 hk'
            clear ck
            go_wp2_with fail
            refine (c_lstI_at _ _ _ _ _ _ _ _ _ _ _ _ _ _ _ _ HS.out s5.slR.sl (by omega)).mono ?_
            rintro e w6 ⟨rfl, hb6⟩
            have B6 := stepB B5 hb6
            have s6 := s5.call hb6
            clear o0 oz0 o1 oz1 o2 oz2 o3 oz3 ol
            have x6 := x5.call hb6
            have o0 := x6.c0
            have o1 := x6.c1
            have o2 := x6.c2
            have o3 := x6.c3
            have oz0 := x6.f0
            have oz1 := x6.f1
            have oz2 := x6.f2
            have oz3 := x6.f3
            have ol := x6.lt
            clear hb6
            clear o0 oz0 o1 oz1 o2 oz2 o3 oz3 ol
            have x7 := (((x6.set0 (.int .i64 ra)).set1 (.int .i64 rv)).set2 (.int .i64 rg)).set3 (.int .i64 rh)
            have s7 := (((s6.put (p := ⟨w1.heap.size, 0, none⟩) (.inr (by simp)) (.int .i64 ra)).put (p := ⟨w1.heap.size, 1, none⟩) (.inr (by simp)) (.int .i64 rv)).put (p := ⟨w1.heap.size, 2, none⟩) (.inr (by simp)) (.int .i64 rg)).put (p := ⟨w1.heap.size, 3, none⟩) (.inr (by simp)) (.int .i64 rh)
            have B7 := (((B6.setCell (p := ⟨w1.heap.size, 0, none⟩) (by simp; omega) (.int .i64 ra)).setCell (p := ⟨w1.heap.size, 1, none⟩) (by simp; omega) (.int .i64 rv)).setCell (p := ⟨w1.heap.size, 2, none⟩) (by simp; omega) (.int .i64 rg)).setCell (p := ⟨w1.heap.size, 3, none⟩) (by simp; omega) (.int .i64 rh)
            have oz0 := x6.f0
            have oz1 := x6.f1
            have oz2 := x6.f2
            have oz3 := x6.f3
            have o0 := x6.c0
            have o1 := x6.c1
            have o2 := x6.c2
            have o3 := x6.c3
            have ol := x6.lt
            go_wp2
            generalize hw7 : ((((w6.setCell ⟨w1.heap.size, 0, none⟩ (.int .i64 ra)).setCell ⟨w1.heap.size, 1, none⟩ (.int .i64 rv)).setCell ⟨w1.heap.size, 2, none⟩ (.int .i64 rg)).setCell ⟨w1.heap.size, 3, none⟩ (.int .i64 rh)) = w7
            rw [hw7] at x7 s7 B7
            clear hw7
            clear o0 oz0 o1 oz1 o2 oz2 o3 oz3 ol
            have o0 := x7.c0
            have o1 := x7.c1
            have o2 := x7.c2
            have o3 := x7.c3
            have oz0 := x7.f0
            have oz1 := x7.f1
            have oz2 := x7.f2
            have oz3 := x7.f3
            have ol := x7.lt
            have ck := sla_cell s7 hk'
            go_quiet (fail)
            generalize hw8 : w7.drewN nq = w8
            have hb8 : Below w7.heap.size w7 w8 := DN.below ⟨nq, hw8.symm⟩
            clear hw8
            have B8 := stepB B7 hb8
            have s8 := s7.call hb8
            clear o0 oz0 o1 oz1 o2 oz2 o3 oz3 ol
            have x8 := x7.call hb8
            have o0 := x8.c0
            have o1 := x8.c1
            have o2 := x8.c2
            have o3 := x8.c3
            have oz0 := x8.f0
            have oz1 := x8.f1
            have oz2 := x8.f2
            have oz3 := x8.f3
            have ol := x8.lt
            clear hb8
            go_wp2
            go_roundw
            case rel => exact ⟨m + 1, ra, rv, rg, rh, by omega, by go_num, HR2.out, B8, x8, s8⟩
            case measure => simp [intOf]; omega
        · clear hR hvt
          obtain ⟨ra, rv, rg, rh, hr⟩ : ∃ ra rv rg rh, liftStep L ⟨nth L k, 0, g', h'⟩ (k : Int) true false = ⟨ra, rv, rg, rh⟩ := ⟨_, _, _, _, rfl⟩
          obtain ⟨hR, hways⟩ := visR_step HK.out HR.out e2 (e3.trans hr)
          have HR2 := Lib.hid hR; clear hR e2 e3
          have HS := Lib.hid hr; clear hr
          rcases hways with k1 | ⟨k1, k2⟩ | ⟨k1, k2, k3⟩
          all_goals
            go_wp2
            go_quiet (fail)
            generalize hw5 : wr.drewN nq = w5
            have hb5 : Below wr.heap.size wr w5 := DN.below ⟨nq, hw5.symm⟩
            clear hw5
            have B5 := stepB B4 hb5
            have s5 := s4.call hb5
            clear o0 oz0 o1 oz1 o2 oz2 o3 oz3 ol
            have x5 := x4.call hb5
            have o0 := x5.c0
            have o1 := x5.c1
            have o2 := x5.c2
            have o3 := x5.c3
            have oz0 := x5.f0
            have oz1 := x5.f1
            have oz2 := x5.f2
            have oz3 := x5.f3
            have ol := x5.lt
            clear hb5
            have ck := sla_cell s5 hk'
            clear ck
            go_wp2_with fail
            refine (c_lstI_at _ _ _ _ _ _ _ _ _ _ _ _ _ _ _ _ HS.out s5.slR.sl (by omega)).mono ?_
            rintro e w6 ⟨rfl, hb6⟩
            have B6 := stepB B5 hb6
            have s6 := s5.call hb6
            clear o0 oz0 o1 oz1 o2 oz2 o3 oz3 ol
            have x6 := x5.call hb6
            have o0 := x6.c0
            have o1 := x6.c1
            have o2 := x6.c2
            have o3 := x6.c3
            have oz0 := x6.f0
            have oz1 := x6.f1
            have oz2 := x6.f2
            have oz3 := x6.f3
            have ol := x6.lt
            clear hb6
            clear o0 oz0 o1 oz1 o2 oz2 o3 oz3 ol
            have x7 := (((x6.set0 (.int .i64 ra)).set1 (.int .i64 rv)).set2 (.int .i64 rg)).set3 (.int .i64 rh)
            have s7 := (((s6.put (p := ⟨w1.heap.size, 0, none⟩) (.inr (by simp)) (.int .i64 ra)).put (p := ⟨w1.heap.size, 1, none⟩) (.inr (by simp)) (.int .i64 rv)).put (p := ⟨w1.heap.size, 2, none⟩) (.inr (by simp)) (.int .i64 rg)).put (p := ⟨w1.heap.size, 3, none⟩) (.inr (by simp)) (.int .i64 rh)
            have B7 := (((B6.setCell (p := ⟨w1.heap.size, 0, none⟩) (by simp; omega) (.int .i64 ra)).setCell (p := ⟨w1.heap.size, 1, none⟩) (by simp; omega) (.int .i64 rv)).setCell (p := ⟨w1.heap.size, 2, none⟩) (by simp; omega) (.int .i64 rg)).setCell (p := ⟨w1.heap.size, 3, none⟩) (by simp; omega) (.int .i64 rh)
            have oz0 := x6.f0
            have oz1 := x6.f1
            have oz2 := x6.f2
            have oz3 := x6.f3
            have o0 := x6.c0
            have o1 := x6.c1
            have o2 := x6.c2
            have o3 := x6.c3
            have ol := x6.lt
            go_wp2
            generalize hw7 : ((((w6.setCell ⟨w1.heap.size, 0, none⟩ (.int .i64 ra)).setCell ⟨w1.heap.size, 1, none⟩ (.int .i64 rv)).setCell ⟨w1.heap.size, 2, none⟩ (.int .i64 rg)).setCell ⟨w1.heap.size, 3, none⟩ (.int .i64 rh)) = w7
            rw [hw7] at x7 s7 B7
            clear hw7
            clear o0 oz0 o1 oz1 o2 oz2 o3 oz3 ol
            have o0 := x7.c0
            have o1 := x7.c1
            have o2 := x7.c2
            have o3 := x7.c3
            have oz0 := x7.f0
            have oz1 := x7.f1
            have oz2 := x7.f2
            have oz3 := x7.f3
            have ol := x7.lt
            have ck := sla_cell s7 hk'
            go_quiet (fail)
            generalize hw8 : w7.drewN nq = w8
            have hb8 : Below w7.heap.size w7 w8 := DN.below ⟨nq, hw8.symm⟩
            clear hw8
            have B8 := stepB B7 hb8
            have s8 := s7.call hb8
            clear o0 oz0 o1 oz1 o2 oz2 o3 oz3 ol
            have x8 := x7.call hb8
            have o0 := x8.c0
            have o1 := x8.c1
            have o2 := x8.c2
            have o3 := x8.c3
            have oz0 := x8.f0
            have oz1 := x8.f1
            have oz2 := x8.f2
            have oz3 := x8.f3
            have ol := x8.lt
            clear hb8
            go_wp2
            go_roundw
            case rel => exact ⟨m + 1, ra, rv, rg, rh, by omega, by go_num, HR2.out, B8, x8, s8⟩
            case measure => simp [intOf]; omega
        · rw [e2] at hvt
          omega
      · obtain rfl : m = N := by omega
        obtain ⟨e1, e2, e3⟩ := visR_end HK.out hR
        obtain rfl : a' = nth L k := e1
        obtain rfl : v' = 0 := e2
        obtain rfl : g' = 4 := e3
        clear hR
        go_wp2
        go_quiet (fail)
        go_wp2
        go_ret
        exact ⟨rfl, below_drewN B4 _⟩
namespace fnLiftVisit
set_option linter.unusedVariables false
set_option maxRecDepth 100000 in
theorem lifted (os : Os) (started : os.Started) (H : Type) (enc : TypeId × Value → H) :
    ReturnsInHanded {} Try.checked os 5 .any (Rows.fnLiftVisitSpec.pre6 enc Try.prog Try.f5 Rows.fnLiftVisitRow.domain false) (Rows.fnLiftVisitSpec.post enc Try.prog Try.f5 false true false false) := by
  refine returnsInHanded_of_change (C := Try.checked) own started (by kernel_rfl) Try.func5
    (ChangeSpec.witness6 (enc := enc) (C := Try.checked) false ⟨#[], #[.slice none 0 0], []⟩ 8 (by kernel_rfl) (by kernel_rfl) (by kernel_rfl) (by kernel_rfl)) ?_
  intro W base args ds gs before hval0 hW hcnd _
  have hval : ∀ (j : Nat) t v, Try.f5.params[j]? = some t → args[j]? = some v → Value.okWide Try.prog W .any base t v := hval0
  have hW' := hW
  obtain ⟨p, q, hA0, hV, rfl, hfz, hnd⟩ := hW
  have hA : DataW.TrodAll enc Try.prog W 0 (fun _ => true) true Try.f5.params.toList args.toList ds p := hA0
  rw [Try.params5] at hA hval
  obtain ⟨v0, vs0, d0, ds0, p0, q0, hargs, rfl, rfl, h0, r0⟩ := trodAll_cons hA
  obtain ⟨rfl, rfl, rfl⟩ := trodAll_nil r0
  obtain rfl : args = #[v0] := by cases args; simp_all
  obtain ⟨rfl, rfl⟩ := trodVars_none hV
  have k0 := h0
  have lt0 : ∀ x ∈ p0, x.block < W.heap.size := by obtain ⟨m, hm⟩ := k0; exact DataW.trod_lt m _ _ _ hm
  obtain ⟨a0, len0, cap0, rfl⟩ := okWide_slice Try.underlying22 (hval 0 22 v0 rfl rfl)
  obtain ⟨z0, w0⟩ : ∃ zs, IsRow .u8 W a0 len0 cap0 zs := by
    obtain ⟨fuel, hf⟩ := h0
    rcases open_ints Try.underlying22 Try.underlying5 (by kernel_rfl) hf with ⟨hcs, _⟩ | ⟨x, l, c, zs, hcs, _, hl, hm, hz, _, hcell, hwz⟩
    · simp [Value.cells] at hcs
      obtain ⟨rfl, rfl, rfl⟩ := hcs
      exact ⟨[], .inl ⟨rfl, rfl, rfl, rfl⟩⟩
    · simp [Value.cells] at hcs
      obtain ⟨rfl, rfl, rfl⟩ := hcs
      exact ⟨zs, .inr ⟨_, rfl, hl, hm, by simpa using hz, hcell, hwz⟩⟩
  clear hA0 hval0
  refine (walk_FnLiftVisit a0 len0 cap0 z0 W w0).mono fun e W' ⟨he, bel⟩ => ?_
  subst he
  exact ⟨_, rfl, _, _, _, [], _, [], hW', trodAll_mk1 (shut_bool Try.underlying4 _), (trodAll_cons_mk (Below.trod laidOut (by kernel_rfl) (of_decide_eq_true (by kernel_rfl)) k0 bel lt0) trodAll_mk0), rfl, bel.frame _, fun h => by cases h⟩
theorem over : Rows.fnLiftVisitRow.holds Try.pinned (OpenSpec.ofChange Rows.fnLiftVisitSpec) :=
  OpenClaim.holds_of_wide 5 Try.f5 rfl rfl rfl rfl rfl rfl rfl ⟨rfl, rfl, rfl, rfl, rfl⟩ rfl rfl rfl rfl rfl (by kernel_rfl) Try.func5 (by kernel_rfl)
    (of_decide_eq_true (by kernel_rfl)) (by unfold Func.isWrapper; first | (rw [if_pos (by decide +kernel)]; kernel_rfl) | (rw [if_neg (by decide +kernel)]; exact ⟨rfl, rfl⟩))
    (fun os started H enc _ => lifted os started H enc)
/-- The statement. -/
theorem proved : Rows.FnLiftVisitSaid := over
end fnLiftVisit
#print axioms fnLiftVisit.proved
end Go.Proofs.Ythmjmlblnikmaaa
