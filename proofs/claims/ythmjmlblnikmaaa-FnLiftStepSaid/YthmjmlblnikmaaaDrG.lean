/- The floors' draw once more: the block of what was drawn is a new one. No conditions but those that stand at each. -/
import Derived.Test.YthmjmlblnikmaaaDrF
namespace Go.Proofs.Ythmjmlblnikmaaa
open Go.RowKit Go.Joins Pl
/-- A list was drawn, of at most m numbers in lo .. hi, into a block behind S. -/
def DrawnLS (w : World) (S R q m : Nat) (lo hi : Int) (e : Ending) (w' : World) : Prop :=
  ∃ (A : Option Addr) (n c : Nat) (L : List Int), n ≤ m ∧ e = .returned (.slice A n c) ∧ n ≤ c ∧ SlR w' S A n L ∧ (∀ x ∈ L, lo ≤ x ∧ x ≤ hi) ∧ Rd w' R q ∧ w.grownBy w' (some R)
theorem drawnLS_of {w wr : World} {S R q q' m n c : Nat} {A : Option Addr} {lo hi : Int} {L : List Int} (hs : SlR wr S A n L) (hc : n ≤ c) (hm : n ≤ m) (hL : ∀ x ∈ L, lo ≤ x ∧ x ≤ hi)
    (RD : Rd wr R q) (hq : q ≤ q') (G : Gr R w.heap.size w wr) : DrawnLS w S R q' m lo hi (.returned (.slice A n c)) wr :=
  ⟨A, n, c, L, hm, rfl, hc, hs, hL, RD.mono hq, G.grown⟩
theorem drawnLS_end {w wr : World} {S R q q' m base : Nat} {lo hi : Int} {v : Value} {L : List Int} {t : TypeId} (ho : wr.ownsRow base t 1 v L.length (L.map (Value.int .i64))) (hb : S < base) (hm : L.length ≤ m) (hL : ∀ x ∈ L, lo ≤ x ∧ x ≤ hi)
    (RD : Rd wr R q) (hq : q ≤ q') (G : Gr R w.heap.size w wr) : DrawnLS w S R q' m lo hi (.returned v) wr := by
  obtain ⟨A, c, rfl, hc, hs⟩ := slR_of_row ho hb
  exact ⟨A, _, c, L, hm, rfl, hc, hs, hL, RD.mono hq, G.grown⟩
set_option maxHeartbeats 4000000 in
theorem c_l20FloorsS (R q : Nat) (n : Int) (w : World) (S : Nat) (hS : S < w.heap.size) (hR : Rd w R q) (hq : q ≤ 1000) (h0 : 0 < n) (hn : n ≤ 1000) :
    Calls Try.prog 52 #[.pointer (some ⟨R, 0, none⟩), .int .i64 n] w (DrawnLS w S R (q + 20) 9 0 100) := by
  have RL := hR.lt
  obtain ⟨i0, hi, hz0, hz1, hz2⟩ := info_parts intInfo'
  go_enter Try.func52, Try.ntmps52
  go_wp2_with fail
  refine (c_pick _ _ _ _ (hR.alloc _) (by omega) (by omega)).mono ?_
  rintro e w1 ⟨x, x1, x2, rfl, RD1, hg1⟩
  have G1 := ((Gr.refl R w.heap.size w).alloc (Nat.le_refl _) _).read (by simp) hg1
  have O1 := row_read (row_one w (.int .i64 0) 3) hg1 RL
  obtain ⟨k, rfl⟩ : ∃ k : Nat, x = (k : Int) := ⟨x.toNat, by omega⟩
  have x3 : k ≤ 7 := by omega
  clear x2 hg1
  have HO1 := Lib.hid O1; clear O1
  go_wp2
  go_loopw [5, 6, 7] (fun s5 s6 s7 wr => ∃ (k : Nat) (L : List Int) (a : Int), k + L.length ≤ 8 ∧ 1 ≤ L.length ∧ s7 = .int .i64 (k : Int) ∧ s6 = .int .i64 a ∧ 0 ≤ a ∧ a ≤ 7 * (L.length : Int) ∧ wr.ownsRow w.heap.size 3 1 s5 L.length (L.map (Value.int .i64)) ∧ Gr R w.heap.size w wr ∧ Rd wr R (q + 1 + L.length) ∧ ∀ x ∈ L, 0 ≤ x ∧ x ≤ 100) (fun _ _ s7 _ => (intOf s7).toNat)
  case atStart => exact ⟨k, [0], 0, by simp; omega, by simp, rfl, rfl, by omega, by simp, HO1.out, G1, RD1.mono (by simp), fun x hx => by rw [List.mem_singleton.1 hx]; omega⟩
  case round =>
    clear HO1 G1 RD1 x3
    obtain ⟨k, L, a, hk, hk1, rfl, rfl, a1, a2, O, G, RD, hL⟩ := hrel
    have HL := Lib.hid hL; clear hL
    have HO := Lib.hid O; clear O
    by_cases h0k : k = 0
    · subst h0k
      go_wp2_with fail
      refine (c_odd _ _ _ _ RD (by omega) h0 hn).mono ?_
      rintro e w4 ⟨b, rfl, RD4, hg4⟩
      have G4 := G.read G.size hg4
      have O4 := row_read HO.out hg4 RL
      have HO4 := Lib.hid O4; clear O4 hg4 HO
      rcases b
      · go_wp2
        go_ret
        exact drawnLS_end HO4.out hS (by omega) HL.out RD4 (by omega) G4
      · go_wp2_with fail
        refine (c_pick _ _ _ _ RD4 (by omega) (by omega)).mono ?_
        rintro e w5 ⟨y, y1, y2, rfl, RD5, hg5⟩
        have G5 := G4.read G4.size hg5
        have O5 := row_read HO4.out hg5 RL
        clear hg5 HO4
        have hb5 : w.heap.size ≤ w5.heap.size := G5.size
        obtain ⟨g, cap, rfl, hcap, hgb, hgl, hcf⟩ := row_head O5 (by omega)
        have c0 := (hcf 0 (by omega)).1
        have f0 := (hcf 0 (by omega)).2
        have cz := (hcf (L.length - 1) (by omega)).1
        have HCF := Lib.hid hcf; clear hcf
        have HO5 := Lib.hid O5; clear O5
        have hlen : (0 : Int) < (L.length : Int) := by omega
        have hlen' : 0 < L.length := by omega
        have hy : y = 0 ∨ y = 1 ∨ y = 2 ∨ y = 3 := by omega
        clear y1 y2
        rcases hy with rfl | rfl | rfl | rfl
        · go_wp2
          go_ret
          exact drawnLS_of (SlR.nil _ _ _) (Nat.le_refl _) (by omega) (fun x hx => by cases hx) (RD5.alloc _) (by omega) (G5.alloc G5.size _)
        · go_wp2
          go_ret
          exact drawnLS_of (slR_set0 rfl (by omega) (by omega) hgl (fun j hj => (HCF.out j hj).1) 1) hcap (by omega) (fun x hx => by
            rcases List.mem_cons.1 hx with h | h
            · omega
            · exact HL.out x (List.mem_of_mem_tail h)) (RD5.set (by simp; omega) _) (by omega) (G5.set (by simp; omega) _)
        · obtain ⟨z, hz⟩ : ∃ z, nth L (L.length - 1) = z := ⟨_, rfl⟩
          have hzb := HL.out _ (nth_mem (L := L) (i := L.length - 1) (by omega))
          rw [hz] at cz hzb
          obtain ⟨z1, z2⟩ := hzb
          clear hz
          have j1 : (0 : Int) ≤ (L.length : Int) - 1 := by omega
          have j2 : (L.length : Int) - 1 < (L.length : Int) := by omega
          have j3 : ((L.length : Int) - 1).toNat = L.length - 1 := by omega
          go_wp2_with (at_builtin; refine wpList_append_own_at _ rfl _ _ 23 rfl w.heap.size 3 i0 (.int .i64 0) 1 8 Try.underlying23 hi hz0 hz1 hz2 rfl (by decide) _ _ _ rfl (HO5.out.alloc _) ⟨w5.heap.size, 0, none⟩ 1 1 [.int .i64 z] rfl rfl (cell_one_new _ _ _) (ints_oneCell .i64 [z]) (by unfold maxLen; omega) (by omega) (by simp; omega) ?_; intro v' w6 hown' hgrow hnil hloc)
          clear j3
          have hge := own_ge HO5.out
          have HO' := Lib.hid (row_snoc hown'); clear hown'
          have G6 := (G5.alloc G5.size _).row (by simp; omega) hgrow hge
          have RD6 := (RD5.alloc _).far' hgrow (fun k hk => by have := hge k hk; omega)
          clear hgrow hnil hloc hge
          go_wp2
          go_ret
          exact drawnLS_end HO'.out hS (by simp; omega) (all_snoc HL.out z1 z2) RD6 (by omega) G6
        · go_wp2_with (at_builtin; refine wpList_append_own_at _ rfl _ _ 23 rfl w.heap.size 3 i0 (.int .i64 0) 1 8 Try.underlying23 hi hz0 hz1 hz2 rfl (by decide) _ _ _ rfl (HO5.out.alloc _) ⟨w5.heap.size, 0, none⟩ 1 1 [.int .i64 61] rfl rfl (cell_one_new _ _ _) (ints_oneCell .i64 [61]) (by unfold maxLen; omega) (by omega) (by simp; omega) ?_; intro v' w6 hown' hgrow hnil hloc)
          have hge := own_ge HO5.out
          have HO' := Lib.hid (row_snoc hown'); clear hown'
          have G6 := (G5.alloc G5.size _).row (by simp; omega) hgrow hge
          have RD6 := (RD5.alloc _).far' hgrow (fun k hk => by have := hge k hk; omega)
          clear hgrow hnil hloc hge
          go_wp2
          go_ret
          exact drawnLS_end HO'.out hS (by simp; omega) (all_snoc HL.out (by omega) (by omega)) RD6 (by omega) G6
    · obtain ⟨j, rfl⟩ : ∃ j, k = j + 1 := ⟨k - 1, by omega⟩
      have h0' : (0 : Int) < (j : Int) + 1 := by omega
      clear h0k
      go_wp2_with fail
      refine (c_pick _ _ _ _ RD (by omega) (by omega)).mono ?_
      rintro e w2 ⟨y, y1, y2, rfl, RD2, hg2⟩
      have G2 := G.read G.size hg2
      have O2 := row_read HO.out hg2 RL
      have y3 : y ≤ 5 := by omega
      clear y2 hg2 HO
      have HO := Lib.hid O2; clear O2
      go_wp2_with (at_builtin; refine wpList_append_own_at _ rfl _ _ 23 rfl w.heap.size 3 i0 (.int .i64 0) 1 8 Try.underlying23 hi hz0 hz1 hz2 rfl (by decide) _ _ _ rfl (HO.out.alloc _) ⟨w2.heap.size, 0, none⟩ 1 1 [.int .i64 (a + 2 + y)] rfl rfl (cell_one_new _ _ _) (ints_oneCell .i64 [a + 2 + y]) (by unfold maxLen; omega) (by omega) (by have := G2.size; simp; omega) ?_; intro v' w5 hown' hgrow hnil hloc)
      have hge := own_ge HO.out
      have HO' := Lib.hid (row_snoc hown'); clear hown'
      have G5 := (G2.alloc G2.size _).row (by have := G2.size; simp; omega) hgrow hge
      have RD5 := (RD2.alloc _).far' hgrow (fun k hk => by have := hge k hk; omega)
      clear hgrow hnil hloc hge
      go_wp2
      go_roundw
      case rel => exact ⟨j, L ++ [a + 2 + y], a + 2 + y, by simp; omega, by simp, by go_num, rfl, by omega, by simp; omega, HO'.out, G5, RD5.mono (by simp; omega), all_snoc HL.out (by omega) (by omega)⟩
      case measure => simp [intOf]
end Go.Proofs.Ythmjmlblnikmaaa
