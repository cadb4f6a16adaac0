/- Contracts of the functions that draw floors, a position and weights: the reader goes on, and nothing else of what was there is changed. No conditions but those that stand at each. -/
import Derived.Test.YthmjmlblnikmaaaDrT
import Derived.Deep.OwnRows
namespace Go.Proofs.Ythmjmlblnikmaaa
open Go.RowKit Go.Joins Pl
theorem row_one (w : World) (x : Value) (t : TypeId) : (w.alloc (.cells #[x] t)).ownsRow w.heap.size t 1 (.slice (some ⟨w.heap.size, 0, none⟩) 1 1) 1 [x] :=
  ⟨rfl, .inr ⟨w.heap.size, 1, #[x], rfl, Nat.le_refl _, heap_new w _, Nat.le_refl _, by unfold maxLen; omega, rfl, rfl⟩⟩
/-- What a row of ours that is not nil looks like. -/
theorem row_head {w : World} {base : Nat} {t : TypeId} {v : Value} {n : Nat} {L : List Int} (h : w.ownsRow base t 1 v n (L.map (Value.int .i64))) (h0 : 0 < n) :
    ∃ g cap, v = .slice (some ⟨g, 0, none⟩) n cap ∧ n ≤ cap ∧ base ≤ g ∧ g < w.heap.size ∧ ∀ j, j < n → w.cell? ⟨g, j, none⟩ = some (.int .i64 (nth L j)) ∧ w.frozen? ⟨g, j, none⟩ = false := by
  have hl : L.length = n := by have := h.1; simpa using this
  rcases h.2 with ⟨rfl, rfl⟩ | ⟨g, cap, cur, rfl, hb, hg, hnc, _, _, ht⟩
  · omega
  · refine ⟨g, cap, rfl, hnc, hb, ?_, fun j hj => ⟨?_, ?_⟩⟩
    · rcases Nat.lt_or_ge g w.heap.size with h | h
      · exact h
      · rw [Array.getElem?_eq_none h] at hg; cases hg
    · rw [cell_of_row w g j cur t (0, 0) hg]
      have e1 : (cur.toList.take (n * 1))[j]? = (L.map (Value.int .i64))[j]? := by rw [ht]
      rw [List.getElem?_take_of_lt (by omega)] at e1
      rw [← Array.getElem?_toList, e1, List.getElem?_map]
      unfold nth
      rw [List.getD_eq_getElem?_getD]
      have : j < L.length := by omega
      simp [this]
    · simp [World.frozen?, hg]
theorem nth_cons (x : Int) (L : List Int) (j : Nat) : nth (x :: L) (j + 1) = nth L j := by simp [nth]
theorem nth_tail (L : List Int) (j : Nat) : nth L.tail j = nth L (j + 1) := by cases L <;> simp [nth]
/-- The first number of a list of ours was set. -/
theorem slR_set0 {w : World} {R g n : Nat} {L : List Int} (hl : L.length = n) (h0 : 0 < n) (hR : R < g) (hg : g < w.heap.size) (hc : ∀ j, j < n → w.cell? ⟨g, j, none⟩ = some (.int .i64 (nth L j))) (x : Int) :
    SlR (w.setCell ⟨g, 0, none⟩ (.int .i64 x)) R (some ⟨g, 0, none⟩) n (x :: L.tail) := by
  refine ⟨by rw [List.length_cons, List.length_tail]; omega, fun _ => ⟨g, 0, rfl, hR, by simpa [World.setCell] using hg, fun j hj => ?_⟩⟩
  rw [Nat.zero_add]
  by_cases e : j = 0
  · subst e; exact World.cell?_setCell_same _ _ _ (hc 0 h0)
  · obtain ⟨i, rfl⟩ : ∃ i, j = i + 1 := ⟨j - 1, by omega⟩
    rw [nth_cons, nth_tail]
    exact (World.cell?_setCell_other _ _ _ _ (by simp)).trans (hc _ hj)
theorem drawnL_of {w wr : World} {R q q' m n c : Nat} {A : Option Addr} {lo hi : Int} {L : List Int} (hs : SlR wr R A n L) (hc : n ≤ c) (hm : n ≤ m) (hL : ∀ x ∈ L, lo ≤ x ∧ x ≤ hi)
    (RD : Rd wr R q) (hq : q ≤ q') (G : Gr R w.heap.size w wr) : DrawnL w R q' m lo hi (.returned (.slice A n c)) wr :=
  ⟨A, n, c, L, hm, rfl, hc, hs, hL, RD.mono hq, G.grown⟩
set_option maxHeartbeats 4000000 in
theorem c_l20Floors (R q : Nat) (n : Int) (w : World) (hR : Rd w R q) (hq : q ≤ 1000) (h0 : 0 < n) (hn : n ≤ 1000) :
    Calls Try.prog 52 #[.pointer (some ⟨R, 0, none⟩), .int .i64 n] w (DrawnL w R (q + 20) 9 0 100) := by
  have RL := hR.lt
  obtain ⟨i0, hi, hz0, hz1, hz2⟩ := info_parts intInfo'
  go_enter Try.func52, Try.ntmps52
  go_wp2_with fail
  refine (c_pick _ _ _ _ (hR.alloc _) (by omega) (by omega)).mono ?_
  rintro e w1 ⟨x, x1, x2, rfl, RD1, hg1⟩
  have G1 := ((Gr.refl R w.heap.size w).alloc (Nat.le_refl _) _).read (by simp) hg1
  have O1 := row_read (row_one w (.int .i64 0) 3) hg1 RL
  obtain ⟨k, rfl⟩ : ∃ k : Nat, x = (k : Int) := ⟨x.toNat, by omega⟩
  have x3 : k ≤ 7 := by omega
  clear x2 hg1
  have HO1 := Lib.hid O1; clear O1
  go_wp2
  go_loopw [5, 6, 7] (fun s5 s6 s7 wr => ∃ (k : Nat) (L : List Int) (a : Int), k + L.length ≤ 8 ∧ 1 ≤ L.length ∧ s7 = .int .i64 (k : Int) ∧ s6 = .int .i64 a ∧ 0 ≤ a ∧ a ≤ 7 * (L.length : Int) ∧ wr.ownsRow w.heap.size 3 1 s5 L.length (L.map (Value.int .i64)) ∧ Gr R w.heap.size w wr ∧ Rd wr R (q + 1 + L.length) ∧ ∀ x ∈ L, 0 ≤ x ∧ x ≤ 100) (fun _ _ s7 _ => (intOf s7).toNat)
  case atStart => exact ⟨k, [0], 0, by simp; omega, by simp, rfl, rfl, by omega, by simp, HO1.out, G1, RD1.mono (by simp), fun x hx => by rw [List.mem_singleton.1 hx]; omega⟩
  case round =>
    clear HO1 G1 RD1 x3
    obtain ⟨k, L, a, hk, hk1, rfl, rfl, a1, a2, O, G, RD, hL⟩ := hrel
    have HL := Lib.hid hL; clear hL
    have HO := Lib.hid O; clear O
    by_cases h0k : k = 0
    · subst h0k
      go_wp2_with fail
      refine (c_odd _ _ _ _ RD (by omega) h0 hn).mono ?_
      rintro e w4 ⟨b, rfl, RD4, hg4⟩
      have G4 := G.read G.size hg4
      have O4 := row_read HO.out hg4 RL
      have HO4 := Lib.hid O4; clear O4 hg4 HO
      rcases b
      · go_wp2
        go_ret
        exact drawnL_end HO4.out RL (by omega) HL.out RD4 (by omega) G4
      · go_wp2_with fail
        refine (c_pick _ _ _ _ RD4 (by omega) (by omega)).mono ?_
        rintro e w5 ⟨y, y1, y2, rfl, RD5, hg5⟩
        have G5 := G4.read G4.size hg5
        have O5 := row_read HO4.out hg5 RL
        clear hg5 HO4
        have hb5 : w.heap.size ≤ w5.heap.size := G5.size
        obtain ⟨g, cap, rfl, hcap, hgb, hgl, hcf⟩ := row_head O5 (by omega)
        have c0 := (hcf 0 (by omega)).1
        have f0 := (hcf 0 (by omega)).2
        have cz := (hcf (L.length - 1) (by omega)).1
        have HCF := Lib.hid hcf; clear hcf
        have HO5 := Lib.hid O5; clear O5
        have hlen : (0 : Int) < (L.length : Int) := by omega
        have hlen' : 0 < L.length := by omega
        have hy : y = 0 ∨ y = 1 ∨ y = 2 ∨ y = 3 := by omega
        clear y1 y2
        rcases hy with rfl | rfl | rfl | rfl
        · go_wp2
          go_ret
          exact drawnL_of (SlR.nil _ _ _) (Nat.le_refl _) (by omega) (fun x hx => by cases hx) (RD5.alloc _) (by omega) (G5.alloc G5.size _)
        · go_wp2
          go_ret
          exact drawnL_of (slR_set0 rfl (by omega) (by omega) hgl (fun j hj => (HCF.out j hj).1) 1) hcap (by omega) (fun x hx => by
            rcases List.mem_cons.1 hx with h | h
            · omega
            · exact HL.out x (List.mem_of_mem_tail h)) (RD5.set (by simp; omega) _) (by omega) (G5.set (by simp; omega) _)
        · obtain ⟨z, hz⟩ : ∃ z, nth L (L.length - 1) = z := ⟨_, rfl⟩
          have hzb := HL.out _ (nth_mem (L := L) (i := L.length - 1) (by omega))
          rw [hz] at cz hzb
          obtain ⟨z1, z2⟩ := hzb
          clear hz
          have j1 : (0 : Int) ≤ (L.length : Int) - 1 := by omega
          have j2 : (L.length : Int) - 1 < (L.length : Int) := by omega
          have j3 : ((L.length : Int) - 1).toNat = L.length - 1 := by omega
          go_wp2_with (at_builtin; refine wpList_append_own_at _ rfl _ _ 23 rfl w.heap.size 3 i0 (.int .i64 0) 1 8 Try.underlying23 hi hz0 hz1 hz2 rfl (by decide) _ _ _ rfl (HO5.out.alloc _) ⟨w5.heap.size, 0, none⟩ 1 1 [.int .i64 z] rfl rfl (cell_one_new _ _ _) (ints_oneCell .i64 [z]) (by unfold maxLen; omega) (by omega) (by simp; omega) ?_; intro v' w6 hown' hgrow hnil hloc)
          clear j3
          have hge := own_ge HO5.out
          have HO' := Lib.hid (row_snoc hown'); clear hown'
          have G6 := (G5.alloc G5.size _).row (by simp; omega) hgrow hge
          have RD6 := (RD5.alloc _).far' hgrow (fun k hk => by have := hge k hk; omega)
          clear hgrow hnil hloc hge
          go_wp2
          go_ret
          exact drawnL_end HO'.out RL (by simp; omega) (all_snoc HL.out z1 z2) RD6 (by omega) G6
        · go_wp2_with (at_builtin; refine wpList_append_own_at _ rfl _ _ 23 rfl w.heap.size 3 i0 (.int .i64 0) 1 8 Try.underlying23 hi hz0 hz1 hz2 rfl (by decide) _ _ _ rfl (HO5.out.alloc _) ⟨w5.heap.size, 0, none⟩ 1 1 [.int .i64 61] rfl rfl (cell_one_new _ _ _) (ints_oneCell .i64 [61]) (by unfold maxLen; omega) (by omega) (by simp; omega) ?_; intro v' w6 hown' hgrow hnil hloc)
          have hge := own_ge HO5.out
          have HO' := Lib.hid (row_snoc hown'); clear hown'
          have G6 := (G5.alloc G5.size _).row (by simp; omega) hgrow hge
          have RD6 := (RD5.alloc _).far' hgrow (fun k hk => by have := hge k hk; omega)
          clear hgrow hnil hloc hge
          go_wp2
          go_ret
          exact drawnL_end HO'.out RL (by simp; omega) (all_snoc HL.out (by omega) (by omega)) RD6 (by omega) G6
    · obtain ⟨j, rfl⟩ : ∃ j, k = j + 1 := ⟨k - 1, by omega⟩
      have h0' : (0 : Int) < (j : Int) + 1 := by omega
      clear h0k
      go_wp2_with fail
      refine (c_pick _ _ _ _ RD (by omega) (by omega)).mono ?_
      rintro e w2 ⟨y, y1, y2, rfl, RD2, hg2⟩
      have G2 := G.read G.size hg2
      have O2 := row_read HO.out hg2 RL
      have y3 : y ≤ 5 := by omega
      clear y2 hg2 HO
      have HO := Lib.hid O2; clear O2
      go_wp2_with (at_builtin; refine wpList_append_own_at _ rfl _ _ 23 rfl w.heap.size 3 i0 (.int .i64 0) 1 8 Try.underlying23 hi hz0 hz1 hz2 rfl (by decide) _ _ _ rfl (HO.out.alloc _) ⟨w2.heap.size, 0, none⟩ 1 1 [.int .i64 (a + 2 + y)] rfl rfl (cell_one_new _ _ _) (ints_oneCell .i64 [a + 2 + y]) (by unfold maxLen; omega) (by omega) (by have := G2.size; simp; omega) ?_; intro v' w5 hown' hgrow hnil hloc)
      have hge := own_ge HO.out
      have HO' := Lib.hid (row_snoc hown'); clear hown'
      have G5 := (G2.alloc G2.size _).row (by have := G2.size; simp; omega) hgrow hge
      have RD5 := (RD2.alloc _).far' hgrow (fun k hk => by have := hge k hk; omega)
      clear hgrow hnil hloc hge
      go_wp2
      go_roundw
      case rel => exact ⟨j, L ++ [a + 2 + y], a + 2 + y, by simp; omega, by simp, by go_num, rfl, by omega, by simp; omega, HO'.out, G5, RD5.mono (by simp; omega), all_snoc HL.out (by omega) (by omega)⟩
      case measure => simp [intOf]
theorem row_news {w : World} {base g n cap : Nat} {t : TypeId} {xs : List Value} (h : w.ownsRow base t 1 (.slice (some ⟨g, 0, none⟩) n cap) n xs) : ∀ j u, xs[j]? = some u → w.cell? ((⟨g, 0, none⟩ : Addr).add j) = some u := by
  intro j u hu
  have hadd : (⟨g, 0, none⟩ : Addr).add j = ⟨g, j, none⟩ := by unfold Addr.add; split <;> simp_all
  rcases h.2 with ⟨e, _⟩ | ⟨g', cap', cur, e, _, hg, _, _, _, ht⟩
  · cases e
  · cases e
    rw [hadd, cell_of_row w g j cur t (0, 0) hg, ← Array.getElem?_toList]
    rw [← ht] at hu
    have hlt : j < n * 1 := by
      rcases Nat.lt_or_ge j (n * 1) with h | h
      · exact h
      · rw [List.getElem?_take_eq_none h] at hu; cases hu
    rw [List.getElem?_take_of_lt hlt] at hu
    exact hu
theorem slR_zeros (w : World) (R n : Nat) (t : TypeId) (hR : R < w.heap.size) : SlR (w.alloc (.cells (madeCells #[.int .i64 0] n) t)) R (some ⟨w.heap.size, 0, none⟩) n (List.replicate n 0) := by
  have h := World.rowIs_made w (.int .i64 0) n t
  refine ⟨by simp, fun _ => ⟨_, 0, rfl, hR, h.lt, fun j hj => ?_⟩⟩
  rw [Nat.zero_add, h.cell hj]
  simp [nth, hj]
end Go.Proofs.Ythmjmlblnikmaaa
