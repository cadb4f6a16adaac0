/- Contracts of the functions that draw lists of numbers, and a target: the reader goes on, and nothing else of what was there is changed. No conditions but those that stand at each. -/
import Derived.Test.YtjnoejlccbfcjaaRdB
import Derived.Lib.SmallJoins
import Derived.Deep.RegionWith
import Derived.KernelRfl
import Derived.Outline
namespace Go.Proofs.Ytjnoejlccbfcjaa
open Go.RowKit Go.Joins Pl
theorem row_read {w w' : World} {R base : Nat} {e : TypeId} {size : Nat} {v : Value} {n : Nat} {xs : List Value} (h : w.ownsRow base e size v n xs) (hg : w.grownBy w' (some R)) (hR : R < base) : w'.ownsRow base e size v n xs := by
  refine ⟨h.1, ?_⟩
  rcases h.2 with h | ⟨g, cap, cur, hv, hb, hc, hr⟩
  · exact .inl h
  · refine .inr ⟨g, cap, cur, hv, hb, ?_, hr⟩
    have hlt : g < w.heap.size := by
      rcases Nat.lt_or_ge g w.heap.size with h | h
      · exact h
      · rw [Array.getElem?_eq_none h] at hc; cases hc
    rw [hg.block g hlt (by intro e; cases e; omega)]; exact hc
theorem own_ge {w : World} {base : Nat} {e : TypeId} {size : Nat} {v : Value} {n : Nat} {xs : List Value} (h : w.ownsRow base e size v n xs) : ∀ k, v.ownBlock = some k → base ≤ k := fun k hk => (h.lt k hk).1
theorem intInfo' : (Try.prog.info? 3).map (fun i => (i.zero, i.size, i.bytes)) = some (some (.int .i64 0), 1, 8) := by kernel_rfl
/-- A list was drawn, of at most m numbers in lo .. hi. -/
def DrawnL (w : World) (R q m : Nat) (lo hi : Int) (e : Ending) (w' : World) : Prop :=
  ∃ (A : Option Addr) (n c : Nat) (L : List Int), n ≤ m ∧ e = .returned (.slice A n c) ∧ n ≤ c ∧ SlR w' R A n L ∧ (∀ x ∈ L, lo ≤ x ∧ x ≤ hi) ∧ Rd w' R q ∧ w.grownBy w' (some R)
theorem drawnL_end {w wr : World} {R q q' m base : Nat} {lo hi : Int} {v : Value} {L : List Int} {t : TypeId} (ho : wr.ownsRow base t 1 v L.length (L.map (Value.int .i64))) (hb : R < base) (hm : L.length ≤ m) (hL : ∀ x ∈ L, lo ≤ x ∧ x ≤ hi)
    (RD : Rd wr R q) (hq : q ≤ q') (G : Gr R w.heap.size w wr) : DrawnL w R q' m lo hi (.returned v) wr := by
  obtain ⟨A, c, rfl, hc, hs⟩ := slR_of_row ho hb
  exact ⟨A, _, c, L, hm, rfl, hc, hs, hL, RD.mono hq, G.grown⟩
theorem all_snoc {L : List Int} {x lo hi : Int} (h : ∀ y ∈ L, lo ≤ y ∧ y ≤ hi) (h1 : lo ≤ x) (h2 : x ≤ hi) : ∀ y ∈ L ++ [x], lo ≤ y ∧ y ≤ hi := by
  intro y hy
  rcases List.mem_append.1 hy with h' | h'
  · exact h y h'
  · rw [List.mem_singleton.1 h']; exact ⟨h1, h2⟩
theorem row_snoc {w : World} {base : Nat} {t : TypeId} {v : Value} {L : List Int} {x : Int} (h : w.ownsRow base t 1 v (L.length + 1) (L.map (Value.int .i64) ++ [.int .i64 x])) : w.ownsRow base t 1 v (L ++ [x]).length ((L ++ [x]).map (Value.int .i64)) := by
  rw [List.map_append, List.length_append]; exact h
set_option maxHeartbeats 2000000 in
theorem c_l20Times (R q : Nat) (w : World) (hR : Rd w R q) (hq : q ≤ 1000) :
    Calls Try.prog 61 #[.pointer (some ⟨R, 0, none⟩)] w (DrawnL w R (q + 10) 4 0 19) := by
  have RL := hR.lt
  obtain ⟨i0, hi, hz0, hz1, hz2⟩ := info_parts intInfo'
  go_enter Try.func61, Try.ntmps61
  go_wp2_with fail
  refine (c_pick _ _ _ _ (hR.alloc _) (by omega) (by omega)).mono ?_
  rintro e w1 ⟨x, x1, x2, rfl, RD1, hg1⟩
  have G1 := ((Gr.refl R w.heap.size w).alloc (Nat.le_refl _) _).read (by simp) hg1
  have O1 := row_read (World.ownsRow_made (base := w.heap.size) (e := 3) (size := 1) w #[] 0 (Nat.le_refl _) (by unfold maxLen; omega) rfl) hg1 RL
  obtain ⟨k, rfl⟩ : ∃ k : Nat, x = (k : Int) := ⟨x.toNat, by omega⟩
  have x3 : k ≤ 4 := by omega
  clear x2 hg1
  go_wp2
  go_loopw [3, 4] (fun s3 s4 wr => ∃ (k : Nat) (L : List Int), k + L.length ≤ 4 ∧ s4 = .int .i64 (k : Int) ∧ wr.ownsRow w.heap.size 3 1 s3 L.length (L.map (Value.int .i64)) ∧ Gr R w.heap.size w wr ∧ Rd wr R (q + 1 + L.length) ∧ ∀ x ∈ L, 0 ≤ x ∧ x ≤ 19) (fun _ s4 _ => (intOf s4).toNat)
  case atStart => exact ⟨k, [], by simp; omega, rfl, O1, G1, RD1, fun x hx => by cases hx⟩
  case round =>
    clear O1 G1 RD1 x3
    obtain ⟨k, L, hk, rfl, O, G, RD, hL⟩ := hrel
    have HL := Lib.hid hL; clear hL
    by_cases h0 : k = 0
    · subst h0
      have HO := Lib.hid O; clear O
      go_wp2
      go_ret
      exact drawnL_end HO.out RL (by omega) HL.out RD (by omega) G
    · obtain ⟨j, rfl⟩ : ∃ j, k = j + 1 := ⟨k - 1, by omega⟩
      have h0' : (0 : Int) < (j : Int) + 1 := by omega
      clear h0
      have HO := Lib.hid O; clear O
      go_wp2_with fail
      refine (c_pick _ _ _ _ RD (by omega) (by omega)).mono ?_
      rintro e w2 ⟨y, y1, y2, rfl, RD2, hg2⟩
      have G2 := G.read G.size hg2
      have O2 := row_read HO.out hg2 RL
      have y3 : y ≤ 19 := by omega
      clear y2 hg2 HO
      have HO := Lib.hid O2; clear O2
      go_wp2_with (at_builtin; refine wpList_append_own_at _ rfl _ _ 41 rfl w.heap.size 3 i0 (.int .i64 0) 1 8 Try.underlying41 hi hz0 hz1 hz2 rfl (by decide) _ _ _ rfl (HO.out.alloc _) ⟨w2.heap.size, 0, none⟩ 1 1 [.int .i64 y] rfl rfl (cell_one_new _ _ _) (ints_oneCell .i64 [y]) (by unfold maxLen; omega) (by omega) (by have := G2.size; simp; omega) ?_; intro v' w5 hown' hgrow hnil hloc)
      have hge := own_ge HO.out
      have HO' := Lib.hid (row_snoc hown'); clear hown'
      have G5 := (G2.alloc G2.size _).row (by have := G2.size; simp; omega) hgrow hge
      have RD5 := (RD2.alloc _).far' hgrow (fun k hk => by have := hge k hk; omega)
      clear hgrow hnil hloc hge
      go_wp2
      go_roundw
      case rel => exact ⟨j, L ++ [y], by simp; omega, by go_num, HO'.out, G5, RD5.mono (by simp; omega), all_snoc HL.out y1 y3⟩
      case measure => simp [intOf]
theorem nine_at {w : World} {b : Nat} {t : TypeId} {y : Int} (h : w.heap[b]? = some (.cells #[.int .i64 0, .int .i64 0, .int .i64 3, .int .i64 (-4), .int .i64 5, .int .i64 6, .int .i64 (-6), .int .i64 7, .int .i64 (-9)] t)) (h1 : 0 ≤ y) (h2 : y ≤ 8) :
    ∃ z : Int, w.cell? ⟨b, y.toNat, none⟩ = some (.int .i64 z) ∧ -9 ≤ z ∧ z ≤ 9 := by
  have hy : y = 0 ∨ y = 1 ∨ y = 2 ∨ y = 3 ∨ y = 4 ∨ y = 5 ∨ y = 6 ∨ y = 7 ∨ y = 8 := by omega
  rw [cell_of_row _ _ _ _ _ _ h]
  rcases hy with rfl | rfl | rfl | rfl | rfl | rfl | rfl | rfl | rfl
  · exact ⟨0, rfl, by omega, by omega⟩
  · exact ⟨0, rfl, by omega, by omega⟩
  · exact ⟨3, rfl, by omega, by omega⟩
  · exact ⟨-4, rfl, by omega, by omega⟩
  · exact ⟨5, rfl, by omega, by omega⟩
  · exact ⟨6, rfl, by omega, by omega⟩
  · exact ⟨-6, rfl, by omega, by omega⟩
  · exact ⟨7, rfl, by omega, by omega⟩
  · exact ⟨-9, rfl, by omega, by omega⟩
set_option maxHeartbeats 2000000 in
theorem c_l20Measured (R q : Nat) (w : World) (hR : Rd w R q) (hq : q ≤ 1000) :
    Calls Try.prog 60 #[.pointer (some ⟨R, 0, none⟩)] w (DrawnL w R (q + 20) 15 (-9) 9) := by
  have RL := hR.lt
  obtain ⟨i0, hi, hz0, hz1, hz2⟩ := info_parts intInfo'
  go_enter Try.func60, Try.ntmps60
  go_wp2_with fail
  refine (c_pick _ _ _ _ (hR.alloc _) (by omega) (by omega)).mono ?_
  rintro e w1 ⟨x, x1, x2, rfl, RD1, hg1⟩
  have G1 := ((Gr.refl R w.heap.size w).alloc (Nat.le_refl _) _).read (by simp) hg1
  have O1 := row_read (World.ownsRow_made (base := w.heap.size) (e := 3) (size := 1) w #[] 0 (Nat.le_refl _) (by unfold maxLen; omega) rfl) hg1 RL
  obtain ⟨k, rfl⟩ : ∃ k : Nat, x = (k : Int) := ⟨x.toNat, by omega⟩
  have x3 : k ≤ 15 := by omega
  clear x2 hg1
  go_wp2
  go_loopw [3, 4] (fun s3 s4 wr => ∃ (k : Nat) (L : List Int), k + L.length ≤ 15 ∧ s4 = .int .i64 (k : Int) ∧ wr.ownsRow w.heap.size 3 1 s3 L.length (L.map (Value.int .i64)) ∧ Gr R w.heap.size w wr ∧ Rd wr R (q + 1 + L.length) ∧ ∀ x ∈ L, -9 ≤ x ∧ x ≤ 9) (fun _ s4 _ => (intOf s4).toNat)
  case atStart => exact ⟨k, [], by simp; omega, rfl, O1, G1, RD1, fun x hx => by cases hx⟩
  case round =>
    clear O1 G1 RD1 x3
    obtain ⟨k, L, hk, rfl, O, G, RD, hL⟩ := hrel
    have HL := Lib.hid hL; clear hL
    by_cases h0 : k = 0
    · subst h0
      have HO := Lib.hid O; clear O
      go_wp2
      go_ret
      exact drawnL_end HO.out RL (by omega) HL.out RD (by omega) G
    · obtain ⟨j, rfl⟩ : ∃ j, k = j + 1 := ⟨k - 1, by omega⟩
      have h0' : (0 : Int) < (j : Int) + 1 := by omega
      clear h0
      have HO := Lib.hid O; clear O
      go_wp2_with fail
      refine (c_pick _ _ _ _ (RD.alloc _) (by omega) (by omega)).mono ?_
      rintro e w2 ⟨y, y1, y2, rfl, RD2, hg2⟩
      have G2 := (G.alloc G.size _).read (by have := G.size; simp; omega) hg2
      have O2 := row_read (HO.out.alloc _) hg2 RL
      have hnine := (hg2.block wr.heap.size (by simp) (by intro e; cases e; have := RD.lt; omega)).trans (heap_new wr _)
      have y3 : y ≤ 8 := by omega
      have hlt : wr.heap.size < w2.heap.size := by have := hg2.size; simp at this; omega
      clear y2 hg2 HO
      have HO := Lib.hid O2; clear O2
      obtain ⟨z, hz, z1, z2⟩ := nine_at hnine y1 y3
      have HN := Lib.hid hnine; clear hnine
      go_wp2_with (at_builtin; refine wpList_append_own_at _ rfl _ _ 41 rfl w.heap.size 3 i0 (.int .i64 0) 1 8 Try.underlying41 hi hz0 hz1 hz2 rfl (by decide) _ _ _ rfl (HO.out.alloc _) ⟨w2.heap.size, 0, none⟩ 1 1 [.int .i64 z] rfl rfl (cell_one_new _ _ _) (ints_oneCell .i64 [z]) (by unfold maxLen; omega) (by omega) (by have := G2.size; simp; omega) ?_; intro v' w5 hown' hgrow hnil hloc)
      have hge := own_ge HO.out
      have HO' := Lib.hid (row_snoc hown'); clear hown'
      have G5 := (G2.alloc G2.size _).row (by have := G2.size; simp; omega) hgrow hge
      have RD5 := (RD2.alloc _).far' hgrow (fun k hk => by have := hge k hk; omega)
      clear hgrow hnil hloc hge
      go_wp2
      go_roundw
      case rel => exact ⟨j, L ++ [z], by simp; omega, by go_num, HO'.out, G5, RD5.mono (by simp; omega), all_snoc HL.out z1 z2⟩
      case measure => simp [intOf]
/-- A number was drawn. -/
def DrawnI (w : World) (R q : Nat) (lo hi : Int) (e : Ending) (w' : World) : Prop :=
  ∃ x : Int, lo ≤ x ∧ x ≤ hi ∧ e = .returned (.int .i64 x) ∧ Rd w' R q ∧ w.grownBy w' (some R)
set_option maxHeartbeats 2000000 in
theorem c_l20Target (R q : Nat) (a v : Int) (w : World) (hR : Rd w R q) (hq : q ≤ 1000) (a1 : -1 ≤ a) (a2 : a ≤ 61) :
    Calls Try.prog 64 #[.pointer (some ⟨R, 0, none⟩), .agg #[.int .i64 a, .int .i64 v]] w (DrawnI w R (q + 10) (-61) 60) := by
  have RL := hR.lt
  go_enter Try.func64, Try.ntmps64
  go_wp2_with fail
  refine (c_pick _ _ _ _ (hR.alloc _) (by omega) (by omega)).mono ?_
  rintro e w1 ⟨x, x1, x2, rfl, RD1, hg1⟩
  have G1 := ((Gr.refl R w.heap.size w).alloc (Nat.le_refl _) _).read (by simp) hg1
  have ro1 := (Own2.new _ _ _ _).read hg1 (by omega)
  have c0 := ro1.c0
  clear hg1
  by_cases hx : x = 0
  · subst hx
    go_wp2_with fail
    go_region_with (first | (go_at_call 54; refine (c_pick _ _ _ _ RD1.drew (by omega) (by omega)).mono ?_; rintro e w2 ⟨y, y1, y2, rfl, RD2, hg2⟩; have G2 := G1.drew.read G1.size hg2; have c1 := (ro1.drew.read hg2 (by omega)).c0; have y3 : y ≤ 8 := (by omega); clear y2 hg2; have hw1 : IntKind.i64.wrap (a + y) = a + y := IntWalk.i64_in _ (by omega); have hw2 : IntKind.i64.wrap (a + y - 4) = a + y - 4 := IntWalk.i64_in _ (by omega)))
    all_goals
      clear hw1 hw2
      go_wp2
      all_goals
        go_ret
        exact ⟨_, by omega, by omega, rfl, RD2.mono (by omega), G2.grown⟩
  · have ex : (x == 0) = false := by simp [hx]
    clear hx
    go_wp2_with fail
    refine (c_pick _ _ _ _ RD1 (by omega) (by omega)).mono ?_
    rintro e w2 ⟨y, y1, y2, rfl, RD2, hg2⟩
    have G2 := G1.read G1.size hg2
    have y3 : y ≤ 60 := by omega
    clear y2 hg2
    go_wp2_with fail
    refine (c_pick _ _ _ _ RD2 (by omega) (by omega)).mono ?_
    rintro e w3 ⟨z, z1, z2, rfl, RD3, hg3⟩
    have G3 := G2.read G2.size hg3
    have z3 : z ≤ 29 := by omega
    clear z2 hg3
    go_wp2
    go_ret
    exact ⟨_, by omega, by omega, rfl, RD3.mono (by omega), G3.grown⟩
end Go.Proofs.Ytjnoejlccbfcjaa
