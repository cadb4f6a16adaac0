/- Contracts of DrawSpeedLimit and DrawGovernorStep. No conditions but those that stand at each. -/
import Derived.Test.YtjnoejlccbfcjaaDra
import Derived.Deep.RegionWith
import Derived.IntWalk
namespace Go.Proofs.Ytjnoejlccbfcjaa
open Go.RowKit Go.Joins Pl
/-- A number and a bool were drawn out of a code. -/
def GotIB (lo hi : Int) (w : World) (e : Ending) (w' : World) : Prop := ∃ (x : Int) (p : Bool), lo ≤ x ∧ x ≤ hi ∧ e = .returned (.tuple #[.int .i64 x, .bool p]) ∧ Below w.heap.size w w'
/-- A bool, a number and a bool were drawn out of a code. -/
def GotBIB (lo hi : Int) (w : World) (e : Ending) (w' : World) : Prop := ∃ (p : Bool) (x : Int) (q : Bool), lo ≤ x ∧ x ≤ hi ∧ e = .returned (.tuple #[.bool p, .int .i64 x, .bool q]) ∧ Below w.heap.size w w'
theorem ne_some {a b : Nat} (h : b < a) : some a ≠ some b := fun e => by have := Option.some.inj e; omega
theorem lt_drew_alloc (w : World) (o : Obj) : w.heap.size < (w.alloc o).drew.heap.size := by show w.heap.size < (w.heap.push o).size; simp
def two (x y u : Int) : Int := if u = 0 then x else y
theorem two_bd {x y u lo hi : Int} (h1 : lo ≤ x) (h2 : x ≤ hi) (h3 : lo ≤ y) (h4 : y ≤ hi) : lo ≤ two x y u ∧ two x y u ≤ hi := by unfold two; split <;> omega
theorem two_at {w : World} {b : Nat} {t : TypeId} {x y u : Int} (h : w.heap[b]? = some (.cells #[.int .i64 x, .int .i64 y] t)) (h1 : 0 ≤ u) (h2 : u ≤ 1) : w.cell? ⟨b, u.toNat, none⟩ = some (.int .i64 (two x y u)) := by
  rw [cell_of_row _ _ _ _ _ _ h]
  have hu : u = 0 ∨ u = 1 := by omega
  rcases hu with rfl | rfl <;> rfl
set_option maxHeartbeats 4000000 in
theorem c_DrawSpeedLimit (A : Option Addr) (m c : Nat) (bs : List Int) (w : World) (hS : SrcB w A m bs) (hm : m ≤ 2097152) (hmc : m ≤ c) :
    Calls Try.prog 35 #[.slice A m c] w (GotIB (-1) 61 w) := by
  go_enter Try.func35, Try.ntmps35
  go_wp2_with fail
  refine (c_openR _ _ _ bs _ hS hm hmc w.heap.size rfl).mono ?_
  rintro e w1 ⟨rfl, RD1, B1⟩
  go_wp2_with fail
  refine (c_pick _ _ _ _ RD1 (by omega) (by omega)).mono ?_
  rintro e w2 ⟨z, z1, z2, rfl, RD2, hg2⟩
  have B2 := below_read B1 (by omega) hg2
  clear hg2
  by_cases hz : z = 0
  · subst hz
    have RD := RD2.drew
    have B := B2.drew
    have q0 : True := trivial
    go_wp2_with fail
    go_region_with (first
      | (go_at_call 54; clear q0; refine (c_pick _ _ _ _ RD (by omega) (by omega)).mono ?_; rintro e w3 ⟨x, x1, x2, rfl, RD3, hg3⟩; have B3 := below_read B (by omega) hg3; clear hg3 RD B; have x3 : x ≤ 13 := (by omega))
      | (go_at_call 54; refine (c_pick _ _ _ _ RD3 (by omega) (by omega)).mono ?_; rintro e w4 ⟨y, y1, y2, rfl, RD4, hg4⟩; have B4 := below_read B3 (by omega) hg4; clear hg4 RD3 B3; have y3 : y ≤ 13 := (by omega); have hw : IntKind.i64.wrap (60 - y) = 60 - y := IntWalk.i64_in _ (by omega); have RN := RD4.alloc (.cells #[.int .i64 x, .int .i64 (60 - y)] 3); have BN := B4.alloc B4.size (.cells #[.int .i64 x, .int .i64 (60 - y)] 3); have hR4 := RD4.lt)
      | (go_at_call 54; refine (c_pick _ _ _ _ RN (by omega) (by omega)).mono ?_; rintro e w5 ⟨u, u1, u2, rfl, RD5, hg5⟩; have B5 := below_read BN (by omega) hg5; have u3 : u ≤ 1 := (by omega); have hc := two_at ((hg5.block w4.heap.size (by simp) (ne_some (by omega))).trans (heap_new w4 _)) u1 u3; have l5 : w4.heap.size < w5.heap.size := (by have := hg5.size; simp at this; omega); clear hg5 RN BN RD4 B4 u2)
      | (go_at_call 54; refine (c_pick _ _ _ _ RD4 (by omega) (by omega)).mono ?_; rintro e w5 ⟨u, u1, u2, rfl, RD5', hg5⟩; have B5' := below_read B4 (by omega) hg5; have u3 : u ≤ 1 := (by omega); have RD5 := RD5'.alloc (.cells #[.int .i64 x, .int .i64 (60 - y)] 3); have B5 := B5'.alloc B5'.size (.cells #[.int .i64 x, .int .i64 (60 - y)] 3); have hc := two_at (heap_new w5 (.cells #[.int .i64 x, .int .i64 (60 - y)] 3)) u1 u3; have hR5 := RD5'.lt; clear hg5 RN BN RD4 B4 u2)
      | (go_at_call 54; refine (c_pick _ _ _ _ RD5 (by omega) (by omega)).mono ?_; rintro e w6 ⟨s, s1, s2, rfl, RD6, hg6⟩; have B6 := below_read B5 (by omega) hg6; have hc' := (hg6.cell hc (ne_some (by first | (dsimp only; omega) | omega))); clear hg6 RD5 B5)
      | (go_at_call 54; refine (c_pick _ _ _ _ RD5' (by omega) (by omega)).mono ?_; rintro e w6 ⟨s, s1, s2, rfl, RD6', hg6⟩; have B6' := below_read B5' (by omega) hg6; have B6 := B6'.alloc B6'.size (.cells #[.int .i64 x, .int .i64 (60 - y)] 3); have hc' := two_at (heap_new w6 (.cells #[.int .i64 x, .int .i64 (60 - y)] 3)) u1 u3; clear hg6 RD5 B5 hc RD5' B5'))
    all_goals
      clear hw
      obtain ⟨k1, k2⟩ := two_bd (x := x) (y := 60 - y) (u := u) (lo := -1) (hi := 61) (by omega) (by omega) (by omega) (by omega)
      go_wp2
      first
        | exact bodyPost_ret (v := .tuple #[.int .i64 (two x (60 - y) u), .bool (s == 0)]) (by simp [results, Try.results35, go_sem]) rfl ⟨_, _, k1, k2, rfl, B6⟩
        | exact bodyPost_ret (v := .tuple #[.int .i64 (two x (60 - y) u), .bool (s == 0)]) (by simp [results, Try.results35, go_sem]) rfl ⟨_, _, k1, k2, rfl, B6.alloc B6.size _⟩
  · have ez : (z == 0) = false := by simp [hz]
    clear hz z2
    go_wp2_with fail
    refine (c_pick _ _ _ _ RD2 (by omega) (by omega)).mono ?_
    rintro e w3 ⟨x, x1, x2, rfl, RD3, hg3⟩
    have B3 := below_read B2 (by omega) hg3
    clear hg3
    go_wp2_with fail
    refine (c_pick _ _ _ _ RD3 (by omega) (by omega)).mono ?_
    rintro e w4 ⟨y, y1, y2, rfl, RD4, hg4⟩
    have B4 := below_read B3 (by omega) hg4
    clear hg4
    go_wp2
    exact bodyPost_ret (v := .tuple #[.int .i64 (x - 1), .bool (y == 0)]) (by simp [results, Try.results35, go_sem]) rfl ⟨_, _, by omega, by omega, rfl, B4⟩
def sev (y : Int) : Int := if y = 0 then 0 else if y = 1 then 0 else if y = 2 then 3 else if y = 3 then -6 else if y = 4 then 7 else if y = 5 then -7 else 20
theorem sev_bd (y : Int) : -7 ≤ sev y ∧ sev y ≤ 20 := by unfold sev; split <;> (try split) <;> (try split) <;> (try split) <;> (try split) <;> (try split) <;> omega
theorem seven_at {w : World} {b : Nat} {t : TypeId} {y : Int} (h : w.heap[b]? = some (.cells #[.int .i64 0, .int .i64 0, .int .i64 3, .int .i64 (-6), .int .i64 7, .int .i64 (-7), .int .i64 20] t)) (h1 : 0 ≤ y) (h2 : y ≤ 6) :
    w.cell? ⟨b, y.toNat, none⟩ = some (.int .i64 (sev y)) := by
  have hy : y = 0 ∨ y = 1 ∨ y = 2 ∨ y = 3 ∨ y = 4 ∨ y = 5 ∨ y = 6 := by omega
  rw [cell_of_row _ _ _ _ _ _ h]
  rcases hy with rfl | rfl | rfl | rfl | rfl | rfl | rfl <;> rfl
set_option maxHeartbeats 8000000 in
theorem c_DrawGovernorStep (A : Option Addr) (m c : Nat) (bs : List Int) (w : World) (hS : SrcB w A m bs) (hm : m ≤ 2097152) (hmc : m ≤ c) :
    Calls Try.prog 15 #[.slice A m c] w (GotBIB (-7) 20 w) := by
  go_enter Try.func15, Try.ntmps15
  go_wp2_with fail
  refine (c_openR _ _ _ bs _ hS hm hmc w.heap.size rfl).mono ?_
  rintro e w1 ⟨rfl, RD1, B1⟩
  have RD := RD1.drew
  have B := B1.drew
  have l1 := RD1.lt
  go_wp2_with fail
  go_region_with (first
    | (go_at_call 54; refine (c_pick _ _ _ _ RD (by omega) (by omega)).mono ?_; rintro e w2 ⟨x, x1, x2, rfl, RD2, hg2⟩; have B2 := below_read B (by omega) hg2; have l2 := RD2.lt; clear hg2 RD B)
    | (go_at_call 54; refine (c_pick _ _ _ _ (RD1.alloc _).drew (by omega) (by omega)).mono ?_; rintro e w2 ⟨x, x1, x2, rfl, RD2, hg2⟩; have B2 := below_read (B1.alloc B1.size _).drew (by omega) hg2; have hb2 := ((hg2.block w1.heap.size (lt_drew_alloc w1 _) (ne_some (by omega))).trans (heap_new w1 (.cells #[.int .i64 0, .int .i64 0, .int .i64 3, .int .i64 (-6), .int .i64 7, .int .i64 (-7), .int .i64 20] 3))); have hl2 : w1.heap.size < w2.heap.size := Nat.lt_of_lt_of_le (lt_drew_alloc w1 _) hg2.size; have l2 := RD2.lt; clear hg2 RD B)
    | (go_at_call 54; refine (c_pick _ _ _ _ RD2 (by omega) (by omega)).mono ?_; rintro e w3 ⟨y, y1, y2, rfl, RD3, hg3⟩; have B3 := below_read B2 (by omega) hg3; have y3 : y ≤ 6 := (by omega); have l3 := RD3.lt; have hn3 := seven_at (heap_new w3 (.cells #[.int .i64 0, .int .i64 0, .int .i64 3, .int .i64 (-6), .int .i64 7, .int .i64 (-7), .int .i64 20] 3)) y1 y3; try (have hb3 := (hg3.block w1.heap.size hl2 (ne_some (by omega))).trans hb2; have hc3 := seven_at hb3 y1 y3; have hl3 := Nat.lt_of_lt_of_le hl2 hg3.size); clear hg3 RD2 B2)
    | (go_at_call 54; refine (c_pick _ _ _ _ (RD2.alloc _) (by omega) (by omega)).mono ?_; rintro e w3 ⟨y, y1, y2, rfl, RD3, hg3⟩; have B3 := below_read (B2.alloc B2.size _) (by omega) hg3; have y3 : y ≤ 6 := (by omega); have l3 := RD3.lt; have hn3 := seven_at (heap_new w3 (.cells #[.int .i64 0, .int .i64 0, .int .i64 3, .int .i64 (-6), .int .i64 7, .int .i64 (-7), .int .i64 20] 3)) y1 y3; have hb3 := ((hg3.block w2.heap.size (by simp) (ne_some (by omega))).trans (heap_new w2 (.cells #[.int .i64 0, .int .i64 0, .int .i64 3, .int .i64 (-6), .int .i64 7, .int .i64 (-7), .int .i64 20] 3))); have hc3 := seven_at hb3 y1 y3; have hl3 : w2.heap.size < w3.heap.size := (by have := hg3.size; simp at this; omega); clear hg3 RD2 B2)
    | (go_at_call 54; refine (c_pick _ _ _ _ RD3 (by omega) (by omega)).mono ?_; rintro e w4 ⟨s, s1, s2, rfl, RD4, hg4⟩; have B4 := below_read B3 (by omega) hg4; have hn4 := seven_at (heap_new w4 (.cells #[.int .i64 0, .int .i64 0, .int .i64 3, .int .i64 (-6), .int .i64 7, .int .i64 (-7), .int .i64 20] 3)) y1 y3; try (have hc4 := hg4.cell hc3 (ne_some (by first | (dsimp only; omega) | omega))); clear hg4 RD3 B3)
    | (go_at_call 54; refine (c_pick _ _ _ _ (RD3.alloc _) (by omega) (by omega)).mono ?_; rintro e w4 ⟨s, s1, s2, rfl, RD4, hg4⟩; have B4 := below_read (B3.alloc B3.size _) (by omega) hg4; have hc4 := hg4.cell (seven_at (heap_new w3 (.cells #[.int .i64 0, .int .i64 0, .int .i64 3, .int .i64 (-6), .int .i64 7, .int .i64 (-7), .int .i64 20] 3)) y1 y3) (ne_some (by first | (dsimp only; omega) | omega)); clear hg4 RD3 B3))
  all_goals
    obtain ⟨k1, k2⟩ := sev_bd y
    go_wp2
    first
      | exact bodyPost_ret (v := .tuple #[.bool (x == 0), .int .i64 (sev y), .bool (s == 0)]) (by simp [results, Try.results15, go_sem]) rfl ⟨_, _, _, k1, k2, rfl, B4⟩
      | exact bodyPost_ret (v := .tuple #[.bool (x == 0), .int .i64 (sev y), .bool (s == 0)]) (by simp [results, Try.results15, go_sem]) rfl ⟨_, _, _, k1, k2, rfl, B4.alloc B4.size _⟩
end Go.Proofs.Ytjnoejlccbfcjaa
