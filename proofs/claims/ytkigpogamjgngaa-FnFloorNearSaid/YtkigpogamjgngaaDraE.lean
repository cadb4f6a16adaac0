/- Contracts of the functions that draw floors, positions and weights out of a code: some arguments within narrow bounds, and all memory that was there is as it was. No conditions but those that stand at each. -/
import Derived.Test.YtkigpogamjgngaaDra
import Derived.Test.YtkigpogamjgngaaDrF
namespace Go.Proofs.Ytkigpogamjgngaa
open Go.RowKit Go.Joins Pl
/-- A list was drawn out of a code. -/
def GotL (lo hi : Int) (w : World) (e : Ending) (w' : World) : Prop :=
  ∃ (A : Option Addr) (n c : Nat) (L : List Int), n ≤ 9 ∧ n ≤ c ∧ Sl w' A n L ∧ (∀ x ∈ L, lo ≤ x ∧ x ≤ hi) ∧ e = .returned (.slice A n c) ∧ Below w.heap.size w w'
/-- A list and a number were drawn out of a code. -/
def GotLI (w : World) (e : Ending) (w' : World) : Prop :=
  ∃ (A : Option Addr) (n c : Nat) (L : List Int) (x : Int), n ≤ 9 ∧ n ≤ c ∧ Sl w' A n L ∧ (∀ x ∈ L, 0 ≤ x ∧ x ≤ 100) ∧ (-1 ≤ x ∧ x ≤ 100) ∧ e = .returned (.tuple #[.slice A n c, .int .i64 x]) ∧ Below w.heap.size w w'
/-- A list and two numbers were drawn out of a code. -/
def GotLII (w : World) (e : Ending) (w' : World) : Prop :=
  ∃ (A : Option Addr) (n c : Nat) (L : List Int) (x y : Int), n ≤ 9 ∧ n ≤ c ∧ Sl w' A n L ∧ (∀ x ∈ L, 0 ≤ x ∧ x ≤ 100) ∧ (-1 ≤ x ∧ x ≤ 9) ∧ (0 ≤ y ∧ y ≤ 9) ∧ e = .returned (.tuple #[.slice A n c, .int .i64 x, .int .i64 y]) ∧ Below w.heap.size w w'
set_option maxHeartbeats 2000000 in
theorem c_DrawFloorsValid (A : Option Addr) (m c : Nat) (bs : List Int) (w : World) (hS : SrcB w A m bs) (hm : m ≤ 2097152) (hmc : m ≤ c) :
    Calls Try.prog 11 #[.slice A m c] w (GotL 0 100 w) := by
  go_enter Try.func11, Try.ntmps11
  go_wp2_with fail
  refine (c_openR _ _ _ bs _ hS hm hmc w.heap.size rfl).mono ?_
  rintro e w1 ⟨rfl, RD1, B1⟩
  go_wp2_with fail
  refine (c_l20Floors _ _ _ _ RD1 (by omega) (by omega) (by omega)).mono ?_
  rintro e w2 ⟨A1, n1, c1, L1, hn1, rfl, hc1, s1, hL1, RD2, hg2⟩
  have B2 := below_read B1 (by omega) hg2
  clear hg2
  have HL := Lib.hid hL1; clear hL1
  go_wp2
  go_ret
  exact ⟨_, _, _, _, hn1, hc1, s1.sl, HL.out, rfl, B2⟩
set_option maxHeartbeats 2000000 in
theorem c_DrawLoadSum (A : Option Addr) (m c : Nat) (bs : List Int) (w : World) (hS : SrcB w A m bs) (hm : m ≤ 2097152) (hmc : m ≤ c) :
    Calls Try.prog 22 #[.slice A m c] w (GotL 0 41 w) := by
  go_enter Try.func22, Try.ntmps22
  go_wp2_with fail
  refine (c_openR _ _ _ bs _ hS hm hmc w.heap.size rfl).mono ?_
  rintro e w1 ⟨rfl, RD1, B1⟩
  go_wp2_with fail
  refine (c_l20Weights _ _ _ _ RD1 (by omega) (by omega) (by omega)).mono ?_
  rintro e w2 ⟨A1, n1, c1, L1, hn1, rfl, hc1, s1, hL1, RD2, hg2⟩
  have B2 := below_read B1 (by omega) hg2
  clear hg2
  have HL := Lib.hid hL1; clear hL1
  go_wp2
  go_ret
  exact ⟨_, _, _, _, hn1, hc1, s1.sl, HL.out, rfl, B2⟩
set_option maxHeartbeats 2000000 in
theorem c_DrawOverloaded (A : Option Addr) (m c : Nat) (bs : List Int) (w : World) (hS : SrcB w A m bs) (hm : m ≤ 2097152) (hmc : m ≤ c) :
    Calls Try.prog 18 #[.slice A m c] w (GotL 0 41 w) := by
  go_enter Try.func18, Try.ntmps18
  go_wp2_with fail
  refine (c_openR _ _ _ bs _ hS hm hmc w.heap.size rfl).mono ?_
  rintro e w1 ⟨rfl, RD1, B1⟩
  go_wp2_with fail
  refine (c_l20Weights _ _ _ _ RD1 (by omega) (by omega) (by omega)).mono ?_
  rintro e w2 ⟨A1, n1, c1, L1, hn1, rfl, hc1, s1, hL1, RD2, hg2⟩
  have B2 := below_read B1 (by omega) hg2
  clear hg2
  have HL := Lib.hid hL1; clear hL1
  go_wp2
  go_ret
  exact ⟨_, _, _, _, hn1, hc1, s1.sl, HL.out, rfl, B2⟩
set_option maxHeartbeats 2000000 in
theorem c_DrawFloorAt (A : Option Addr) (m c : Nat) (bs : List Int) (w : World) (hS : SrcB w A m bs) (hm : m ≤ 2097152) (hmc : m ≤ c) :
    Calls Try.prog 15 #[.slice A m c] w (GotLI w) := by
  go_enter Try.func15, Try.ntmps15
  go_wp2_with fail
  refine (c_openR _ _ _ bs _ hS hm hmc w.heap.size rfl).mono ?_
  rintro e w1 ⟨rfl, RD1, B1⟩
  go_wp2_with fail
  refine (c_l20Floors _ _ _ _ RD1 (by omega) (by omega) (by omega)).mono ?_
  rintro e w2 ⟨A1, n1, c1, L1, hn1, rfl, hc1, s1, hL1, RD2, hg2⟩
  have B2 := below_read B1 (by omega) hg2
  clear hg2
  have HL := Lib.hid hL1; clear hL1
  go_wp2_with fail
  refine (c_l20At _ _ _ _ _ _ _ RD2 (by omega) s1 hn1 HL.out).mono ?_
  rintro e w3 ⟨x, x1, x2, rfl, RD3, hg3⟩
  have B3 := below_read B2 (by omega) hg3
  have s3 := s1.read hg3
  clear hg3
  go_wp2
  exact bodyPost_ret (v := .tuple #[.slice A1 n1 c1, .int .i64 x]) (by simp [results, Try.results15, go_sem]) rfl ⟨_, _, _, _, _, hn1, hc1, s3.sl, HL.out, ⟨x1, x2⟩, rfl, B3⟩
set_option maxHeartbeats 2000000 in
theorem c_DrawFloorBelow (A : Option Addr) (m c : Nat) (bs : List Int) (w : World) (hS : SrcB w A m bs) (hm : m ≤ 2097152) (hmc : m ≤ c) :
    Calls Try.prog 28 #[.slice A m c] w (GotLI w) := by
  go_enter Try.func28, Try.ntmps28
  go_wp2_with fail
  refine (c_DrawFloorAt _ _ _ bs _ hS hm hmc).mono ?_
  rintro e w2 ⟨A1, n1, c1, L1, x, hn1, hc1, s1, hL1, hx, rfl, B2⟩
  have HL := Lib.hid hL1; clear hL1
  go_wp2
  exact bodyPost_ret (v := .tuple #[.slice A1 n1 c1, .int .i64 x]) (by simp [results, Try.results28, go_sem]) rfl ⟨_, _, _, _, _, hn1, hc1, s1, HL.out, hx, rfl, B2⟩
set_option maxHeartbeats 2000000 in
theorem c_DrawFloorNear (A : Option Addr) (m c : Nat) (bs : List Int) (w : World) (hS : SrcB w A m bs) (hm : m ≤ 2097152) (hmc : m ≤ c) :
    Calls Try.prog 31 #[.slice A m c] w (GotLI w) := by
  go_enter Try.func31, Try.ntmps31
  go_wp2_with fail
  refine (c_DrawFloorAt _ _ _ bs _ hS hm hmc).mono ?_
  rintro e w2 ⟨A1, n1, c1, L1, x, hn1, hc1, s1, hL1, hx, rfl, B2⟩
  have HL := Lib.hid hL1; clear hL1
  go_wp2
  exact bodyPost_ret (v := .tuple #[.slice A1 n1 c1, .int .i64 x]) (by simp [results, Try.results31, go_sem]) rfl ⟨_, _, _, _, _, hn1, hc1, s1, HL.out, hx, rfl, B2⟩
set_option maxHeartbeats 2000000 in
theorem c_DrawFloorWay (A : Option Addr) (m c : Nat) (bs : List Int) (w : World) (hS : SrcB w A m bs) (hm : m ≤ 2097152) (hmc : m ≤ c) :
    Calls Try.prog 25 #[.slice A m c] w (GotLII w) := by
  go_enter Try.func25, Try.ntmps25
  go_wp2_with fail
  refine (c_openR _ _ _ bs _ hS hm hmc w.heap.size rfl).mono ?_
  rintro e w1 ⟨rfl, RD1, B1⟩
  go_wp2_with fail
  refine (c_l20Floors _ _ _ _ RD1 (by omega) (by omega) (by omega)).mono ?_
  rintro e w2 ⟨A1, n1, c1, L1, hn1, rfl, hc1, s1, hL1, RD2, hg2⟩
  have B2 := below_read B1 (by omega) hg2
  clear hg2
  have HL := Lib.hid hL1; clear hL1
  go_wp2_with fail
  refine (c_pick _ _ _ _ RD2 (by omega) (by omega)).mono ?_
  rintro e w3 ⟨x, x1, x2, rfl, RD3, hg3⟩
  have B3 := below_read B2 (by omega) hg3
  have s1 := s1.read hg3
  have x3 : x ≤ 9 := by omega
  clear x2 hg3
  go_wp2_with fail
  refine (c_pick _ _ _ _ RD3 (by omega) (by omega)).mono ?_
  rintro e w4 ⟨y, y1, y2, rfl, RD4, hg4⟩
  have B4 := below_read B3 (by omega) hg4
  have s1 := s1.read hg4
  have y3 : y ≤ 19 := by omega
  clear y2 hg4
  go_wp2_with fail
  refine (c_pick _ _ _ _ RD4 (by omega) (by omega)).mono ?_
  rintro e w5 ⟨z, z1, z2, rfl, RD5, hg5⟩
  have B5 := below_read B4 (by omega) hg5
  have s1 := s1.read hg5
  have z3 : z ≤ 9 := by omega
  clear z2 hg5
  go_wp2
  exact bodyPost_ret (v := .tuple #[.slice A1 n1 c1, .int .i64 (x - y / 19), .int .i64 z]) (by simp [results, Try.results25, go_sem]) rfl ⟨_, _, _, _, _, _, hn1, hc1, s1.sl, HL.out, ⟨by omega, by omega⟩, ⟨by omega, by omega⟩, rfl, B5⟩
end Go.Proofs.Ytkigpogamjgngaa
