/- Contracts of the functions that draw a law's arguments out of a code: some arguments within narrow bounds, and all memory that was there is as it was. No conditions but those that stand at each. -/
import Derived.Test.YtjnoejlccbfcjaaDrM
import Derived.Test.YtjnoejlccbfcjaaDrT
namespace Go.Proofs.Ytjnoejlccbfcjaa
open Go.RowKit Go.Joins Pl
theorem SrcB.call {w w' : World} {A : Option Addr} {m : Nat} {bs : List Int} (h : SrcB w A m bs) (hb : Below w.heap.size w w') : SrcB w' A m bs :=
  ⟨h.1, fun h0 => by
    obtain ⟨ad, e, hlt, hc⟩ := h.2 h0
    exact ⟨ad, e, Nat.lt_of_lt_of_le hlt hb.size, fun j hj => (hb.cell (by rw [blk_add]; exact hlt)).trans (hc j hj)⟩⟩
theorem SrcB.alloc {w : World} {A : Option Addr} {m : Nat} {bs : List Int} (h : SrcB w A m bs) (o : Obj) : SrcB (w.alloc o) A m bs := h.call ((Below.refl _ _).alloc (Nat.le_refl _) o)
theorem SlR.put {w : World} {R : Nat} {A : Option Addr} {n : Nat} {L : List Int} (h : SlR w R A n L) {p : Addr} (hp : p.block ≤ R) (v : Value) : SlR (w.setCell p v) R A n L :=
  ⟨h.1, fun hn => by
    obtain ⟨b, o, e, hR, hlt, hc⟩ := h.2 hn
    exact ⟨b, o, e, hR, by simpa [World.setCell] using hlt, fun j hj => (World.cell?_setCell_other _ _ _ _ (fun h => by have := congrArg Addr.block h; simp at this; omega)).trans (hc j hj)⟩⟩
theorem c_openR (A : Option Addr) (m c : Nat) (bs : List Int) (w : World) (hS : SrcB w A m bs) (hm : m ≤ 2097152) (hmc : m ≤ c) (R : Nat) (hH : w.heap.size = R) :
    Calls Try.prog 53 #[.slice A m c] w fun e w' => e = .returned (.pointer (some ⟨R, 0, none⟩)) ∧ Rd w' R 0 ∧ Below w.heap.size w w' := by
  subst hH; exact c_open A m c bs w hS hm hmc
/-- A car was drawn out of a code. -/
def GotM (w : World) (e : Ending) (w' : World) : Prop :=
  ∃ a v : Int, (-1 ≤ a ∧ a ≤ 61) ∧ (-6 ≤ v ∧ v ≤ 6) ∧ e = .returned (.agg #[.int .i64 a, .int .i64 v]) ∧ Below w.heap.size w w'
/-- A door was drawn out of a code. -/
def GotD (w : World) (e : Ending) (w' : World) : Prop :=
  ∃ a v : Int, (-1 ≤ a ∧ a ≤ 5) ∧ (-1 ≤ v ∧ v ≤ 4) ∧ e = .returned (.agg #[.int .i64 a, .int .i64 v]) ∧ Below w.heap.size w w'
set_option maxHeartbeats 2000000 in
theorem c_DrawMotionValid (A : Option Addr) (m c : Nat) (bs : List Int) (w : World) (hS : SrcB w A m bs) (hm : m ≤ 2097152) (hmc : m ≤ c) :
    Calls Try.prog 22 #[.slice A m c] w (GotM w) := by
  go_enter Try.func22, Try.ntmps22
  go_wp2_with fail
  refine (c_openR _ _ _ bs _ (hS.alloc _) hm hmc (w.heap.size + 1) (by simp)).mono ?_
  rintro e w1 ⟨rfl, RD1, hb1⟩
  have B1 := below_after hb1
  have ro1 := (Own2.new _ _ _ _).call hb1
  go_wp2_with fail
  refine (c_l20Motion _ _ _ _ RD1 (by omega) (by omega) (by omega)).mono ?_
  rintro e w2 ⟨a, v, ha, hv, rfl, RD2, hg2⟩
  have B2 := below_read B1 (by omega) hg2
  have ro2 := ro1.read hg2 (by omega)
  clear hg2
  have r0 := ro2.c0
  have r1 := ro2.c1
  have g0 := ro2.f0
  have g1 := ro2.f1
  go_wp2
  exact bodyPost_ret (v := .agg #[.int .i64 a, .int .i64 v]) (by simp [results, Try.results22, go_sem, r0, r1]) rfl ⟨a, v, ha, hv, rfl, (B2.setCell (by simp) _).setCell (by simp) _⟩
set_option maxHeartbeats 2000000 in
theorem c_DrawDoorValid (A : Option Addr) (m c : Nat) (bs : List Int) (w : World) (hS : SrcB w A m bs) (hm : m ≤ 2097152) (hmc : m ≤ c) :
    Calls Try.prog 25 #[.slice A m c] w (GotD w) := by
  go_enter Try.func25, Try.ntmps25
  go_wp2_with fail
  refine (c_openR _ _ _ bs _ (hS.alloc _) hm hmc (w.heap.size + 1) (by simp)).mono ?_
  rintro e w1 ⟨rfl, RD1, hb1⟩
  have B1 := below_after hb1
  have ro1 := (Own2.new _ _ _ _).call hb1
  go_wp2_with fail
  refine (c_l20Door _ _ _ _ RD1 (by omega) (by omega) (by omega)).mono ?_
  rintro e w2 ⟨a, v, ha, hv, rfl, RD2, hg2⟩
  have B2 := below_read B1 (by omega) hg2
  have ro2 := ro1.read hg2 (by omega)
  clear hg2
  have r0 := ro2.c0
  have r1 := ro2.c1
  have g0 := ro2.f0
  have g1 := ro2.f1
  go_wp2
  exact bodyPost_ret (v := .agg #[.int .i64 a, .int .i64 v]) (by simp [results, Try.results25, go_sem, r0, r1]) rfl ⟨a, v, ha, hv, rfl, (B2.setCell (by simp) _).setCell (by simp) _⟩
set_option maxHeartbeats 2000000 in
theorem c_DrawDoorTicks (A : Option Addr) (m c : Nat) (bs : List Int) (w : World) (hS : SrcB w A m bs) (hm : m ≤ 2097152) (hmc : m ≤ c) :
    Calls Try.prog 39 #[.slice A m c] w (GotD w) := by
  go_enter Try.func39, Try.ntmps39
  go_wp2_with fail
  refine (c_openR _ _ _ bs _ (hS.alloc _) hm hmc (w.heap.size + 1) (by simp)).mono ?_
  rintro e w1 ⟨rfl, RD1, hb1⟩
  have B1 := below_after hb1
  have ro1 := (Own2.new _ _ _ _).call hb1
  go_wp2_with fail
  refine (c_l20Door _ _ _ _ RD1 (by omega) (by omega) (by omega)).mono ?_
  rintro e w2 ⟨a, v, ha, hv, rfl, RD2, hg2⟩
  have B2 := below_read B1 (by omega) hg2
  have ro2 := ro1.read hg2 (by omega)
  clear hg2
  have r0 := ro2.c0
  have r1 := ro2.c1
  have g0 := ro2.f0
  have g1 := ro2.f1
  go_wp2
  exact bodyPost_ret (v := .agg #[.int .i64 a, .int .i64 v]) (by simp [results, Try.results39, go_sem, r0, r1]) rfl ⟨a, v, ha, hv, rfl, (B2.setCell (by simp) _).setCell (by simp) _⟩
/-- A number was drawn out of a code. -/
def GotI (lo hi : Int) (w : World) (e : Ending) (w' : World) : Prop := ∃ x : Int, lo ≤ x ∧ x ≤ hi ∧ e = .returned (.int .i64 x) ∧ Below w.heap.size w w'
set_option maxHeartbeats 2000000 in
theorem c_DrawBrakeWay (A : Option Addr) (m c : Nat) (bs : List Int) (w : World) (hS : SrcB w A m bs) (hm : m ≤ 2097152) (hmc : m ≤ c) :
    Calls Try.prog 19 #[.slice A m c] w (GotI (-7) 7 w) := by
  go_enter Try.func19, Try.ntmps19
  go_wp2_with fail
  refine (c_openR _ _ _ bs _ hS hm hmc w.heap.size rfl).mono ?_
  rintro e w1 ⟨rfl, RD1, B1⟩
  go_wp2_with fail
  refine (c_pick _ _ _ _ RD1 (by omega) (by omega)).mono ?_
  rintro e w2 ⟨x, x1, x2, rfl, RD2, hg2⟩
  have B2 := below_read B1 (by omega) hg2
  have x3 : x ≤ 14 := by omega
  clear x2 hg2
  go_wp2
  go_ret
  exact ⟨_, by omega, by omega, rfl, B2⟩
/-- A door and two bools were drawn out of a code. -/
def GotDS (w : World) (e : Ending) (w' : World) : Prop :=
  ∃ (a v : Int) (p q : Bool), (-1 ≤ a ∧ a ≤ 5) ∧ (-1 ≤ v ∧ v ≤ 4) ∧ e = .returned (.tuple #[.agg #[.int .i64 a, .int .i64 v], .bool p, .bool q]) ∧ Below w.heap.size w w'
set_option maxHeartbeats 2000000 in
theorem c_DrawDoorStep (A : Option Addr) (m c : Nat) (bs : List Int) (w : World) (hS : SrcB w A m bs) (hm : m ≤ 2097152) (hmc : m ≤ c) :
    Calls Try.prog 28 #[.slice A m c] w (GotDS w) := by
  go_enter Try.func28, Try.ntmps28
  go_wp2_with fail
  refine (c_openR _ _ _ bs _ (hS.alloc _) hm hmc (w.heap.size + 1) (by simp)).mono ?_
  rintro e w1 ⟨rfl, RD1, hb1⟩
  have B1 := below_after hb1
  have ro1 := (Own2.new _ _ _ _).call hb1
  go_wp2_with fail
  refine (c_l20Door _ _ _ _ RD1 (by omega) (by omega) (by omega)).mono ?_
  rintro e w2 ⟨a, v, ha, hv, rfl, RD2, hg2⟩
  have B2 := below_read B1 (by omega) hg2
  have ro2 := ro1.read hg2 (by omega)
  clear hg2
  go_wp2_with fail
  refine (c_pick _ _ _ _ RD2 (by omega) (by omega)).mono ?_
  rintro e w3 ⟨x, x1, x2, rfl, RD3, hg3⟩
  have B3 := below_read B2 (by omega) hg3
  have ro3 := ro2.read hg3 (by omega)
  have x3 : x ≤ 2 := by omega
  clear x2 hg3
  go_wp2_with fail
  refine (c_pick _ _ _ _ RD3 (by omega) (by omega)).mono ?_
  rintro e w4 ⟨y, y1, y2, rfl, RD4, hg4⟩
  have B4 := below_read B3 (by omega) hg4
  have ro4 := ro3.read hg4 (by omega)
  have y3 : y ≤ 2 := by omega
  clear y2 hg4
  have r0 := ro4.c0
  have r1 := ro4.c1
  have g0 := ro4.f0
  have g1 := ro4.f1
  go_wp2
  exact bodyPost_ret (v := .tuple #[.agg #[.int .i64 a, .int .i64 v], .bool (x == 0), .bool (y == 0)]) (by simp [results, Try.results28, go_sem, r0, r1]) rfl ⟨a, v, _, _, ha, hv, rfl, (B4.setCell (by simp) _).setCell (by simp) _⟩
/-- A bool and two lists were drawn out of a code. -/
def GotGR (w : World) (e : Ending) (w' : World) : Prop :=
  ∃ (p : Bool) (A : Option Addr) (n c : Nat) (L : List Int) (A' : Option Addr) (n' c' : Nat) (L' : List Int), n ≤ 15 ∧ n' ≤ 4 ∧ Sl w' A n L ∧ Sl w' A' n' L' ∧ (∀ x ∈ L, -9 ≤ x ∧ x ≤ 9) ∧ e = .returned (.tuple #[.bool p, .slice A n c, .slice A' n' c']) ∧ Below w.heap.size w w'
set_option maxHeartbeats 2000000 in
theorem c_DrawGovernorRun (A : Option Addr) (m c : Nat) (bs : List Int) (w : World) (hS : SrcB w A m bs) (hm : m ≤ 2097152) (hmc : m ≤ c) :
    Calls Try.prog 31 #[.slice A m c] w (GotGR w) := by
  go_enter Try.func31, Try.ntmps31
  go_wp2_with fail
  refine (c_openR _ _ _ bs _ hS hm hmc w.heap.size rfl).mono ?_
  rintro e w1 ⟨rfl, RD1, B1⟩
  go_wp2_with fail
  refine (c_pick _ _ _ _ RD1 (by omega) (by omega)).mono ?_
  rintro e w2 ⟨x, x1, x2, rfl, RD2, hg2⟩
  have B2 := below_read B1 (by omega) hg2
  have x3 : x ≤ 2 := by omega
  clear x2 hg2
  go_wp2_with fail
  refine (c_l20Measured _ _ _ RD2 (by omega)).mono ?_
  rintro e w3 ⟨Asa, nsa, csa, Lsa, hnsa, rfl, hcsa, sa, hLsa, RD3, hg3⟩
  have B3 := below_read B2 (by omega) hg3
  clear hg3
  go_wp2_with fail
  refine (c_l20Times _ _ _ RD3 (by omega)).mono ?_
  rintro e w4 ⟨Asb, nsb, csb, Lsb, hnsb, rfl, hcsb, sb, hLsb, RD4, hg4⟩
  have B4 := below_read B3 (by omega) hg4
  have sa := sa.read hg4
  clear hg4
  have HA := Lib.hid hLsa; clear hLsa hLsb
  go_wp2
  exact bodyPost_ret (v := .tuple #[.bool (x == 0), .slice Asa nsa csa, .slice Asb nsb csb]) (by simp [results, Try.results31, go_sem]) rfl ⟨_, _, _, _, _, _, _, _, _, hnsa, hnsb, sa.sl, sb.sl, HA.out, rfl, B4⟩
/-- A door, a number and two lists were drawn out of a code. -/
def GotDR (w : World) (e : Ending) (w' : World) : Prop :=
  ∃ (a v t : Int) (A : Option Addr) (n c : Nat) (L : List Int) (A' : Option Addr) (n' c' : Nat) (L' : List Int), n ≤ 4 ∧ n' ≤ 4 ∧ Sl w' A n L ∧ Sl w' A' n' L' ∧ (∀ x ∈ L, 0 ≤ x ∧ x ≤ 19) ∧ (∀ x ∈ L', 0 ≤ x ∧ x ≤ 19) ∧ (-1 ≤ a ∧ a ≤ 5) ∧ (-1 ≤ v ∧ v ≤ 4) ∧ (-30 ≤ t ∧ t ≤ 103) ∧
    e = .returned (.tuple #[.agg #[.int .i64 a, .int .i64 v], .int .i64 t, .slice A n c, .slice A' n' c']) ∧ Below w.heap.size w w'
set_option maxHeartbeats 2000000 in
theorem c_DrawDoorRun (A : Option Addr) (m c : Nat) (bs : List Int) (w : World) (hS : SrcB w A m bs) (hm : m ≤ 2097152) (hmc : m ≤ c) :
    Calls Try.prog 43 #[.slice A m c] w (GotDR w) := by
  go_enter Try.func43, Try.ntmps43
  go_wp2_with fail
  refine (c_openR _ _ _ bs _ (hS.alloc _) hm hmc (w.heap.size + 1) (by simp)).mono ?_
  rintro e w1 ⟨rfl, RD1, hb1⟩
  have B1 := below_after hb1
  have ro1 := (Own2.new _ _ _ _).call hb1
  go_wp2_with fail
  refine (c_l20Door _ _ _ _ RD1 (by omega) (by omega) (by omega)).mono ?_
  rintro e w2 ⟨a, v, ha, hv, rfl, RD2, hg2⟩
  have B2 := below_read B1 (by omega) hg2
  have ro2 := ro1.read hg2 (by omega)
  clear hg2
  go_wp2_with fail
  refine (c_pick _ _ _ _ RD2 (by omega) (by omega)).mono ?_
  rintro e w3 ⟨x, x1, x2, rfl, RD3, hg3⟩
  have B3 := below_read B2 (by omega) hg3
  have ro3 := ro2.read hg3 (by omega)
  have x3 : x ≤ 23 := by omega
  clear x2 hg3
  go_wp2_with fail
  refine (c_pick _ _ _ _ RD3 (by omega) (by omega)).mono ?_
  rintro e w4 ⟨y, y1, y2, rfl, RD4, hg4⟩
  have B4 := below_read B3 (by omega) hg4
  have ro4 := ro3.read hg4 (by omega)
  have y3 : y ≤ 19 := by omega
  clear y2 hg4
  go_wp2_with fail
  refine (c_pick _ _ _ _ RD4 (by omega) (by omega)).mono ?_
  rintro e w5 ⟨z, z1, z2, rfl, RD5, hg5⟩
  have B5 := below_read B4 (by omega) hg5
  have ro5 := ro4.read hg5 (by omega)
  have z3 : z ≤ 19 := by omega
  clear z2 hg5
  go_wp2_with fail
  refine (c_l20Times _ _ _ RD5 (by omega)).mono ?_
  rintro e w6 ⟨Asa, nsa, csa, Lsa, hnsa, rfl, hcsa, sa, hLsa, RD6, hg6⟩
  have B6 := below_read B5 (by omega) hg6
  have ro6 := ro5.read hg6 (by omega)
  clear hg6
  go_wp2_with fail
  refine (c_l20Times _ _ _ RD6 (by omega)).mono ?_
  rintro e w7 ⟨Asb, nsb, csb, Lsb, hnsb, rfl, hcsb, sb, hLsb, RD7, hg7⟩
  have B7 := below_read B6 (by omega) hg7
  have ro7 := ro6.read hg7 (by omega)
  have sa := sa.read hg7
  clear hg7
  have r0 := ro7.c0
  have r1 := ro7.c1
  have g0 := ro7.f0
  have g1 := ro7.f1
  have HA := Lib.hid hLsa; clear hLsa
  have HB := Lib.hid hLsb; clear hLsb
  go_wp2
  exact bodyPost_ret (v := .tuple #[.agg #[.int .i64 a, .int .i64 v], .int .i64 (x + y / 19 * 80 - z / 19 * 30), .slice Asa nsa csa, .slice Asb nsb csb]) (by simp [results, Try.results43, go_sem, r0, r1]) rfl ⟨a, v, _, _, _, _, _, _, _, _, _, hnsa, hnsb, ((sa.put (by simp) _).put (by simp) _).sl, ((sb.put (by simp) _).put (by simp) _).sl, HA.out, HB.out, ha, hv, ⟨by omega, by omega⟩, rfl, (B7.setCell (by simp) _).setCell (by simp) _⟩
/-- A car and a target were drawn out of a code. -/
def GotMT (w : World) (e : Ending) (w' : World) : Prop :=
  ∃ a v t : Int, (-1 ≤ a ∧ a ≤ 61) ∧ (-6 ≤ v ∧ v ≤ 6) ∧ (-61 ≤ t ∧ t ≤ 60) ∧ e = .returned (.tuple #[.agg #[.int .i64 a, .int .i64 v], .int .i64 t]) ∧ Below w.heap.size w w'
set_option maxHeartbeats 2000000 in
theorem c_DrawCanStop (A : Option Addr) (m c : Nat) (bs : List Int) (w : World) (hS : SrcB w A m bs) (hm : m ≤ 2097152) (hmc : m ≤ c) :
    Calls Try.prog 45 #[.slice A m c] w (GotMT w) := by
  go_enter Try.func45, Try.ntmps45
  go_wp2_with fail
  refine (c_openR _ _ _ bs _ (hS.alloc _) hm hmc (w.heap.size + 1) (by simp)).mono ?_
  rintro e w1 ⟨rfl, RD1, hb1⟩
  have B1 := below_after hb1
  have ro1 := (Own2.new _ _ _ _).call hb1
  go_wp2_with fail
  refine (c_l20Motion _ _ _ _ RD1 (by omega) (by omega) (by omega)).mono ?_
  rintro e w2 ⟨a, v, ha, hv, rfl, RD2, hg2⟩
  have B2 := below_read B1 (by omega) hg2
  have ro2 := ro1.read hg2 (by omega)
  clear hg2
  obtain ⟨a1, a2⟩ := ha
  have l2 := ro2.lt
  have mo := Own2.new w2 (.int .i64 a) (.int .i64 v) 31
  have rn := ro2.alloc (.cells #[.int .i64 a, .int .i64 v] 31)
  have RN := RD2.alloc (.cells #[.int .i64 a, .int .i64 v] 31)
  have BN := B2.alloc B2.size (.cells #[.int .i64 a, .int .i64 v] 31)
  have hRl := RD2.lt
  have c0 := mo.c0
  have c1 := mo.c1
  go_wp2_with fail
  go_region_with (first | (go_at_call 64; refine (c_l20Target _ _ _ _ _ RN.drew (by omega) a1 a2).mono ?_; rintro e w3 ⟨x, x1, x2, rfl, RD3, hg3⟩; have B3 := below_read BN.drew (by omega) hg3; have ro3 := rn.drew.read hg3 (by omega); have mo3 := mo.drew.read hg3 (by omega); have d0 := mo3.c0; have d1 := mo3.c1; have r0 := ro3.c0; have r1 := ro3.c1; have g0 := ro3.f0; have g1 := ro3.f1; clear hg3))
  all_goals
    go_wp2
    exact bodyPost_ret (v := .tuple #[.agg #[.int .i64 a, .int .i64 v], .int .i64 x]) (by simp [results, Try.results45, go_sem, r0, r1]) rfl ⟨a, v, x, ⟨a1, a2⟩, hv, ⟨x1, x2⟩, rfl, (B3.setCell (by simp) _).setCell (by simp) _⟩
set_option maxHeartbeats 2000000 in
theorem c_DrawMotionStep (A : Option Addr) (m c : Nat) (bs : List Int) (w : World) (hS : SrcB w A m bs) (hm : m ≤ 2097152) (hmc : m ≤ c) :
    Calls Try.prog 51 #[.slice A m c] w (GotMT w) := by
  go_enter Try.func51, Try.ntmps51
  go_wp2_with fail
  refine (c_DrawCanStop _ _ _ bs _ (hS.alloc _) hm hmc).mono ?_
  rintro e w2 ⟨a, v, x, ha, hv, hx, rfl, hb2⟩
  have B2 := below_after hb2
  have ro2 := (Own2.new _ _ _ _).call hb2
  have r0 := ro2.c0
  have r1 := ro2.c1
  have g0 := ro2.f0
  have g1 := ro2.f1
  go_wp2
  exact bodyPost_ret (v := .tuple #[.agg #[.int .i64 a, .int .i64 v], .int .i64 x]) (by simp [results, Try.results51, go_sem, r0, r1]) rfl ⟨a, v, x, ha, hv, hx, rfl, (B2.setCell (by simp) _).setCell (by simp) _⟩
set_option maxHeartbeats 2000000 in
theorem c_DrawWithinLimit (A : Option Addr) (m c : Nat) (bs : List Int) (w : World) (hS : SrcB w A m bs) (hm : m ≤ 2097152) (hmc : m ≤ c) :
    Calls Try.prog 48 #[.slice A m c] w (GotM w) := by
  go_enter Try.func48, Try.ntmps48
  go_wp2_with fail
  refine (c_openR _ _ _ bs _ (hS.alloc _) hm hmc (w.heap.size + 1) (by simp)).mono ?_
  rintro e w1 ⟨rfl, RD1, hb1⟩
  have B1 := below_after hb1
  have ro1 := (Own2.new _ _ _ _).call hb1
  go_wp2_with fail
  refine (c_l20Motion _ _ _ _ RD1 (by omega) (by omega) (by omega)).mono ?_
  rintro e w2 ⟨a, v, ha, hv, rfl, RD2, hg2⟩
  have B2 := below_read B1 (by omega) hg2
  have ro2 := ro1.read hg2 (by omega)
  clear hg2
  have l2 := ro2.lt
  have hRl := RD2.lt
  go_wp2_with fail
  refine (c_pick _ _ _ _ (RD2.alloc _) (by omega) (by omega)).mono ?_
  rintro e w3 ⟨z, z1, z2, rfl, RD3, hg3⟩
  have B3 := below_read (B2.alloc B2.size _) (by omega) hg3
  have ro3 := (ro2.alloc _).read hg3 (by omega)
  have mo3 := (Own2.new _ _ _ _).read hg3 (by omega)
  have l3 := mo3.lt
  clear hg3
  by_cases hz : z = 0
  · subst hz
    have c0 := mo3.c0
    have c1 := mo3.c1
    have f0 := mo3.f0
    have f1 := mo3.f1
    have r0 := ro3.c0
    have r1 := ro3.c1
    have g0 := ro3.f0
    have g1 := ro3.f1
    go_wp2_with fail
    refine (c_pick _ _ _ _ RD3 (by omega) (by omega)).mono ?_
    rintro e w4 ⟨x, x1, x2, rfl, RD4, hg4⟩
    have B4 := below_read B3 (by omega) hg4
    have ro4 := ro3.read hg4 (by omega)
    have mo4 := mo3.read hg4 (by omega)
    have l4 := mo4.lt
    have x3 : x ≤ 11 := by omega
    clear c0 c1 f0 f1 r0 r1 g0 g1
    have c0 := mo4.c0
    have c1 := mo4.c1
    have f0 := mo4.f0
    have f1 := mo4.f1
    have r0 := ro4.c0
    have r1 := ro4.c1
    have g0 := ro4.f0
    have g1 := ro4.f1
    clear x2 hg4
    go_wp2_with fail
    refine (c_pick _ _ _ _ RD4 (by omega) (by omega)).mono ?_
    rintro e w5 ⟨y, y1, y2, rfl, RD5, hg5⟩
    have B5 := below_read B4 (by omega) hg5
    have ro5 := ro4.read hg5 (by omega)
    have mo5 := mo4.read hg5 (by omega)
    have l5 := mo5.lt
    have y3 : y ≤ 11 := by omega
    clear c0 c1 f0 f1 r0 r1 g0 g1
    have c0 := mo5.c0
    have c1 := mo5.c1
    have f0 := mo5.f0
    have f1 := mo5.f1
    have r0 := ro5.c0
    have r1 := ro5.c1
    have g0 := ro5.f0
    have g1 := ro5.f1
    clear y2 hg5
    go_wp2_with fail
    refine (c_pick _ _ _ _ (RD5.alloc _) (by omega) (by omega)).mono ?_
    rintro e w6 ⟨u, u1, u2, rfl, RD6, hg6⟩
    have B6 := below_read (B5.alloc B5.size _) (by omega) hg6
    have ro6 := (ro5.alloc _).read hg6 (by omega)
    have mo6 := (mo5.alloc _).read hg6 (by omega)
    have l6 := mo6.lt
    have u3 : u ≤ 1 := by omega
    have tw := (Own2.new _ _ _ _).read hg6 (by omega)
    have t0 := tw.c0
    have t1 := tw.c1
    have tl := tw.lt
    clear c0 c1 f0 f1 r0 r1 g0 g1
    have c0 := mo6.c0
    have c1 := mo6.c1
    have f0 := mo6.f0
    have f1 := mo6.f1
    have r0 := ro6.c0
    have r1 := ro6.c1
    have g0 := ro6.f0
    have g1 := ro6.f1
    clear hg6 u2
    have hu : u = 0 ∨ u = 1 := by omega
    rcases hu with rfl | rfl
    · go_wp2_with fail
      refine (c_pick _ _ _ _ (RD6.set (by first | (simp; done) | (simp; omega)) _) (by omega) (by omega)).mono ?_
      rintro e w7 ⟨s, s1, s2, rfl, RD7, hg7⟩
      have B7 := below_read (B6.setCell (by first | (simp; done) | (simp; omega)) _) (by omega) hg7
      have ro7 := (ro6.far (by first | (simp; done) | (simp; omega)) _).read hg7 (by omega)
      have mo7 := (mo6.set0 _).read hg7 (by omega)
      have l7 := mo7.lt
      have s3 : s ≤ 10 := by omega
      clear hg7 s2
      clear c0 c1 f0 f1 r0 r1 g0 g1
      have c0 := mo7.c0
      have c1 := mo7.c1
      have f0 := mo7.f0
      have f1 := mo7.f1
      have r0 := ro7.c0
      have r1 := ro7.c1
      have g0 := ro7.f0
      have g1 := ro7.f1
      go_wp2
      exact bodyPost_ret (v := .agg #[.int .i64 (x), .int .i64 (s - 5)]) (by simp [results, Try.results48, go_sem, r0, r1]) rfl ⟨x, s - 5, ⟨by omega, by omega⟩, ⟨by omega, by omega⟩, rfl, ((B7.setCell (by first | (simp; done) | (simp; omega)) _).setCell (by first | (simp; done) | (simp; omega)) _).setCell (by first | (simp; done) | (simp; omega)) _⟩
    · go_wp2_with fail
      refine (c_pick _ _ _ _ (RD6.set (by first | (simp; done) | (simp; omega)) _) (by omega) (by omega)).mono ?_
      rintro e w7 ⟨s, s1, s2, rfl, RD7, hg7⟩
      have B7 := below_read (B6.setCell (by first | (simp; done) | (simp; omega)) _) (by omega) hg7
      have ro7 := (ro6.far (by first | (simp; done) | (simp; omega)) _).read hg7 (by omega)
      have mo7 := (mo6.set0 _).read hg7 (by omega)
      have l7 := mo7.lt
      have s3 : s ≤ 10 := by omega
      clear hg7 s2
      clear c0 c1 f0 f1 r0 r1 g0 g1
      have c0 := mo7.c0
      have c1 := mo7.c1
      have f0 := mo7.f0
      have f1 := mo7.f1
      have r0 := ro7.c0
      have r1 := ro7.c1
      have g0 := ro7.f0
      have g1 := ro7.f1
      go_wp2
      exact bodyPost_ret (v := .agg #[.int .i64 (60 - y), .int .i64 (s - 5)]) (by simp [results, Try.results48, go_sem, r0, r1]) rfl ⟨60 - y, s - 5, ⟨by omega, by omega⟩, ⟨by omega, by omega⟩, rfl, ((B7.setCell (by first | (simp; done) | (simp; omega)) _).setCell (by first | (simp; done) | (simp; omega)) _).setCell (by first | (simp; done) | (simp; omega)) _⟩
  · have ez : (z == 0) = false := by simp [hz]
    clear hz
    have c0 := mo3.c0
    have c1 := mo3.c1
    have f0 := mo3.f0
    have f1 := mo3.f1
    have r0 := ro3.c0
    have r1 := ro3.c1
    have g0 := ro3.f0
    have g1 := ro3.f1
    go_wp2
    exact bodyPost_ret (v := .agg #[.int .i64 a, .int .i64 v]) (by simp [results, Try.results48, go_sem, r0, r1]) rfl ⟨a, v, ha, hv, rfl, (B3.setCell (by simp) _).setCell (by simp) _⟩
end Go.Proofs.Ytjnoejlccbfcjaa
