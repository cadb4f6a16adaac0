/- Contracts of the functions that draw floors, a car and a floor out of a code: some arguments, and all memory that was there is as it was. No conditions but those that stand at each. -/
import Derived.Test.YthmjmlblnikmaaaDrL
import Derived.Deep.RegionHeld3
namespace Go.Proofs.Ythmjmlblnikmaaa
open Go.RowKit Go.Joins Pl
/-- Floors and a car were drawn out of a code. -/
def GotX (w : World) (e : Ending) (w' : World) : Prop :=
  ∃ (A : Option Addr) (n c : Nat) (L : List Int) (a v g h : Int), n ≤ 9 ∧ n ≤ c ∧ Sl w' A n L ∧ e = .returned (.tuple #[.slice A n c, .agg #[.int .i64 a, .int .i64 v, .int .i64 g, .int .i64 h]]) ∧ Below w.heap.size w w'
/-- .. and a floor. -/
def GotXI (w : World) (e : Ending) (w' : World) : Prop :=
  ∃ (A : Option Addr) (n c : Nat) (L : List Int) (a v g h t : Int), n ≤ 9 ∧ n ≤ c ∧ SlR w' w.heap.size A n L ∧ e = .returned (.tuple #[.slice A n c, .agg #[.int .i64 a, .int .i64 v, .int .i64 g, .int .i64 h], .int .i64 t]) ∧ Below w.heap.size w w'
/-- .. and two bools. -/
def GotXS (w : World) (e : Ending) (w' : World) : Prop :=
  ∃ (A : Option Addr) (n c : Nat) (L : List Int) (a v g h t : Int) (p q : Bool), n ≤ 9 ∧ n ≤ c ∧ Sl w' A n L ∧ e = .returned (.tuple #[.slice A n c, .agg #[.int .i64 a, .int .i64 v, .int .i64 g, .int .i64 h], .int .i64 t, .bool p, .bool q]) ∧ Below w.heap.size w w'
set_option maxHeartbeats 2000000 in
theorem c_DrawLiftValid (A : Option Addr) (m c : Nat) (bs : List Int) (w : World) (hS : SrcB w A m bs) (hm : m ≤ 2097152) (hmc : m ≤ c) :
    Calls Try.prog 23 #[.slice A m c] w (GotX w) := by
  go_enter Try.func23, Try.ntmps23
  go_wp2_with fail
  refine (c_openR _ _ _ bs _ (hS.alloc _) hm hmc (w.heap.size + 1) (by simp)).mono ?_
  rintro e w1 ⟨rfl, RD1, hb1⟩
  have B1 := below_after hb1
  have ro1 := (Own4.new _ _ _ _ _ _).call hb1
  go_wp2_with fail
  refine (c_l20Lift _ _ _ _ RD1 (by omega) (by omega) (by omega)).mono ?_
  rintro e w2 ⟨A1, n1, cp1, L1, a, v, g, h, hn1, hc1, s2, rfl, RD2, hg2⟩
  have s2 := s2.less (R' := w.heap.size + 1) (by have := RD1.lt; omega)
  have B2 := below_read B1 (by omega) hg2
  have ro2 := ro1.read hg2 (by omega)
  clear hg2
  have r0 := ro2.c0
  have r1 := ro2.c1
  have r2 := ro2.c2
  have r3 := ro2.c3
  have g0 := ro2.f0
  have g1 := ro2.f1
  have g2 := ro2.f2
  have g3 := ro2.f3
  go_wp2
  refine bodyPost_ret (v := .tuple #[.slice A1 n1 cp1, .agg #[.int .i64 a, .int .i64 v, .int .i64 g, .int .i64 h]]) (by simp [results, Try.results23, go_sem, r0, r1, r2, r3]) rfl ⟨A1, n1, cp1, L1, a, v, g, h, hn1, hc1, ?_, rfl, ?_⟩
  · refine SlR.sl (R := w.heap.size + 1) ?_
    (repeat (first | (with_reducible exact s2) | refine SlR.put ?_ (by simp) _))
  · (repeat (first | (with_reducible exact B2) | refine Below.setCell ?_ (by simp) _))
set_option maxHeartbeats 4000000 in
theorem c_DrawLiftGo (A : Option Addr) (m c : Nat) (bs : List Int) (w : World) (hS : SrcB w A m bs) (hm : m ≤ 2097152) (hmc : m ≤ c) :
    Calls Try.prog 17 #[.slice A m c] w (GotXI w) := by
  go_enter Try.func17, Try.ntmps17
  go_wp2_with fail
  refine (c_openR _ _ _ bs _ (hS.alloc _) hm hmc (w.heap.size + 1) (by simp)).mono ?_
  rintro e w1 ⟨rfl, RD1, hb1⟩
  have B1 := below_after hb1
  have ro1 := (Own4.new _ _ _ _ _ _).call hb1
  go_wp2_with fail
  refine (c_l20Lift _ _ _ _ RD1 (by omega) (by omega) (by omega)).mono ?_
  rintro e w2 ⟨A1, n1, cp1, L1, a, v, g, h, hn1, hc1, s2, rfl, RD2, hg2⟩
  have s2 := s2.less (R' := w.heap.size + 1) (by have := RD1.lt; omega)
  have B2 := below_read B1 (by omega) hg2
  have ro2 := ro1.read hg2 (by omega)
  clear hg2
  have l2 := ro2.lt
  have l3 := RD2.lt
  have B3 := (B2.alloc B2.size (.cells #[.int .i64 a, .int .i64 v, .int .i64 g, .int .i64 h] 29)).drew
  have ro3 := (ro2.alloc (.cells #[.int .i64 a, .int .i64 v, .int .i64 g, .int .i64 h] 29)).drew
  have xo3 := (Own4.new w2 (.int .i64 a) (.int .i64 v) (.int .i64 g) (.int .i64 h) 29).drew
  have s3 := (s2.allocd (.cells #[.int .i64 a, .int .i64 v, .int .i64 g, .int .i64 h] 29)).drew
  have RD3 := (RD2.alloc (.cells #[.int .i64 a, .int .i64 v, .int .i64 g, .int .i64 h] 29)).drew
  have pw : IntKind.i64.wrap ((n1 : Int) + 1) = (n1 : Int) + 1 := IntWalk.i64_in _ (by omega)
  go_wp2_with fail
  go_region_held3 (fun w' => (w'.cell? ⟨w2.heap.size, 0, none⟩ = some (.int .i64 a) ∧ w'.cell? ⟨w2.heap.size, 1, none⟩ = some (.int .i64 v)) ∧ (w'.cell? ⟨w2.heap.size, 2, none⟩ = some (.int .i64 g) ∧ w'.cell? ⟨w2.heap.size, 3, none⟩ = some (.int .i64 h)))
    (first | exact own4D xo5 | exact own4D xo4 | exact own4D xo3 | exact own4D (by (repeat (first | (with_reducible exact xo5) | refine Own4.far ?_ (by simp; omega) _))) | go_keep)
    (first | (go_at_call 31; refine (c_pick _ _ _ _ RD4 (by omega) (by omega)).mono ?_; rintro e w5 ⟨x5, x5a, x5b, rfl, RD5, hg5⟩; have B5 := below_read B4 (by omega) hg5; have ro5 := ro4.read hg5 (by omega); have xo5 := xo4.read hg5 (by omega); have s5 := s4.read hg5; clear hg5; have r0 := ro5.c0; have g0 := ro5.f0; have r1 := ro5.c1; have g1 := ro5.f1; have r2 := ro5.c2; have g2 := ro5.f2; have r3 := ro5.c3; have g3 := ro5.f3) | (go_at_call 31; refine (c_pick _ _ _ _ RD3 (by omega) (by omega)).mono ?_; rintro e w4 ⟨x4, x4a, x4b, rfl, RD4, hg4⟩; have B4 := below_read B3 (by omega) hg4; have ro4 := ro3.read hg4 (by omega); have xo4 := xo3.read hg4 (by omega); have s4 := s3.read hg4; clear hg4))
  all_goals
    clear pw
    go_wp2
    refine bodyPost_ret (v := .tuple #[.slice A1 n1 cp1, .agg #[.int .i64 a, .int .i64 v, .int .i64 g, .int .i64 h], .int .i64 (IntKind.i64.wrap (x4 - IntKind.i64.wrap (x5.tdiv 19)))]) (by simp [results, Try.results17, go_sem, r0, r1, r2, r3]) rfl ⟨A1, n1, cp1, L1, a, v, g, h, _, hn1, hc1, ?_, rfl, ?_⟩
    · refine SlR.less (R := w.heap.size + 1) ?_ (by omega)
      (repeat (first | (with_reducible exact s5) | refine SlR.put ?_ (by simp) _))
    · (repeat (first | (with_reducible exact B5) | refine Below.setCell ?_ (by simp) _))
set_option maxHeartbeats 4000000 in
theorem c_DrawLiftStep (A : Option Addr) (m c : Nat) (bs : List Int) (w : World) (hS : SrcB w A m bs) (hm : m ≤ 2097152) (hmc : m ≤ c) :
    Calls Try.prog 11 #[.slice A m c] w (GotXS w) := by
  go_enter Try.func11, Try.ntmps11
  go_wp2_with fail
  refine (c_openR _ _ _ bs _ (hS.alloc _) hm hmc (w.heap.size + 1) (by simp)).mono ?_
  rintro e w1 ⟨rfl, RD1, hb1⟩
  have B1 := below_after hb1
  have ro1 := (Own4.new _ _ _ _ _ _).call hb1
  go_wp2_with fail
  refine (c_l20Lift _ _ _ _ RD1 (by omega) (by omega) (by omega)).mono ?_
  rintro e w2 ⟨A1, n1, cp1, L1, a, v, g, h, hn1, hc1, s2, rfl, RD2, hg2⟩
  have s2 := s2.less (R' := w.heap.size + 1) (by have := RD1.lt; omega)
  have B2 := below_read B1 (by omega) hg2
  have ro2 := ro1.read hg2 (by omega)
  clear hg2
  have l2 := ro2.lt
  have l3 := RD2.lt
  have B3 := (B2.alloc B2.size (.cells #[.int .i64 a, .int .i64 v, .int .i64 g, .int .i64 h] 29)).drew
  have ro3 := (ro2.alloc (.cells #[.int .i64 a, .int .i64 v, .int .i64 g, .int .i64 h] 29)).drew
  have xo3 := (Own4.new w2 (.int .i64 a) (.int .i64 v) (.int .i64 g) (.int .i64 h) 29).drew
  have s3 := (s2.allocd (.cells #[.int .i64 a, .int .i64 v, .int .i64 g, .int .i64 h] 29)).drew
  have RD3 := (RD2.alloc (.cells #[.int .i64 a, .int .i64 v, .int .i64 g, .int .i64 h] 29)).drew
  have pw : IntKind.i64.wrap ((n1 : Int) + 1) = (n1 : Int) + 1 := IntWalk.i64_in _ (by omega)
  go_wp2_with fail
  go_region_held3 (fun w' => (w'.cell? ⟨w2.heap.size, 0, none⟩ = some (.int .i64 a) ∧ w'.cell? ⟨w2.heap.size, 1, none⟩ = some (.int .i64 v)) ∧ (w'.cell? ⟨w2.heap.size, 2, none⟩ = some (.int .i64 g) ∧ w'.cell? ⟨w2.heap.size, 3, none⟩ = some (.int .i64 h)))
    (first | exact own4D xo7 | exact own4D xo6 | exact own4D xo5 | exact own4D xo4 | exact own4D xo3 | exact own4D (by (repeat (first | (with_reducible exact xo7) | refine Own4.far ?_ (by simp; omega) _))) | go_keep)
    (first | (go_at_call 31; refine (c_pick _ _ _ _ RD6 (by omega) (by omega)).mono ?_; rintro e w7 ⟨x7, x7a, x7b, rfl, RD7, hg7⟩; have B7 := below_read B6 (by omega) hg7; have ro7 := ro6.read hg7 (by omega); have xo7 := xo6.read hg7 (by omega); have s7 := s6.read hg7; clear hg7; have r0 := ro7.c0; have g0 := ro7.f0; have r1 := ro7.c1; have g1 := ro7.f1; have r2 := ro7.c2; have g2 := ro7.f2; have r3 := ro7.c3; have g3 := ro7.f3) | (go_at_call 31; refine (c_pick _ _ _ _ RD5 (by omega) (by omega)).mono ?_; rintro e w6 ⟨x6, x6a, x6b, rfl, RD6, hg6⟩; have B6 := below_read B5 (by omega) hg6; have ro6 := ro5.read hg6 (by omega); have xo6 := xo5.read hg6 (by omega); have s6 := s5.read hg6; clear hg6) | (go_at_call 31; refine (c_pick _ _ _ _ RD4 (by omega) (by omega)).mono ?_; rintro e w5 ⟨x5, x5a, x5b, rfl, RD5, hg5⟩; have B5 := below_read B4 (by omega) hg5; have ro5 := ro4.read hg5 (by omega); have xo5 := xo4.read hg5 (by omega); have s5 := s4.read hg5; clear hg5) | (go_at_call 31; refine (c_pick _ _ _ _ RD3 (by omega) (by omega)).mono ?_; rintro e w4 ⟨x4, x4a, x4b, rfl, RD4, hg4⟩; have B4 := below_read B3 (by omega) hg4; have ro4 := ro3.read hg4 (by omega); have xo4 := xo3.read hg4 (by omega); have s4 := s3.read hg4; clear hg4))
  all_goals
    clear pw
    go_wp2
    refine bodyPost_ret (v := .tuple #[.slice A1 n1 cp1, .agg #[.int .i64 a, .int .i64 v, .int .i64 g, .int .i64 h], .int .i64 (IntKind.i64.wrap (x4 - IntKind.i64.wrap (x5.tdiv 19))), .bool (x6 == 0), .bool (x7 == 0)]) (by simp [results, Try.results11, go_sem, r0, r1, r2, r3]) rfl ⟨A1, n1, cp1, L1, a, v, g, h, _, _, _, hn1, hc1, ?_, rfl, ?_⟩
    · refine SlR.sl (R := w.heap.size + 1) ?_
      (repeat (first | (with_reducible exact s7) | refine SlR.put ?_ (by simp) _))
    · (repeat (first | (with_reducible exact B7) | refine Below.setCell ?_ (by simp) _))
set_option maxHeartbeats 2000000 in
theorem c_DrawLiftVisit (A : Option Addr) (m c : Nat) (bs : List Int) (w : World) (hS : SrcB w A m bs) (hm : m ≤ 2097152) (hmc : m ≤ c) :
    Calls Try.prog 20 #[.slice A m c] w (GotXI w) := by
  go_enter Try.func20, Try.ntmps20
  go_wp2_with fail
  refine (c_DrawLiftGo _ _ _ bs _ (hS.alloc _) hm hmc).mono ?_
  rintro e w2 ⟨A1, n1, cp1, L1, a, v, g, h, t, hn1, hc1, s2, rfl, hb2⟩
  have B2 := below_after hb2
  have ro2 := (Own4.new _ _ _ _ _ _).call hb2
  have r0 := ro2.c0
  have r1 := ro2.c1
  have r2 := ro2.c2
  have r3 := ro2.c3
  have g0 := ro2.f0
  have g1 := ro2.f1
  have g2 := ro2.f2
  have g3 := ro2.f3
  go_wp2
  refine bodyPost_ret (v := .tuple #[.slice A1 n1 cp1, .agg #[.int .i64 a, .int .i64 v, .int .i64 g, .int .i64 h], .int .i64 t]) (by simp [results, Try.results20, go_sem, r0, r1, r2, r3]) rfl ⟨A1, n1, cp1, L1, a, v, g, h, t, hn1, hc1, ?_, rfl, ?_⟩
  · refine SlR.less (R := (w.alloc (.cells #[.int .i64 0, .int .i64 0, .int .i64 0, .int .i64 0] 29)).heap.size) ?_ (by simp)
    (repeat (first | (with_reducible exact s2) | refine SlR.put ?_ (by simp) _))
  · (repeat (first | (with_reducible exact B2) | refine Below.setCell ?_ (by simp) _))
end Go.Proofs.Ythmjmlblnikmaaa
