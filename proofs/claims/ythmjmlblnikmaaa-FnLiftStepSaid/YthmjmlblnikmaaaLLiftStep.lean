/- FnLiftStep returns true for every code: never does a car move with its door open. No conditions. -/
import Derived.Test.YthmjmlblnikmaaaOpn
import Derived.Test.YthmjmlblnikmaaaDraL
import Derived.Test.YthmjmlblnikmaaaLiS
import Derived.Deep.RegionHeld3
namespace Go.Proofs.Ythmjmlblnikmaaa
open Go.ChangeShapes Go.WideShapes Go.ChangeAt Go.RowKit Go.Joins Pl
theorem door_held {g h : Int} {ask : Bool} (hv : doorV g h = true) (h0 : 0 < g ∨ ask = true) : g ≤ (doorStep g h ask true).1 := by
  have hb := doorV_iff.1 hv
  have hc : (g = 0 ∧ h = 0) ∨ (g = 1 ∧ h = 0) ∨ (g = 2 ∧ h = 0) ∨ (g = 3 ∧ h = 0) ∨ (g = 4 ∧ h = 0) ∨ (g = 4 ∧ h = 1) ∨ (g = 4 ∧ h = 2) ∨ (g = 4 ∧ h = 3) := by omega
  rcases hc with ⟨rfl, rfl⟩ | ⟨rfl, rfl⟩ | ⟨rfl, rfl⟩ | ⟨rfl, rfl⟩ | ⟨rfl, rfl⟩ | ⟨rfl, rfl⟩ | ⟨rfl, rfl⟩ | ⟨rfl, rfl⟩ <;> cases ask <;> first | decide | (rcases h0 with h0 | h0 <;> simp at h0)
/-- What is zero. -/
def Zero4 (a v g h : Int) : Prop := (a == 0) = true ∧ (v == 0) = true ∧ (g == 0) = true ∧ (h == 0) = true
/-- What a tick of a valid car may do. -/
def StepW (a v g ra rv rg : Int) (bl : Bool) : Prop :=
  ((ra == a) = true ∧ (rv == v) = true ∧ (g == 0) = false ∧ (bl = false ∨ g ≤ rg)) ∨ ((ra == a) = true ∧ (rv == v) = true ∧ g = 0 ∧ (bl = false ∨ 0 ≤ rg)) ∨
  ((ra == a) = false ∧ g = 0 ∧ (rg == 0) = true ∧ 0 ≤ rg) ∨ ((ra == a) = true ∧ (rv == v) = false ∧ g = 0 ∧ (rg == 0) = true ∧ 0 ≤ rg)
theorem lstep_all {L : List Int} {n : Nat} {a v g h t ra rv rg rh : Int} {ask bl : Bool} (hr : liftStep L ⟨a, v, g, h⟩ t ask bl = ⟨ra, rv, rg, rh⟩) (hl : L.length = n) :
    (liftV L a v g h = false ∧ Zero4 ra rv rg rh) ∨ (liftV L a v g h = true ∧ t < 0 ∧ Zero4 ra rv rg rh) ∨ (liftV L a v g h = true ∧ 0 ≤ t ∧ (n : Int) ≤ t ∧ Zero4 ra rv rg rh) ∨
    (liftV L a v g h = true ∧ 0 ≤ t ∧ t < (n : Int) ∧ liftV L ra rv rg rh = true ∧ StepW a v g ra rv rg bl) := by
  subst hl
  have hz : (⟨ra, rv, rg, rh⟩ : Car) = ⟨0, 0, 0, 0⟩ → Zero4 ra rv rg rh := by
    intro e
    obtain ⟨rfl, rfl, rfl, rfl⟩ := Car.mk.inj e
    exact ⟨rfl, rfl, rfl, rfl⟩
  rcases liftStep_cases L a v g h t ask bl with ⟨hv, h0⟩ | ⟨hv, ht, h0⟩ | ⟨k, hk, rfl, hv, ht, hc⟩
  · exact .inl ⟨hv, hz (hr.symm.trans h0)⟩
  · have hz' := hz (hr.symm.trans h0)
    by_cases h1 : t < 0
    · exact .inr (.inl ⟨hv, h1, hz'⟩)
    · refine .inr (.inr (.inl ⟨hv, by omega, ?_, hz'⟩))
      have : ¬ (0 ≤ t ∧ t < (L.length : Int)) := fun e => by rw [isFl_iff.2 e] at ht; cases ht
      omega
  · have hval := liftStep_valid (x := ⟨a, v, g, h⟩) hv ht ask bl
    rw [hr] at hval
    refine .inr (.inr (.inr ⟨hv, by omega, by omega, hval, ?_⟩))
    obtain ⟨_, _, hd, _⟩ := liftV_iff.1 hv
    rcases hc with ⟨h1, h2, e⟩ | ⟨rfl, rfl, rfl, h2, e⟩ | ⟨rfl, rfl, rfl, h2, e⟩ | ⟨rfl, rfl, rfl, e⟩
    · obtain ⟨rfl, rfl, rfl, rfl⟩ := Car.mk.inj (hr.symm.trans e)
      refine .inl ⟨by simp, by simp, beq_eq_false_iff_ne.2 (by omega), ?_⟩
      cases bl
      · exact .inl rfl
      · exact .inr (door_held hd (.inl h1))
    · obtain ⟨rfl, rfl, rfl, rfl⟩ := Car.mk.inj (hr.symm.trans e)
      refine .inr (.inl ⟨by simp, by simp, rfl, ?_⟩)
      cases bl
      · exact .inl rfl
      · exact .inr (door_held hd (.inr rfl))
    all_goals
      obtain ⟨rfl, rfl, rfl, rfl⟩ := Car.mk.inj (hr.symm.trans e)
      by_cases e1 : (stepM a v (nth L k)).1 = a
      · by_cases e2 : (stepM a v (nth L k)).2 = v
        · exact .inr (.inl ⟨by simp [e1], by simp [e2], rfl, .inr (Int.le_refl _)⟩)
        · exact .inr (.inr (.inr ⟨by simp [e1], by simp [e2], rfl, rfl, Int.le_refl _⟩))
      · exact .inr (.inr (.inl ⟨by simp [e1], rfl, rfl, Int.le_refl _⟩))
theorem Sl.drewd {w : World} {A : Option Addr} {n : Nat} {L : List Int} (h : Sl w A n L) : Sl w.drew A n L := h
theorem c_lstI_at (A : Option Addr) (n c : Nat) (L : List Int) (a v g h t : Int) (ask bl : Bool) (w : World) (ra rv rg rh : Int) (hr : liftStep L ⟨a, v, g, h⟩ t ask bl = ⟨ra, rv, rg, rh⟩) (hS : Sl w A n L) (hn : n ≤ 2097152) :
    Calls Try.prog 12 #[.slice A n c, .agg #[.int .i64 a, .int .i64 v, .int .i64 g, .int .i64 h], .int .i64 t, .bool ask, .bool bl] w fun e w' => e = .returned (.agg #[.int .i64 ra, .int .i64 rv, .int .i64 rg, .int .i64 rh]) ∧ Below w.heap.size w w' := by
  have h := c_lstI A n c L a v g h t ask bl w hS hn
  rw [hr] at h
  exact h
theorem c_lstS_at (A : Option Addr) (n c : Nat) (L : List Int) (a v g h t : Int) (ask bl : Bool) (w : World) (ra rv rg rh : Int) (hr : liftStep L ⟨a, v, g, h⟩ t ask bl = ⟨ra, rv, rg, rh⟩) (hS : Sl w A n L) (hn : n ≤ 2097152) :
    Calls Try.prog 13 #[.slice A n c, .agg #[.int .i64 a, .int .i64 v, .int .i64 g, .int .i64 h], .int .i64 t, .bool ask, .bool bl] w fun e w' => e = .returned (.agg #[.int .i64 ra, .int .i64 rv, .int .i64 rg, .int .i64 rh]) ∧ Below w.heap.size w w' := by
  have h := c_lstS A n c L a v g h t ask bl w hS hn
  rw [hr] at h
  exact h
set_option maxHeartbeats 8000000 in
theorem walk_FnLiftStep (a0 : Option Addr) (len0 cap0 : Nat) (z0 : List Int) (w : World) (h0 : IsRow .u8 w a0 len0 cap0 z0) :
    Calls Try.prog 3 #[.slice a0 len0 cap0] w fun e w' => e = .returned (.bool true) ∧ Below w.heap.size w w' := by
  obtain ⟨src, hcap⟩ := srcB_of_row h0
  clear h0
  by_cases hbig : 1048576 < len0
  · go_enter Try.func3, Try.ntmps3
    go_wp2
    go_ret
    exact ⟨rfl, Below.refl _ _⟩
  go_enter Try.func3, Try.ntmps3
  go_wp2_with fail
  refine (c_DrawLiftStep _ _ _ _ _ src (by omega) hcap).mono ?_
  rintro e w1 ⟨A, n, cp, L, a, v, g, h, t, ask, bl, hn, hc, s1, rfl, B1⟩
  have hl := s1.1
  obtain ⟨ra, rv, rg, rh, hr⟩ : ∃ ra rv rg rh, liftStep L ⟨a, v, g, h⟩ t ask bl = ⟨ra, rv, rg, rh⟩ := ⟨_, _, _, _, rfl⟩
  have HW := Lib.hid (lstep_all hr hl); clear hl
  have HR := Lib.hid hr; clear hr
  have B1 := B1.alloc B1.size (.cells #[.int .i64 a, .int .i64 v, .int .i64 g, .int .i64 h] 29)
  have s1 := s1.alloc (.cells #[.int .i64 a, .int .i64 v, .int .i64 g, .int .i64 h] 29)
  have x1 := Own4.new w1 (.int .i64 a) (.int .i64 v) (.int .i64 g) (.int .i64 h) 29
  have o0 := x1.c0
  have o1 := x1.c1
  have o2 := x1.c2
  have o3 := x1.c3
  have oz0 := x1.f0
  have oz1 := x1.f1
  have oz2 := x1.f2
  have oz3 := x1.f3
  have ol := x1.lt
  go_wp2_with fail
  refine (c_lstI_at _ _ _ _ _ _ _ _ _ _ _ _ _ _ _ _ HR.out s1 (by omega)).mono ?_
  rintro e w2 ⟨rfl, hb2⟩
  have B2 := stepB B1 hb2
  have s2 := s1.call hb2
  clear o0 oz0 o1 oz1 o2 oz2 o3 oz3 ol
  have x2 := x1.call hb2
  have o0 := x2.c0
  have o1 := x2.c1
  have o2 := x2.c2
  have o3 := x2.c3
  have oz0 := x2.f0
  have oz1 := x2.f1
  have oz2 := x2.f2
  have oz3 := x2.f3
  have ol := x2.lt
  clear hb2
  have lx := x2.lt
  have B2 := B2.alloc B2.size (.cells #[.int .i64 ra, .int .i64 rv, .int .i64 rg, .int .i64 rh] 29)
  have s2 := s2.alloc (.cells #[.int .i64 ra, .int .i64 rv, .int .i64 rg, .int .i64 rh] 29)
  have x2 := x2.alloc (.cells #[.int .i64 ra, .int .i64 rv, .int .i64 rg, .int .i64 rh] 29)
  clear o0 oz0 o1 oz1 o2 oz2 o3 oz3 ol
  have o0 := x2.c0
  have o1 := x2.c1
  have o2 := x2.c2
  have o3 := x2.c3
  have oz0 := x2.f0
  have oz1 := x2.f1
  have oz2 := x2.f2
  have oz3 := x2.f3
  have ol := x2.lt
  have y2 := Own4.new w2 (.int .i64 ra) (.int .i64 rv) (.int .i64 rg) (.int .i64 rh) 29
  have p0 := y2.c0
  have p1 := y2.c1
  have p2 := y2.c2
  have p3 := y2.c3
  have pz0 := y2.f0
  have pz1 := y2.f1
  have pz2 := y2.f2
  have pz3 := y2.f3
  have pl := y2.lt
  have B3 := B2.drew
  have s3 := s2.drewd
  have x3 := x2.drew
  have y3 := y2.drew
  clear o0 oz0 o1 oz1 o2 oz2 o3 oz3 ol
  clear p0 pz0 p1 pz1 p2 pz2 p3 pz3 pl
  have lxy : w1.heap.size < w2.heap.size := lx
  go_wp2_with fail
  go_region_held3 (fun w' => ((w'.cell? ⟨w1.heap.size, 0, none⟩ = some (.int .i64 a) ∧ w'.cell? ⟨w1.heap.size, 1, none⟩ = some (.int .i64 v)) ∧ (w'.cell? ⟨w1.heap.size, 2, none⟩ = some (.int .i64 g) ∧ w'.cell? ⟨w1.heap.size, 3, none⟩ = some (.int .i64 h))) ∧ ((w'.cell? ⟨w2.heap.size, 0, none⟩ = some (.int .i64 ra) ∧ w'.cell? ⟨w2.heap.size, 1, none⟩ = some (.int .i64 rv)) ∧ (w'.cell? ⟨w2.heap.size, 2, none⟩ = some (.int .i64 rg) ∧ w'.cell? ⟨w2.heap.size, 3, none⟩ = some (.int .i64 rh))))
    (first | exact ⟨own4D x3, own4D y3⟩ | exact ⟨own4D x4, own4D y4⟩ | go_keep)
    (first | (go_at_call 13; refine (c_lstS_at _ _ _ _ _ _ _ _ _ _ _ _ _ _ _ _ HR.out s3 (by omega)).mono ?_; rintro e w4 ⟨rfl, hb4⟩; have B4 := stepB B3 hb4; have s4 := s3.call hb4; have x4 := x3.call hb4; have y4 := y3.call hb4; clear hb4))
  have o0 := x4.c0
  have o1 := x4.c1
  have o2 := x4.c2
  have o3 := x4.c3
  have oz0 := x4.f0
  have oz1 := x4.f1
  have oz2 := x4.f2
  have oz3 := x4.f3
  have ol := x4.lt
  have p0 := y4.c0
  have p1 := y4.c1
  have p2 := y4.c2
  have p3 := y4.c3
  have pz0 := y4.f0
  have pz1 := y4.f1
  have pz2 := y4.f2
  have pz3 := y4.f3
  have pl := y4.lt
  rcases HW.out with ⟨hv, hz⟩ | ⟨hv, h1, hz⟩ | ⟨hv, h1, h2, hz⟩ | ⟨hv, h1, h2, hy, hw⟩
  · obtain ⟨z1, z2, z3, z4⟩ := hz
    have HV := Lib.hid hv; clear hv
    go_wp2_with fail
    refine (c_lvS _ _ _ _ _ _ _ _ _ s4 (by omega)).mono ?_
    rintro e w5 ⟨rfl, hb5⟩
    rw [HV.out]
    have B5 := stepB B4 hb5
    have s5 := s4.call hb5
    clear o0 oz0 o1 oz1 o2 oz2 o3 oz3 ol
    have x5 := x4.call hb5
    have o0 := x5.c0
    have o1 := x5.c1
    have o2 := x5.c2
    have o3 := x5.c3
    have oz0 := x5.f0
    have oz1 := x5.f1
    have oz2 := x5.f2
    have oz3 := x5.f3
    have ol := x5.lt
    clear p0 pz0 p1 pz1 p2 pz2 p3 pz3 pl
    have y5 := y4.call hb5
    have p0 := y5.c0
    have p1 := y5.c1
    have p2 := y5.c2
    have p3 := y5.c3
    have pz0 := y5.f0
    have pz1 := y5.f1
    have pz2 := y5.f2
    have pz3 := y5.f3
    have pl := y5.lt
    clear hb5
    go_wp2_with fail
    refine (c_alive _).mono ?_
    rintro e w6 ⟨rfl, hb6⟩
    go_wp2
    go_ret
    exact ⟨rfl, stepB B5 hb6⟩
  · obtain ⟨z1, z2, z3, z4⟩ := hz
    have HV := Lib.hid hv; clear hv
    go_wp2_with fail
    refine (c_lvS _ _ _ _ _ _ _ _ _ s4 (by omega)).mono ?_
    rintro e w5 ⟨rfl, hb5⟩
    rw [HV.out]
    have B5 := stepB B4 hb5
    have s5 := s4.call hb5
    clear o0 oz0 o1 oz1 o2 oz2 o3 oz3 ol
    have x5 := x4.call hb5
    have o0 := x5.c0
    have o1 := x5.c1
    have o2 := x5.c2
    have o3 := x5.c3
    have oz0 := x5.f0
    have oz1 := x5.f1
    have oz2 := x5.f2
    have oz3 := x5.f3
    have ol := x5.lt
    clear p0 pz0 p1 pz1 p2 pz2 p3 pz3 pl
    have y5 := y4.call hb5
    have p0 := y5.c0
    have p1 := y5.c1
    have p2 := y5.c2
    have p3 := y5.c3
    have pz0 := y5.f0
    have pz1 := y5.f1
    have pz2 := y5.f2
    have pz3 := y5.f3
    have pl := y5.lt
    clear hb5
    go_wp2_with fail
    refine (c_alive _).mono ?_
    rintro e w6 ⟨rfl, hb6⟩
    go_wp2
    go_ret
    exact ⟨rfl, stepB B5 hb6⟩
  · obtain ⟨z1, z2, z3, z4⟩ := hz
    have HV := Lib.hid hv; clear hv
    go_wp2_with fail
    refine (c_lvS _ _ _ _ _ _ _ _ _ s4 (by omega)).mono ?_
    rintro e w5 ⟨rfl, hb5⟩
    rw [HV.out]
    have B5 := stepB B4 hb5
    have s5 := s4.call hb5
    clear o0 oz0 o1 oz1 o2 oz2 o3 oz3 ol
    have x5 := x4.call hb5
    have o0 := x5.c0
    have o1 := x5.c1
    have o2 := x5.c2
    have o3 := x5.c3
    have oz0 := x5.f0
    have oz1 := x5.f1
    have oz2 := x5.f2
    have oz3 := x5.f3
    have ol := x5.lt
    clear p0 pz0 p1 pz1 p2 pz2 p3 pz3 pl
    have y5 := y4.call hb5
    have p0 := y5.c0
    have p1 := y5.c1
    have p2 := y5.c2
    have p3 := y5.c3
    have pz0 := y5.f0
    have pz1 := y5.f1
    have pz2 := y5.f2
    have pz3 := y5.f3
    have pl := y5.lt
    clear hb5
    go_wp2_with fail
    refine (c_alive _).mono ?_
    rintro e w6 ⟨rfl, hb6⟩
    go_wp2
    go_ret
    exact ⟨rfl, stepB B5 hb6⟩
  · have HV := Lib.hid hv; clear hv
    have HY := Lib.hid hy; clear hy
    go_wp2_with fail
    refine (c_lvS _ _ _ _ _ _ _ _ _ s4 (by omega)).mono ?_
    rintro e w5 ⟨rfl, hb5⟩
    rw [HV.out]
    have B5 := stepB B4 hb5
    have s5 := s4.call hb5
    clear o0 oz0 o1 oz1 o2 oz2 o3 oz3 ol
    have x5 := x4.call hb5
    have o0 := x5.c0
    have o1 := x5.c1
    have o2 := x5.c2
    have o3 := x5.c3
    have oz0 := x5.f0
    have oz1 := x5.f1
    have oz2 := x5.f2
    have oz3 := x5.f3
    have ol := x5.lt
    clear p0 pz0 p1 pz1 p2 pz2 p3 pz3 pl
    have y5 := y4.call hb5
    have p0 := y5.c0
    have p1 := y5.c1
    have p2 := y5.c2
    have p3 := y5.c3
    have pz0 := y5.f0
    have pz1 := y5.f1
    have pz2 := y5.f2
    have pz3 := y5.f3
    have pl := y5.lt
    clear hb5
    cases bl
    · rcases hw with ⟨k1, k2, k3, k4⟩ | ⟨k1, k2, k3, k4⟩ | ⟨k1, k3, k5, k6⟩ | ⟨k1, k2, k3, k5, k6⟩
      all_goals
        go_wp2_with fail
        refine (c_lvI _ _ _ _ _ _ _ _ _ s5 (by omega)).mono ?_
        rintro e w6 ⟨rfl, hb6⟩
        rw [HY.out]
        have B6 := stepB B5 hb6
        have s6 := s5.call hb6
        clear o0 oz0 o1 oz1 o2 oz2 o3 oz3 ol
        have x6 := x5.call hb6
        have o0 := x6.c0
        have o1 := x6.c1
        have o2 := x6.c2
        have o3 := x6.c3
        have oz0 := x6.f0
        have oz1 := x6.f1
        have oz2 := x6.f2
        have oz3 := x6.f3
        have ol := x6.lt
        clear p0 pz0 p1 pz1 p2 pz2 p3 pz3 pl
        have y6 := y5.call hb6
        have p0 := y6.c0
        have p1 := y6.c1
        have p2 := y6.c2
        have p3 := y6.c3
        have pz0 := y6.f0
        have pz1 := y6.f1
        have pz2 := y6.f2
        have pz3 := y6.f3
        have pl := y6.lt
        clear hb6
        go_wp2
        go_ret
        exact ⟨rfl, B6⟩
    · rcases hw with ⟨k1, k2, k3, (⟨⟨⟩⟩ | k7)⟩ | ⟨k1, k2, k3, (⟨⟨⟩⟩ | k7)⟩ | ⟨k1, k3, k5, k6⟩ | ⟨k1, k2, k3, k5, k6⟩
      all_goals
        go_wp2_with fail
        refine (c_lvI _ _ _ _ _ _ _ _ _ s5 (by omega)).mono ?_
        rintro e w6 ⟨rfl, hb6⟩
        rw [HY.out]
        have B6 := stepB B5 hb6
        have s6 := s5.call hb6
        clear o0 oz0 o1 oz1 o2 oz2 o3 oz3 ol
        have x6 := x5.call hb6
        have o0 := x6.c0
        have o1 := x6.c1
        have o2 := x6.c2
        have o3 := x6.c3
        have oz0 := x6.f0
        have oz1 := x6.f1
        have oz2 := x6.f2
        have oz3 := x6.f3
        have ol := x6.lt
        clear p0 pz0 p1 pz1 p2 pz2 p3 pz3 pl
        have y6 := y5.call hb6
        have p0 := y6.c0
        have p1 := y6.c1
        have p2 := y6.c2
        have p3 := y6.c3
        have pz0 := y6.f0
        have pz1 := y6.f1
        have pz2 := y6.f2
        have pz3 := y6.f3
        have pl := y6.lt
        clear hb6
        go_wp2
        go_ret
        exact ⟨rfl, B6⟩
namespace fnLiftStep
set_option linter.unusedVariables false
set_option maxRecDepth 100000 in
theorem lifted (os : Os) (started : os.Started) (H : Type) (enc : TypeId × Value → H) :
    ReturnsInHanded {} Try.checked os 3 .any (Rows.fnLiftStepSpec.pre6 enc Try.prog Try.f3 Rows.fnLiftStepRow.domain false) (Rows.fnLiftStepSpec.post enc Try.prog Try.f3 false true false false) := by
  refine returnsInHanded_of_change (C := Try.checked) own started (by kernel_rfl) Try.func3
    (ChangeSpec.witness6 (enc := enc) (C := Try.checked) false ⟨#[], #[.slice none 0 0], []⟩ 8 (by kernel_rfl) (by kernel_rfl) (by kernel_rfl) (by kernel_rfl)) ?_
  intro W base args ds gs before hval0 hW hcnd _
  have hval : ∀ (j : Nat) t v, Try.f3.params[j]? = some t → args[j]? = some v → Value.okWide Try.prog W .any base t v := hval0
  have hW' := hW
  obtain ⟨p, q, hA0, hV, rfl, hfz, hnd⟩ := hW
  have hA : DataW.TrodAll enc Try.prog W 0 (fun _ => true) true Try.f3.params.toList args.toList ds p := hA0
  rw [Try.params3] at hA hval
  obtain ⟨v0, vs0, d0, ds0, p0, q0, hargs, rfl, rfl, h0, r0⟩ := trodAll_cons hA
  obtain ⟨rfl, rfl, rfl⟩ := trodAll_nil r0
  obtain rfl : args = #[v0] := by cases args; simp_all
  obtain ⟨rfl, rfl⟩ := trodVars_none hV
  have k0 := h0
  have lt0 : ∀ x ∈ p0, x.block < W.heap.size := by obtain ⟨m, hm⟩ := k0; exact DataW.trod_lt m _ _ _ hm
  obtain ⟨a0, len0, cap0, rfl⟩ := okWide_slice Try.underlying22 (hval 0 22 v0 rfl rfl)
  obtain ⟨z0, w0⟩ : ∃ zs, IsRow .u8 W a0 len0 cap0 zs := by
    obtain ⟨fuel, hf⟩ := h0
    rcases open_ints Try.underlying22 Try.underlying5 (by kernel_rfl) hf with ⟨hcs, _⟩ | ⟨x, l, c, zs, hcs, _, hl, hm, hz, _, hcell, hwz⟩
    · simp [Value.cells] at hcs
      obtain ⟨rfl, rfl, rfl⟩ := hcs
      exact ⟨[], .inl ⟨rfl, rfl, rfl, rfl⟩⟩
    · simp [Value.cells] at hcs
      obtain ⟨rfl, rfl, rfl⟩ := hcs
      exact ⟨zs, .inr ⟨_, rfl, hl, hm, by simpa using hz, hcell, hwz⟩⟩
  clear hA0 hval0
  refine (walk_FnLiftStep a0 len0 cap0 z0 W w0).mono fun e W' ⟨he, bel⟩ => ?_
  subst he
  exact ⟨_, rfl, _, _, _, [], _, [], hW', trodAll_mk1 (shut_bool Try.underlying4 _), (trodAll_cons_mk (Below.trod laidOut (by kernel_rfl) (of_decide_eq_true (by kernel_rfl)) k0 bel lt0) trodAll_mk0), rfl, bel.frame _, fun h => by cases h⟩
theorem over : Rows.fnLiftStepRow.holds Try.pinned (OpenSpec.ofChange Rows.fnLiftStepSpec) :=
  OpenClaim.holds_of_wide 3 Try.f3 rfl rfl rfl rfl rfl rfl rfl ⟨rfl, rfl, rfl, rfl, rfl⟩ rfl rfl rfl rfl rfl (by kernel_rfl) Try.func3 (by kernel_rfl)
    (of_decide_eq_true (by kernel_rfl)) (by unfold Func.isWrapper; first | (rw [if_pos (by decide +kernel)]; kernel_rfl) | (rw [if_neg (by decide +kernel)]; exact ⟨rfl, rfl⟩))
    (fun os started H enc _ => lifted os started H enc)
/-- The statement. -/
theorem proved : Rows.FnLiftStepSaid := over
end fnLiftStep
#print axioms fnLiftStep.proved
end Go.Proofs.Ythmjmlblnikmaaa
