/- Contracts of LiftValid, standingFloor, toLift and eqLift: each returns what its plain function gives, and leaves all memory that was there as it was. No conditions but those that stand at each. -/
import Derived.Test.YthmjmlblnikmaaaDoor
import Derived.Test.YthmjmlblnikmaaaDrive
import Derived.Test.YthmjmlblnikmaaaFlo
import Derived.Test.YthmjmlblnikmaaaPlainC
import Derived.Deep.RegionWith
namespace Go.Proofs.Ythmjmlblnikmaaa
open Go.RowKit Go.Joins Pl

/-- A block of ours that holds a struct of four cells. -/
structure Own4 (w : World) (b : Nat) (x y z u : Value) : Prop where
  c0 : w.cell? ⟨b, 0, none⟩ = some x
  c1 : w.cell? ⟨b, 1, none⟩ = some y
  c2 : w.cell? ⟨b, 2, none⟩ = some z
  c3 : w.cell? ⟨b, 3, none⟩ = some u
  f0 : w.frozen? ⟨b, 0, none⟩ = false
  f1 : w.frozen? ⟨b, 1, none⟩ = false
  f2 : w.frozen? ⟨b, 2, none⟩ = false
  f3 : w.frozen? ⟨b, 3, none⟩ = false
  lt : b < w.heap.size
theorem Own4.call {w w1 : World} {b : Nat} {x y z u : Value} (h : Own4 w b x y z u) (hb : Below w.heap.size w w1) : Own4 w1 b x y z u :=
  ⟨(hb.cell (p := ⟨b, 0, none⟩) h.lt).trans h.c0, (hb.cell (p := ⟨b, 1, none⟩) h.lt).trans h.c1, (hb.cell (p := ⟨b, 2, none⟩) h.lt).trans h.c2, (hb.cell (p := ⟨b, 3, none⟩) h.lt).trans h.c3,
   (hb.frozen (p := ⟨b, 0, none⟩) h.lt).trans h.f0, (hb.frozen (p := ⟨b, 1, none⟩) h.lt).trans h.f1, (hb.frozen (p := ⟨b, 2, none⟩) h.lt).trans h.f2, (hb.frozen (p := ⟨b, 3, none⟩) h.lt).trans h.f3, Nat.lt_of_lt_of_le h.lt hb.size⟩
theorem Own4.new (w : World) (x y z u : Value) (t : TypeId) : Own4 (w.alloc (.cells #[x, y, z, u] t)) w.heap.size x y z u := by
  have h := heap_new w (.cells #[x, y, z, u] t)
  refine ⟨?_, ?_, ?_, ?_, ?_, ?_, ?_, ?_, by simp⟩ <;> simp only [World.cell?, World.frozen?, h] <;> simp
theorem Own4.alloc {w : World} {b : Nat} {x y z u : Value} (h : Own4 w b x y z u) (o : Obj) : Own4 (w.alloc o) b x y z u := h.call ((Below.refl _ _).alloc (Nat.le_refl _) o)
theorem Own4.dn {w w' : World} {b : Nat} {x y z u : Value} (h : Own4 w b x y z u) (d : DN w w') : Own4 w' b x y z u := h.call d.below
theorem Own4.set0 {w : World} {b : Nat} {x y z u : Value} (h : Own4 w b x y z u) (t : Value) : Own4 (w.setCell ⟨b, 0, none⟩ t) b t y z u :=
  ⟨World.cell?_setCell_same _ _ _ h.c0, (World.cell?_setCell_other _ _ _ _ (by simp)).trans h.c1, (World.cell?_setCell_other _ _ _ _ (by simp)).trans h.c2, (World.cell?_setCell_other _ _ _ _ (by simp)).trans h.c3,
   (frozen_setCell _ _ _ _).trans h.f0, (frozen_setCell _ _ _ _).trans h.f1, (frozen_setCell _ _ _ _).trans h.f2, (frozen_setCell _ _ _ _).trans h.f3, by simpa [World.setCell] using h.lt⟩
theorem Own4.set1 {w : World} {b : Nat} {x y z u : Value} (h : Own4 w b x y z u) (t : Value) : Own4 (w.setCell ⟨b, 1, none⟩ t) b x t z u :=
  ⟨(World.cell?_setCell_other _ _ _ _ (by simp)).trans h.c0, World.cell?_setCell_same _ _ _ h.c1, (World.cell?_setCell_other _ _ _ _ (by simp)).trans h.c2, (World.cell?_setCell_other _ _ _ _ (by simp)).trans h.c3,
   (frozen_setCell _ _ _ _).trans h.f0, (frozen_setCell _ _ _ _).trans h.f1, (frozen_setCell _ _ _ _).trans h.f2, (frozen_setCell _ _ _ _).trans h.f3, by simpa [World.setCell] using h.lt⟩
theorem Own4.set2 {w : World} {b : Nat} {x y z u : Value} (h : Own4 w b x y z u) (t : Value) : Own4 (w.setCell ⟨b, 2, none⟩ t) b x y t u :=
  ⟨(World.cell?_setCell_other _ _ _ _ (by simp)).trans h.c0, (World.cell?_setCell_other _ _ _ _ (by simp)).trans h.c1, World.cell?_setCell_same _ _ _ h.c2, (World.cell?_setCell_other _ _ _ _ (by simp)).trans h.c3,
   (frozen_setCell _ _ _ _).trans h.f0, (frozen_setCell _ _ _ _).trans h.f1, (frozen_setCell _ _ _ _).trans h.f2, (frozen_setCell _ _ _ _).trans h.f3, by simpa [World.setCell] using h.lt⟩
theorem Own4.set3 {w : World} {b : Nat} {x y z u : Value} (h : Own4 w b x y z u) (t : Value) : Own4 (w.setCell ⟨b, 3, none⟩ t) b x y z t :=
  ⟨(World.cell?_setCell_other _ _ _ _ (by simp)).trans h.c0, (World.cell?_setCell_other _ _ _ _ (by simp)).trans h.c1, (World.cell?_setCell_other _ _ _ _ (by simp)).trans h.c2, World.cell?_setCell_same _ _ _ h.c3,
   (frozen_setCell _ _ _ _).trans h.f0, (frozen_setCell _ _ _ _).trans h.f1, (frozen_setCell _ _ _ _).trans h.f2, (frozen_setCell _ _ _ _).trans h.f3, by simpa [World.setCell] using h.lt⟩
theorem Own4.far {w : World} {b : Nat} {x y z u : Value} (h : Own4 w b x y z u) {p : Addr} (hp : p.block ≠ b) (t : Value) : Own4 (w.setCell p t) b x y z u :=
  ⟨(World.cell?_setCell_other _ _ _ _ (fun e => hp (by rw [e]))).trans h.c0, (World.cell?_setCell_other _ _ _ _ (fun e => hp (by rw [e]))).trans h.c1, (World.cell?_setCell_other _ _ _ _ (fun e => hp (by rw [e]))).trans h.c2, (World.cell?_setCell_other _ _ _ _ (fun e => hp (by rw [e]))).trans h.c3,
   (frozen_setCell _ _ _ _).trans h.f0, (frozen_setCell _ _ _ _).trans h.f1, (frozen_setCell _ _ _ _).trans h.f2, (frozen_setCell _ _ _ _).trans h.f3, by simpa [World.setCell] using h.lt⟩
theorem start4 (w : World) (x y z u : Value) (t : TypeId) : Below w.heap.size w (w.alloc (.cells #[x, y, z, u] t)) ∧ Own4 (w.alloc (.cells #[x, y, z, u] t)) w.heap.size x y z u :=
  ⟨(Below.refl _ _).alloc (Nat.le_refl _) _, Own4.new _ _ _ _ _ _⟩
theorem start44 (w : World) (x y z u x' y' z' u' : Value) (t t' : TypeId) : Below w.heap.size w ((w.alloc (.cells #[x, y, z, u] t)).alloc (.cells #[x', y', z', u'] t')) ∧
    Own4 ((w.alloc (.cells #[x, y, z, u] t)).alloc (.cells #[x', y', z', u'] t')) w.heap.size x y z u ∧ Own4 ((w.alloc (.cells #[x, y, z, u] t)).alloc (.cells #[x', y', z', u'] t')) (w.heap.size + 1) x' y' z' u' := by
  refine ⟨((Below.refl _ _).alloc (Nat.le_refl _) _).alloc (by simp) _, (Own4.new _ _ _ _ _ _).alloc _, ?_⟩
  have := Own4.new (w.alloc (.cells #[x, y, z, u] t)) x' y' z' u' t'
  simpa using this

theorem liftV_cases (L : List Int) (a v g h : Int) : (floorsV L = false ∧ liftV L a v g h = false) ∨ (floorsV L = true ∧ motV a v = false ∧ liftV L a v g h = false) ∨ (floorsV L = true ∧ motV a v = true ∧ doorV g h = false ∧ liftV L a v g h = false) ∨
    (floorsV L = true ∧ motV a v = true ∧ doorV g h = true ∧ g = 0 ∧ liftV L a v g h = true) ∨ (floorsV L = true ∧ motV a v = true ∧ doorV g h = true ∧ (g == 0) = false ∧ liftV L a v g h = decide (0 ≤ standF L a v)) := by
  unfold liftV
  rcases floorsV L
  · exact .inl ⟨rfl, rfl⟩
  · rcases motV a v
    · exact .inr (.inl ⟨rfl, rfl, rfl⟩)
    · rcases doorV g h
      · exact .inr (.inr (.inl ⟨rfl, rfl, rfl, rfl⟩))
      · by_cases hg : g = 0
        · exact .inr (.inr (.inr (.inl ⟨rfl, rfl, rfl, hg, by simp [hg]⟩)))
        · exact .inr (.inr (.inr (.inr ⟨rfl, rfl, rfl, by simp [hg], by simp [hg]⟩)))
set_option maxHeartbeats 1000000 in
theorem c_standI (A : Option Addr) (n c : Nat) (L : List Int) (a v : Int) (w : World) (hS : Sl w A n L) (hn : n ≤ 2097152) :
    Calls Try.prog 33 #[.slice A n c, .agg #[.int .i64 a, .int .i64 v]] w fun e w' => e = .returned (.int .i64 (standF L a v)) ∧ Below w.heap.size w w' := by
  obtain ⟨B, own⟩ := start1 w (.int .i64 a) (.int .i64 v) 25
  have sl := hS.alloc (.cells #[.int .i64 a, .int .i64 v] 25)
  by_cases hv : v = 0
  · have hz : standF L a v = floorAt L a := if_pos hv
    subst hv
    have HZ := Lib.hid hz; clear hz
    go_enter Try.func33, Try.ntmps33
    go_wp2_with (go_at_call 24; refine (c_faI _ _ _ _ _ _ sl hn).mono ?_; rintro e w1 ⟨rfl, hd⟩)
    go_ret
    exact ⟨ret_int (by rw [HZ.out]), stepB B hd.below⟩
  · have hz : standF L a v = -1 := if_neg hv
    have e0 : (v != 0) = true := by simp [hv]
    have HZ := Lib.hid hz; clear hz hv
    go_enter Try.func33, Try.ntmps33
    go_wp2
    go_ret
    exact ⟨ret_int (by rw [HZ.out]), B⟩
set_option maxHeartbeats 2000000 in
theorem c_lvI (A : Option Addr) (n c : Nat) (L : List Int) (a v g h : Int) (w : World) (hS : Sl w A n L) (hn : n ≤ 2097152) :
    Calls Try.prog 16 #[.slice A n c, .agg #[.int .i64 a, .int .i64 v, .int .i64 g, .int .i64 h]] w fun e w' => e = .returned (.bool (liftV L a v g h)) ∧ Below w.heap.size w w' := by
  obtain ⟨B, own⟩ := start4 w (.int .i64 a) (.int .i64 v) (.int .i64 g) (.int .i64 h) 29
  have sl := hS.alloc (.cells #[.int .i64 a, .int .i64 v, .int .i64 g, .int .i64 h] 29)
  have c0 : True := trivial
  have c1 : True := trivial
  have c2 : True := trivial
  have c3 : True := trivial
  have f0 : True := trivial
  have f1 : True := trivial
  have f2 : True := trivial
  have f3 : True := trivial
  rcases liftV_cases L a v g h with ⟨hf, hz⟩ | ⟨hf, hm, hz⟩ | ⟨hf, hm, hd, hz⟩ | ⟨hf, hm, hd, rfl, hz⟩ | ⟨hf, hm, hd, hg, hz⟩
  · have HZ := Lib.hid hz; clear hz
    have HF := Lib.hid hf; clear hf
    go_enter Try.func16, Try.ntmps16
    go_wp2_with (go_at_call 43; refine (c_fvI _ _ _ _ _ sl hn).mono ?_; rintro e w1 ⟨rfl, dd⟩; rw [HF.out]; have hb := dd.below; have B := stepB B hb; have own := own.call hb; have sl := sl.call hb; clear c0 c1 c2 c3 f0 f1 f2 f3; have c0 := own.c0; have c1 := own.c1; have c2 := own.c2; have c3 := own.c3; have f0 := own.f0; have f1 := own.f1; have f2 := own.f2; have f3 := own.f3)
    go_ret
    exact ⟨ret_bool (by rw [HZ.out]), B⟩
  · have HZ := Lib.hid hz; clear hz
    have HF := Lib.hid hf; clear hf
    have HM := Lib.hid hm; clear hm
    go_enter Try.func16, Try.ntmps16
    go_wp2_with (first | (go_at_call 43; refine (c_fvI _ _ _ _ _ sl hn).mono ?_; rintro e w1 ⟨rfl, dd⟩; rw [HF.out]; have hb := dd.below; have B := stepB B hb; have own := own.call hb; have sl := sl.call hb; clear c0 c1 c2 c3 f0 f1 f2 f3; have c0 := own.c0; have c1 := own.c1; have c2 := own.c2; have c3 := own.c3; have f0 := own.f0; have f1 := own.f1; have f2 := own.f2; have f3 := own.f3) | (go_at_call 44; refine (c_motVI _ _ _).mono ?_; rintro e w1 ⟨rfl, hb⟩; rw [HM.out]; have B := stepB B hb; have own := own.call hb; have sl := sl.call hb; clear c0 c1 c2 c3 f0 f1 f2 f3; have c0 := own.c0; have c1 := own.c1; have c2 := own.c2; have c3 := own.c3; have f0 := own.f0; have f1 := own.f1; have f2 := own.f2; have f3 := own.f3))
    go_ret
    exact ⟨ret_bool (by rw [HZ.out]), B⟩
  all_goals
    have HZ := Lib.hid hz; clear hz
    have HF := Lib.hid hf; clear hf
    have HM := Lib.hid hm; clear hm
    have HD := Lib.hid hd; clear hd
    go_enter Try.func16, Try.ntmps16
    go_wp2_with (first | (go_at_call 43; refine (c_fvI _ _ _ _ _ sl hn).mono ?_; rintro e w1 ⟨rfl, dd⟩; rw [HF.out]; have hb := dd.below; have B := stepB B hb; have own := own.call hb; have sl := sl.call hb; clear c0 c1 c2 c3 f0 f1 f2 f3; have c0 := own.c0; have c1 := own.c1; have c2 := own.c2; have c3 := own.c3; have f0 := own.f0; have f1 := own.f1; have f2 := own.f2; have f3 := own.f3) | (go_at_call 44; refine (c_motVI _ _ _).mono ?_; rintro e w1 ⟨rfl, hb⟩; rw [HM.out]; have B := stepB B hb; have own := own.call hb; have sl := sl.call hb; clear c0 c1 c2 c3 f0 f1 f2 f3; have c0 := own.c0; have c1 := own.c1; have c2 := own.c2; have c3 := own.c3; have f0 := own.f0; have f1 := own.f1; have f2 := own.f2; have f3 := own.f3) | (go_at_call 45; refine (c_doorVI _ _ _).mono ?_; rintro e w1 ⟨rfl, hb⟩; rw [HD.out]; have B := stepB B hb; have own := own.call hb; have sl := sl.call hb; clear c0 c1 c2 c3 f0 f1 f2 f3; have c0 := own.c0; have c1 := own.c1; have c2 := own.c2; have c3 := own.c3; have f0 := own.f0; have f1 := own.f1; have f2 := own.f2; have f3 := own.f3) | (go_at_call 33; refine (c_standI _ _ _ _ _ _ _ sl hn).mono ?_; rintro e w1 ⟨rfl, hb⟩; have B := stepB B hb; have own := own.call hb; have sl := sl.call hb; clear c0 c1 c2 c3 f0 f1 f2 f3; have c0 := own.c0; have c1 := own.c1; have c2 := own.c2; have c3 := own.c3; have f0 := own.f0; have f1 := own.f1; have f2 := own.f2; have f3 := own.f3))
    go_ret
    exact ⟨ret_bool (by rw [HZ.out]), B⟩
set_option maxHeartbeats 2000000 in
theorem c_lvS (A : Option Addr) (n c : Nat) (L : List Int) (a v g h : Int) (w : World) (hS : Sl w A n L) (hn : n ≤ 2097152) :
    Calls Try.prog 14 #[.slice A n c, .agg #[.int .i64 a, .int .i64 v, .int .i64 g, .int .i64 h]] w fun e w' => e = .returned (.bool (liftV L a v g h)) ∧ Below w.heap.size w w' := by
  obtain ⟨B, own⟩ := start4 w (.int .i64 a) (.int .i64 v) (.int .i64 g) (.int .i64 h) 29
  have sl := hS.alloc (.cells #[.int .i64 a, .int .i64 v, .int .i64 g, .int .i64 h] 29)
  have c0 : True := trivial
  have c1 : True := trivial
  have c2 : True := trivial
  have c3 : True := trivial
  have f0 : True := trivial
  have f1 : True := trivial
  have f2 : True := trivial
  have f3 : True := trivial
  have hst : (v = 0 ∧ standF L a v = floorAt L a) ∨ ((v == 0) = false ∧ standF L a v = -1) := by
    by_cases hv : v = 0
    · exact .inl ⟨hv, if_pos hv⟩
    · exact .inr ⟨by simp [hv], if_neg hv⟩
  rcases liftV_cases L a v g h with ⟨hf, hz⟩ | ⟨hf, hm, hz⟩ | ⟨hf, hm, hd, hz⟩ | ⟨hf, hm, hd, rfl, hz⟩ | ⟨hf, hm, hd, hg, hz⟩
  all_goals
    have HZ := Lib.hid hz; clear hz
    have HF := Lib.hid hf; clear hf
  · rcases hst with ⟨rfl, hs⟩ | ⟨hv, hs⟩
    all_goals
      have HS := Lib.hid hs; clear hs
      go_enter Try.func14, Try.ntmps14
      go_wp2_with (first | (go_at_call 37; refine (c_faS _ _ _ _ _ _ sl hn).mono ?_; rintro e w1 ⟨rfl, dd⟩; have hb := dd.below; have B := stepB B hb; have own := own.call hb; have sl := sl.call hb; clear c0 c1 c2 c3 f0 f1 f2 f3; have c0 := own.c0; have c1 := own.c1; have c2 := own.c2; have c3 := own.c3; have f0 := own.f0; have f1 := own.f1; have f2 := own.f2; have f3 := own.f3) | (go_at_call 40; refine (c_fvS _ _ _ _ _ sl hn).mono ?_; rintro e w1 ⟨rfl, dd⟩; rw [HF.out]; have hb := dd.below; have B := stepB B hb; have own := own.call hb; have sl := sl.call hb; clear c0 c1 c2 c3 f0 f1 f2 f3; have c0 := own.c0; have c1 := own.c1; have c2 := own.c2; have c3 := own.c3; have f0 := own.f0; have f1 := own.f1; have f2 := own.f2; have f3 := own.f3))
      go_ret
      exact ⟨ret_bool (by rw [HZ.out]), B⟩
  all_goals
    have HM := Lib.hid hm; clear hm
  · rcases hst with ⟨rfl, hs⟩ | ⟨hv, hs⟩
    all_goals
      have HS := Lib.hid hs; clear hs
      go_enter Try.func14, Try.ntmps14
      go_wp2_with (first | (go_at_call 37; refine (c_faS _ _ _ _ _ _ sl hn).mono ?_; rintro e w1 ⟨rfl, dd⟩; have hb := dd.below; have B := stepB B hb; have own := own.call hb; have sl := sl.call hb; clear c0 c1 c2 c3 f0 f1 f2 f3; have c0 := own.c0; have c1 := own.c1; have c2 := own.c2; have c3 := own.c3; have f0 := own.f0; have f1 := own.f1; have f2 := own.f2; have f3 := own.f3) | (go_at_call 40; refine (c_fvS _ _ _ _ _ sl hn).mono ?_; rintro e w1 ⟨rfl, dd⟩; rw [HF.out]; have hb := dd.below; have B := stepB B hb; have own := own.call hb; have sl := sl.call hb; clear c0 c1 c2 c3 f0 f1 f2 f3; have c0 := own.c0; have c1 := own.c1; have c2 := own.c2; have c3 := own.c3; have f0 := own.f0; have f1 := own.f1; have f2 := own.f2; have f3 := own.f3) | (go_at_call 41; refine (c_motVS _ _ _).mono ?_; rintro e w1 ⟨rfl, hb⟩; rw [HM.out]; have B := stepB B hb; have own := own.call hb; have sl := sl.call hb; clear c0 c1 c2 c3 f0 f1 f2 f3; have c0 := own.c0; have c1 := own.c1; have c2 := own.c2; have c3 := own.c3; have f0 := own.f0; have f1 := own.f1; have f2 := own.f2; have f3 := own.f3))
      go_ret
      exact ⟨ret_bool (by rw [HZ.out]), B⟩
  all_goals
    have HD := Lib.hid hd; clear hd
    rcases hst with ⟨rfl, hs⟩ | ⟨hv, hs⟩
  all_goals
    have HS := Lib.hid hs; clear hs
    go_enter Try.func14, Try.ntmps14
    go_wp2_with (first | (go_at_call 37; refine (c_faS _ _ _ _ _ _ sl hn).mono ?_; rintro e w1 ⟨rfl, dd⟩; have hb := dd.below; have B := stepB B hb; have own := own.call hb; have sl := sl.call hb; clear c0 c1 c2 c3 f0 f1 f2 f3; have c0 := own.c0; have c1 := own.c1; have c2 := own.c2; have c3 := own.c3; have f0 := own.f0; have f1 := own.f1; have f2 := own.f2; have f3 := own.f3) | (go_at_call 40; refine (c_fvS _ _ _ _ _ sl hn).mono ?_; rintro e w1 ⟨rfl, dd⟩; rw [HF.out]; have hb := dd.below; have B := stepB B hb; have own := own.call hb; have sl := sl.call hb; clear c0 c1 c2 c3 f0 f1 f2 f3; have c0 := own.c0; have c1 := own.c1; have c2 := own.c2; have c3 := own.c3; have f0 := own.f0; have f1 := own.f1; have f2 := own.f2; have f3 := own.f3) | (go_at_call 41; refine (c_motVS _ _ _).mono ?_; rintro e w1 ⟨rfl, hb⟩; rw [HM.out]; have B := stepB B hb; have own := own.call hb; have sl := sl.call hb; clear c0 c1 c2 c3 f0 f1 f2 f3; have c0 := own.c0; have c1 := own.c1; have c2 := own.c2; have c3 := own.c3; have f0 := own.f0; have f1 := own.f1; have f2 := own.f2; have f3 := own.f3) | (go_at_call 42; refine (c_doorVS _ _ _).mono ?_; rintro e w1 ⟨rfl, hb⟩; rw [HD.out]; have B := stepB B hb; have own := own.call hb; have sl := sl.call hb; clear c0 c1 c2 c3 f0 f1 f2 f3; have c0 := own.c0; have c1 := own.c1; have c2 := own.c2; have c3 := own.c3; have f0 := own.f0; have f1 := own.f1; have f2 := own.f2; have f3 := own.f3))
    go_ret
    exact ⟨ret_bool (by rw [HZ.out]; try rw [HS.out]; try rfl), B⟩
set_option maxHeartbeats 1000000 in
theorem c_toLift (a v g h : Int) (w : World) :
    Calls Try.prog 26 #[.agg #[.int .i64 a, .int .i64 v, .int .i64 g, .int .i64 h]] w fun e w' => e = .returned (.agg #[.int .i64 a, .int .i64 v, .int .i64 g, .int .i64 h]) ∧ Below w.heap.size w w' := by
  obtain ⟨B, own, res⟩ := start44 w (.int .i64 a) (.int .i64 v) (.int .i64 g) (.int .i64 h) (.int .i64 0) (.int .i64 0) (.int .i64 0) (.int .i64 0) 45 29
  have out := Own4.new ((w.alloc (.cells #[.int .i64 a, .int .i64 v, .int .i64 g, .int .i64 h] 45)).alloc (.cells #[.int .i64 0, .int .i64 0, .int .i64 0, .int .i64 0] 29)) (.int .i64 0) (.int .i64 0) (.int .i64 0) (.int .i64 0) 29
  have own := own.alloc (.cells #[.int .i64 0, .int .i64 0, .int .i64 0, .int .i64 0] 29)
  have res := res.alloc (.cells #[.int .i64 0, .int .i64 0, .int .i64 0, .int .i64 0] 29)
  have B := B.alloc (by simp; omega) (.cells #[.int .i64 0, .int .i64 0, .int .i64 0, .int .i64 0] 29)
  have hsz : ((w.alloc (.cells #[.int .i64 a, .int .i64 v, .int .i64 g, .int .i64 h] 45)).alloc (.cells #[.int .i64 0, .int .i64 0, .int .i64 0, .int .i64 0] 29)).heap.size = w.heap.size + 2 := by simp
  rw [hsz] at out
  clear hsz
  go_enter Try.func26, Try.ntmps26
  go_wp2_with fail
  refine (c_toMotion _ _ _).mono ?_
  rintro e w1 ⟨rfl, hb1⟩
  have B1 := stepB B hb1
  have o1 := own.call hb1
  have r1 := res.call hb1
  have t1 := out.call hb1
  have oc2 := o1.c2
  have oc3 := o1.c3
  have c0 := t1.c0
  have c1 := t1.c1
  have c2 := t1.c2
  have c3 := t1.c3
  have f0 := t1.f0
  have f1 := t1.f1
  have f2 := t1.f2
  have f3 := t1.f3
  go_wp2_with fail
  refine (c_toDoor _ _ _).mono ?_
  rintro e w2 ⟨rfl, hb2⟩
  have B2 := stepB ((B1.setCell (p := ⟨w.heap.size + 2, 0, none⟩) (by simp) (.int .i64 a)).setCell (p := ⟨w.heap.size + 2, 1, none⟩) (by simp) (.int .i64 v)) hb2
  have t2 := ((t1.set0 (.int .i64 a)).set1 (.int .i64 v)).call hb2
  have r2 := ((r1.far (p := ⟨w.heap.size + 2, 0, none⟩) (by simp) (.int .i64 a)).far (p := ⟨w.heap.size + 2, 1, none⟩) (by simp) (.int .i64 v)).call hb2
  clear c0 c1 c2 c3 f0 f1 f2 f3 oc2 oc3
  have c0 := t2.c0
  have c1 := t2.c1
  have c2 := t2.c2
  have c3 := t2.c3
  have f0 := t2.f0
  have f1 := t2.f1
  have f2 := t2.f2
  have f3 := t2.f3
  have r20 := r2.c0
  have r21 := r2.c1
  have r22 := r2.c2
  have r23 := r2.c3
  have q20 := r2.f0
  have q21 := r2.f1
  have q22 := r2.f2
  have q23 := r2.f3
  go_wp2
  refine bodyPost_ret (v := .agg #[.int .i64 a, .int .i64 v, .int .i64 g, .int .i64 h]) ?_ rfl ⟨rfl, ?_⟩
  · simp [results, Try.results26, go_sem, r20, r21, r22, r23]
  · (repeat (first | refine Below.setCell ?_ (by simp <;> omega) _ | exact B2))
set_option maxHeartbeats 1000000 in
theorem c_eqLift (a v g h : Int) (w : World) :
    Calls Try.prog 28 #[.agg #[.int .i64 a, .int .i64 v, .int .i64 g, .int .i64 h], .agg #[.int .i64 a, .int .i64 v, .int .i64 g, .int .i64 h]] w fun e w' => e = .returned (.bool true) ∧ Below w.heap.size w w' := by
  obtain ⟨B, own, res⟩ := start44 w (.int .i64 a) (.int .i64 v) (.int .i64 g) (.int .i64 h) (.int .i64 a) (.int .i64 v) (.int .i64 g) (.int .i64 h) 29 29
  go_enter Try.func28, Try.ntmps28
  go_wp2_with fail
  refine (c_eqMotion _ _ _ _ _ rfl rfl).mono ?_
  rintro e w1 ⟨rfl, hb1⟩
  have B1 := stepB B hb1
  have o1 := own.call hb1
  have r1 := res.call hb1
  have c2 := o1.c2
  have c3 := o1.c3
  have d2 := r1.c2
  have d3 := r1.c3
  go_wp2_with fail
  refine (c_eqDoor _ _ _ _ _ rfl rfl).mono ?_
  rintro e w2 ⟨rfl, hb2⟩
  go_wp2
  go_ret
  exact ⟨rfl, stepB B1 hb2⟩
end Go.Proofs.Ythmjmlblnikmaaa
