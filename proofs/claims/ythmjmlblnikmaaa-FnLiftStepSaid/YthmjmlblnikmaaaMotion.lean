/- Contracts of the functions on moving cars: each returns what its plain function gives, and leaves all memory that was there as it was. No conditions. -/
import Derived.Test.YthmjmlblnikmaaaLow
import Derived.Test.YthmjmlblnikmaaaPlainB
import Derived.Test.YthmjmlblnikmaaaMem
import Derived.Lib.SmallJoins
import Derived.IntWalk
namespace Go.Proofs.Ythmjmlblnikmaaa
open Go.RowKit Go.Joins Pl

theorem c_motVI (a v : Int) (w : World) :
    Calls Try.prog 44 #[.agg #[.int .i64 a, .int .i64 v]] w fun e w' => e = .returned (.bool (motV a v)) ∧ Below w.heap.size w w' := by
  rcases motV_cases a v with ⟨ha, hz⟩ | ⟨ha, h1, hz⟩ | ⟨ha, h1, h2, hz⟩ | ⟨ha, h1, h2, hz⟩
  all_goals
    have HZ := Lib.hid hz; clear hz
    have HA := Lib.hid ha; clear ha
    go_enter Try.func44, Try.ntmps44
    go_wp2_with (go_at_call 56; refine (c_stepValid _ _).mono ?_; rintro e w' ⟨rfl, rfl⟩; rw [HA.out])
    go_ret
    exact ⟨ret_bool (by rw [HZ.out] <;> simp <;> omega), below_alloc1 _ _⟩
theorem c_motVS (a v : Int) (w : World) :
    Calls Try.prog 41 #[.agg #[.int .i64 a, .int .i64 v]] w fun e w' => e = .returned (.bool (motV a v)) ∧ Below w.heap.size w w' := by
  have hz : motV a v = (inB a 0 60 && inB v (-5) 5) := rfl
  have HZ := Lib.hid hz; clear hz
  rcases ha : inB a 0 60 <;> rcases hv : inB v (-5) 5
  all_goals
    have HA := Lib.hid ha; clear ha
    have HV := Lib.hid hv; clear hv
    go_enter Try.func41, Try.ntmps41
    go_wp2_with (go_at_call 36; refine (c_l1In _ _ _ _).mono ?_; rintro e w' ⟨rfl, rfl⟩; first | rw [HA.out] | rw [HV.out])
    go_ret
    exact ⟨ret_bool (by rw [HZ.out, HA.out, HV.out]; rfl), below_alloc1 _ _⟩
theorem c_toMotion (g h : Int) (w : World) :
    Calls Try.prog 48 #[.agg #[.int .i64 g, .int .i64 h]] w fun e w' => e = .returned (.agg #[.int .i64 g, .int .i64 h]) ∧ Below w.heap.size w w' := by
  go_enter Try.func48, Try.ntmps48
  go_wp2
  exact bodyPost_ret (v := .agg #[.int .i64 g, .int .i64 h]) (by simp [results, Try.results48, go_sem]) rfl ⟨rfl, below_alloc3 _ _ _ _⟩
theorem c_eqMotion (g h g' h' : Int) (w : World) (e1 : g = g') (e2 : h = h') :
    Calls Try.prog 50 #[.agg #[.int .i64 g, .int .i64 h], .agg #[.int .i64 g', .int .i64 h']] w fun e w' => e = .returned (.bool true) ∧ Below w.heap.size w w' := by
  subst e1 e2
  go_enter Try.func50, Try.ntmps50
  go_wp2
  go_ret
  exact ⟨rfl, below_alloc2 _ _ _⟩
set_option maxHeartbeats 1000000 in
theorem c_canI (a v t : Int) (w : World) :
    Calls Try.prog 57 #[.agg #[.int .i64 a, .int .i64 v], .int .i64 t] w fun e w' => e = .returned (.bool (canStop a v t)) ∧ Below w.heap.size w w' := by
  rcases canStop_cases a v t with ⟨hm, hz⟩ | ⟨hm, ht, hz⟩ | ⟨hm, ht, h1, hz⟩ | ⟨hm, ht, h1, h2, hz⟩ | ⟨hm, ht, rfl, hz⟩
  · have HZ := Lib.hid hz; clear hz
    have HM := Lib.hid hm; clear hm
    go_enter Try.func57, Try.ntmps57
    go_wp2_with (go_at_call 44; refine (c_motVI _ _ _).mono ?_; rintro e w1 ⟨rfl, hb⟩; rw [HM.out])
    go_ret
    exact ⟨ret_bool (by rw [HZ.out]), below_after hb⟩
  · have HZ := Lib.hid hz; clear hz
    have HM := Lib.hid hm; clear hm
    have HT := Lib.hid ht; clear ht
    go_enter Try.func57, Try.ntmps57
    go_wp2_with (first | (go_at_call 44; refine (c_motVI _ _ _).mono ?_; rintro e w1 ⟨rfl, hb⟩; rw [HM.out]) | (go_at_call 56; refine (c_stepValid _ _).mono ?_; rintro e w' ⟨rfl, rfl⟩; rw [HT.out]))
    go_ret
    exact ⟨ret_bool (by rw [HZ.out]), below_after hb⟩
  all_goals
    have HZ := Lib.hid hz; clear hz
    obtain ⟨⟨a1, a2⟩, v1, v2⟩ := motV_iff.1 hm
    have HM := Lib.hid hm; clear hm
    obtain ⟨t1, t2⟩ := inB_iff.1 ht
    have HT := Lib.hid ht; clear ht
    go_enter Try.func57, Try.ntmps57
    go_wp2_with (first | (go_at_call 44; refine (c_motVI _ _ _).mono ?_; rintro e w1 ⟨rfl, hb⟩; rw [HM.out]; obtain ⟨c0, c1, f0, f1⟩ := cells2 hb (b := w.heap.size) (by simp) (heap_new _ _)) | (go_at_call 56; refine (c_stepValid _ _).mono ?_; rintro e w' ⟨rfl, rfl⟩; rw [HT.out]))
  · obtain ⟨b1, b2⟩ := brake_bd v
    have hw : IntKind.i64.wrap (a + brake v) = a + brake v := IntWalk.i64_in _ (by omega)
    go_quiet ((go_at_call 61; exact quiet_left (c_brakeI _ _)))
    clear hw
    go_wp2
    go_ret
    exact ⟨ret_bool (by rw [HZ.out]), below_drewN (below_after hb) _⟩
  · obtain ⟨b1, b2⟩ := brake_bd v
    have hw : IntKind.i64.wrap (a + brake v) = a + brake v := IntWalk.i64_in _ (by omega)
    go_quiet ((go_at_call 61; exact quiet_left (c_brakeI _ _)))
    clear hw
    go_wp2
    go_ret
    exact ⟨ret_bool (by rw [HZ.out]), below_drewN (below_after hb) _⟩
  · go_ret
    exact ⟨ret_bool (by rw [HZ.out]), below_after hb⟩
set_option maxHeartbeats 1000000 in
theorem c_canS (a v t : Int) (w : World) :
    Calls Try.prog 59 #[.agg #[.int .i64 a, .int .i64 v], .int .i64 t] w fun e w' => e = .returned (.bool (canStop a v t)) ∧ Below w.heap.size w w' := by
  rcases canStop_cases a v t with ⟨hm, hz⟩ | ⟨hm, ht, hz⟩ | ⟨hm, ht, h1, hz⟩ | ⟨hm, ht, h1, h2, hz⟩ | ⟨hm, ht, rfl, hz⟩
  · have HZ := Lib.hid hz; clear hz
    have HM := Lib.hid hm; clear hm
    go_enter Try.func59, Try.ntmps59
    go_wp2_with (go_at_call 41; refine (c_motVS _ _ _).mono ?_; rintro e w1 ⟨rfl, hb⟩; rw [HM.out])
    go_ret
    exact ⟨ret_bool (by rw [HZ.out]), below_after hb⟩
  · have HZ := Lib.hid hz; clear hz
    have HM := Lib.hid hm; clear hm
    have HT := Lib.hid ht; clear ht
    go_enter Try.func59, Try.ntmps59
    go_wp2_with (first | (go_at_call 41; refine (c_motVS _ _ _).mono ?_; rintro e w1 ⟨rfl, hb⟩; rw [HM.out]) | (go_at_call 36; refine (c_l1In _ _ _ _).mono ?_; rintro e w' ⟨rfl, rfl⟩; rw [HT.out]))
    go_ret
    exact ⟨ret_bool (by rw [HZ.out]), below_after hb⟩
  all_goals
    have HZ := Lib.hid hz; clear hz
    obtain ⟨⟨a1, a2⟩, v1, v2⟩ := motV_iff.1 hm
    have HM := Lib.hid hm; clear hm
    obtain ⟨t1, t2⟩ := inB_iff.1 ht
    have HT := Lib.hid ht; clear ht
    go_enter Try.func59, Try.ntmps59
    go_wp2_with (first | (go_at_call 41; refine (c_motVS _ _ _).mono ?_; rintro e w1 ⟨rfl, hb⟩; rw [HM.out]; obtain ⟨c0, c1, f0, f1⟩ := cells2 hb (b := w.heap.size) (by simp) (heap_new _ _)) | (go_at_call 36; refine (c_l1In _ _ _ _).mono ?_; rintro e w' ⟨rfl, rfl⟩; rw [HT.out]))
  · obtain ⟨b1, b2⟩ := brake_bd v
    have hw : IntKind.i64.wrap (a + brake v) = a + brake v := IntWalk.i64_in _ (by omega)
    go_quiet ((go_at_call 63; exact quiet_left (c_brakeS _ _)))
    clear hw
    go_wp2
    go_ret
    exact ⟨ret_bool (by rw [HZ.out]), below_drewN (below_after hb) _⟩
  · obtain ⟨b1, b2⟩ := brake_bd v
    have hw : IntKind.i64.wrap (a + brake v) = a + brake v := IntWalk.i64_in _ (by omega)
    go_quiet ((go_at_call 63; exact quiet_left (c_brakeS _ _)))
    clear hw
    go_wp2
    go_ret
    exact ⟨ret_bool (by rw [HZ.out]), below_drewN (below_after hb) _⟩
  · go_ret
    exact ⟨ret_bool (by rw [HZ.out]), below_after hb⟩
end Go.Proofs.Ythmjmlblnikmaaa
