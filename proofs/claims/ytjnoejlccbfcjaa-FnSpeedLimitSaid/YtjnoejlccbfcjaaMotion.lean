/- Contracts of the functions on moving cars: each returns what its plain function gives, and leaves all memory that was there as it was. No conditions. -/
import Derived.Test.YtjnoejlccbfcjaaLow
import Derived.Test.YtjnoejlccbfcjaaPlainB
import Derived.Test.YtjnoejlccbfcjaaMem
import Derived.Lib.SmallJoins
import Derived.IntWalk
namespace Go.Proofs.Ytjnoejlccbfcjaa
open Go.RowKit Go.Joins Pl

theorem c_motVI (a v : Int) (w : World) :
    Calls Try.prog 23 #[.agg #[.int .i64 a, .int .i64 v]] w fun e w' => e = .returned (.bool (motV a v)) ∧ Below w.heap.size w w' := by
  rcases motV_cases a v with ⟨ha, hz⟩ | ⟨ha, h1, hz⟩ | ⟨ha, h1, h2, hz⟩ | ⟨ha, h1, h2, hz⟩
  all_goals
    have HZ := Lib.hid hz; clear hz
    have HA := Lib.hid ha; clear ha
    go_enter Try.func23, Try.ntmps23
    go_wp2_with (go_at_call 58; refine (c_stepValid _ _).mono ?_; rintro e w' ⟨rfl, rfl⟩; rw [HA.out])
    go_ret
    exact ⟨ret_bool (by rw [HZ.out] <;> simp <;> omega), below_alloc1 _ _⟩
theorem c_motVS (a v : Int) (w : World) :
    Calls Try.prog 24 #[.agg #[.int .i64 a, .int .i64 v]] w fun e w' => e = .returned (.bool (motV a v)) ∧ Below w.heap.size w w' := by
  have hz : motV a v = (inB a 0 60 && inB v (-5) 5) := rfl
  have HZ := Lib.hid hz; clear hz
  rcases ha : inB a 0 60 <;> rcases hv : inB v (-5) 5
  all_goals
    have HA := Lib.hid ha; clear ha
    have HV := Lib.hid hv; clear hv
    go_enter Try.func24, Try.ntmps24
    go_wp2_with (go_at_call 56; refine (c_l1In _ _ _ _).mono ?_; rintro e w' ⟨rfl, rfl⟩; first | rw [HA.out] | rw [HV.out])
    go_ret
    exact ⟨ret_bool (by rw [HZ.out, HA.out, HV.out]; rfl), below_alloc1 _ _⟩
set_option maxHeartbeats 1000000 in
theorem c_canI (a v t : Int) (w : World) :
    Calls Try.prog 38 #[.agg #[.int .i64 a, .int .i64 v], .int .i64 t] w fun e w' => e = .returned (.bool (canStop a v t)) ∧ Below w.heap.size w w' := by
  rcases canStop_cases a v t with ⟨hm, hz⟩ | ⟨hm, ht, hz⟩ | ⟨hm, ht, h1, hz⟩ | ⟨hm, ht, h1, h2, hz⟩ | ⟨hm, ht, rfl, hz⟩
  · have HZ := Lib.hid hz; clear hz
    have HM := Lib.hid hm; clear hm
    go_enter Try.func38, Try.ntmps38
    go_wp2_with (go_at_call 23; refine (c_motVI _ _ _).mono ?_; rintro e w1 ⟨rfl, hb⟩; rw [HM.out])
    go_ret
    exact ⟨ret_bool (by rw [HZ.out]), below_after hb⟩
  · have HZ := Lib.hid hz; clear hz
    have HM := Lib.hid hm; clear hm
    have HT := Lib.hid ht; clear ht
    go_enter Try.func38, Try.ntmps38
    go_wp2_with (first | (go_at_call 23; refine (c_motVI _ _ _).mono ?_; rintro e w1 ⟨rfl, hb⟩; rw [HM.out]) | (go_at_call 58; refine (c_stepValid _ _).mono ?_; rintro e w' ⟨rfl, rfl⟩; rw [HT.out]))
    go_ret
    exact ⟨ret_bool (by rw [HZ.out]), below_after hb⟩
  all_goals
    have HZ := Lib.hid hz; clear hz
    obtain ⟨⟨a1, a2⟩, v1, v2⟩ := motV_iff.1 hm
    have HM := Lib.hid hm; clear hm
    obtain ⟨t1, t2⟩ := inB_iff.1 ht
    have HT := Lib.hid ht; clear ht
    go_enter Try.func38, Try.ntmps38
    go_wp2_with (first | (go_at_call 23; refine (c_motVI _ _ _).mono ?_; rintro e w1 ⟨rfl, hb⟩; rw [HM.out]; obtain ⟨c0, c1, f0, f1⟩ := cells2 hb (b := w.heap.size) (by simp) (heap_new _ _)) | (go_at_call 58; refine (c_stepValid _ _).mono ?_; rintro e w' ⟨rfl, rfl⟩; rw [HT.out]))
  · obtain ⟨b1, b2⟩ := brake_bd v
    have hw : IntKind.i64.wrap (a + brake v) = a + brake v := IntWalk.i64_in _ (by omega)
    go_quiet ((go_at_call 20; exact quiet_left (c_brakeI _ _)))
    clear hw
    go_wp2
    go_ret
    exact ⟨ret_bool (by rw [HZ.out]), below_drewN (below_after hb) _⟩
  · obtain ⟨b1, b2⟩ := brake_bd v
    have hw : IntKind.i64.wrap (a + brake v) = a + brake v := IntWalk.i64_in _ (by omega)
    go_quiet ((go_at_call 20; exact quiet_left (c_brakeI _ _)))
    clear hw
    go_wp2
    go_ret
    exact ⟨ret_bool (by rw [HZ.out]), below_drewN (below_after hb) _⟩
  · go_ret
    exact ⟨ret_bool (by rw [HZ.out]), below_after hb⟩
set_option maxHeartbeats 1000000 in
theorem c_canS (a v t : Int) (w : World) :
    Calls Try.prog 46 #[.agg #[.int .i64 a, .int .i64 v], .int .i64 t] w fun e w' => e = .returned (.bool (canStop a v t)) ∧ Below w.heap.size w w' := by
  rcases canStop_cases a v t with ⟨hm, hz⟩ | ⟨hm, ht, hz⟩ | ⟨hm, ht, h1, hz⟩ | ⟨hm, ht, h1, h2, hz⟩ | ⟨hm, ht, rfl, hz⟩
  · have HZ := Lib.hid hz; clear hz
    have HM := Lib.hid hm; clear hm
    go_enter Try.func46, Try.ntmps46
    go_wp2_with (go_at_call 24; refine (c_motVS _ _ _).mono ?_; rintro e w1 ⟨rfl, hb⟩; rw [HM.out])
    go_ret
    exact ⟨ret_bool (by rw [HZ.out]), below_after hb⟩
  · have HZ := Lib.hid hz; clear hz
    have HM := Lib.hid hm; clear hm
    have HT := Lib.hid ht; clear ht
    go_enter Try.func46, Try.ntmps46
    go_wp2_with (first | (go_at_call 24; refine (c_motVS _ _ _).mono ?_; rintro e w1 ⟨rfl, hb⟩; rw [HM.out]) | (go_at_call 56; refine (c_l1In _ _ _ _).mono ?_; rintro e w' ⟨rfl, rfl⟩; rw [HT.out]))
    go_ret
    exact ⟨ret_bool (by rw [HZ.out]), below_after hb⟩
  all_goals
    have HZ := Lib.hid hz; clear hz
    obtain ⟨⟨a1, a2⟩, v1, v2⟩ := motV_iff.1 hm
    have HM := Lib.hid hm; clear hm
    obtain ⟨t1, t2⟩ := inB_iff.1 ht
    have HT := Lib.hid ht; clear ht
    go_enter Try.func46, Try.ntmps46
    go_wp2_with (first | (go_at_call 24; refine (c_motVS _ _ _).mono ?_; rintro e w1 ⟨rfl, hb⟩; rw [HM.out]; obtain ⟨c0, c1, f0, f1⟩ := cells2 hb (b := w.heap.size) (by simp) (heap_new _ _)) | (go_at_call 56; refine (c_l1In _ _ _ _).mono ?_; rintro e w' ⟨rfl, rfl⟩; rw [HT.out]))
  · obtain ⟨b1, b2⟩ := brake_bd v
    have hw : IntKind.i64.wrap (a + brake v) = a + brake v := IntWalk.i64_in _ (by omega)
    go_quiet ((go_at_call 21; exact quiet_left (c_brakeS _ _)))
    clear hw
    go_wp2
    go_ret
    exact ⟨ret_bool (by rw [HZ.out]), below_drewN (below_after hb) _⟩
  · obtain ⟨b1, b2⟩ := brake_bd v
    have hw : IntKind.i64.wrap (a + brake v) = a + brake v := IntWalk.i64_in _ (by omega)
    go_quiet ((go_at_call 21; exact quiet_left (c_brakeS _ _)))
    clear hw
    go_wp2
    go_ret
    exact ⟨ret_bool (by rw [HZ.out]), below_drewN (below_after hb) _⟩
  · go_ret
    exact ⟨ret_bool (by rw [HZ.out]), below_after hb⟩
end Go.Proofs.Ytjnoejlccbfcjaa
