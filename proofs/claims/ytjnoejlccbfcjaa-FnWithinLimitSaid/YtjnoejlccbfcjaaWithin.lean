/- Contract of the reference's WithinLimit. No conditions. -/
import Derived.Test.YtjnoejlccbfcjaaTicks
import Derived.Deep.RegionWith
namespace Go.Proofs.Ytjnoejlccbfcjaa
open Go.RowKit Go.Joins Pl
theorem c_motVS0 (a v : Int) (w : World) (hm : motV a v = false) :
    Calls Try.prog 24 #[.agg #[.int .i64 a, .int .i64 v]] w fun e w' => e = .returned (.bool false) ∧ Below w.heap.size w w' := by
  have := c_motVS a v w
  rw [hm] at this
  exact this
set_option maxHeartbeats 2000000 in
theorem c_withS0 (a v : Int) (w : World) (hm : motV a v = false) (hz : withinL a v = false) :
    Calls Try.prog 50 #[.agg #[.int .i64 a, .int .i64 v]] w fun e w' => e = .returned (.bool (withinL a v)) ∧ Below w.heap.size w w' := by
  obtain ⟨B, own⟩ := start1 w (.int .i64 a) (.int .i64 v) 31
  have HZ := Lib.hid hz; clear hz
  have HM := Lib.hid hm; clear hm
  have c0 := own.c0
  have c1 := own.c1
  go_enter Try.func50, Try.ntmps50
  go_wp2
  refine wp_region_any (by kernel_rfl) ?_
  change wpAny _ _ _ _ _ _ _ (World.drew _)
  refine wpAny_ready (rs := [0]) (by kernel_rfl) (by simp) ?_
  refine AllReady.cons rfl (fun K hK => ?_) AllReady.nil
  go_simp
  refine hK _ _ ?_
  clear hK K
  refine wpAny_ready (rs := [1]) (by kernel_rfl) (by simp) ?_
  refine AllReady.cons rfl (fun K hK => ?_) AllReady.nil
  go_simp
  go_wp2_with (first | (go_at_call 24; refine (c_motVS0 _ _ _ HM.out).mono ?_; rintro e w1 ⟨rfl, hb⟩))
  refine wpAny_take (i := 2) (v := .bool false) rfl (by kernel_rfl) (by kernel_rfl) (by kernel_rfl) (fun _ _ _ h => h) (Or.inl ⟨by rfl, by intro w; go_simp⟩) ?_
  go_simp
  refine wpAny_take (i := 3) (v := undef) rfl (by kernel_rfl) (by kernel_rfl) (by kernel_rfl) (fun _ _ _ h => h) (Or.inr ⟨by rfl, rfl⟩) ?_
  go_simp
  refine wpAny_take (i := 4) (v := undef) rfl (by kernel_rfl) (by kernel_rfl) (by kernel_rfl) (fun _ _ _ h => h) (Or.inr ⟨by rfl, rfl⟩) ?_
  go_simp
  refine wpAny_take (i := 5) (v := undef) rfl (by kernel_rfl) (by kernel_rfl) (by kernel_rfl) (fun _ _ _ h => h) (Or.inr ⟨by rfl, rfl⟩) ?_
  go_simp
  refine wpAny_take (i := 6) (v := undef) rfl (by kernel_rfl) (by kernel_rfl) (by kernel_rfl) (fun _ _ _ h => h) (Or.inr ⟨by rfl, rfl⟩) ?_
  go_simp
  refine wpAny_take (i := 7) (v := undef) rfl (by kernel_rfl) (by kernel_rfl) (by kernel_rfl) (fun _ _ _ h => h) (Or.inr ⟨by rfl, rfl⟩) ?_
  go_simp
  refine wpAny_take (i := 8) (v := undef) rfl (by kernel_rfl) (by kernel_rfl) (by kernel_rfl) (fun _ _ _ h => h) (Or.inr ⟨by rfl, rfl⟩) ?_
  go_simp
  refine wpAny_take (i := 9) (v := undef) rfl (by kernel_rfl) (by kernel_rfl) (by kernel_rfl) (fun _ _ _ h => h) (Or.inr ⟨by rfl, rfl⟩) ?_
  go_simp
  refine wpAny_take (i := 10) (v := undef) rfl (by kernel_rfl) (by kernel_rfl) (by kernel_rfl) (fun _ _ _ h => h) (Or.inr ⟨by rfl, rfl⟩) ?_
  go_simp
  refine wpAny_take (i := 11) (v := undef) rfl (by kernel_rfl) (by kernel_rfl) (by kernel_rfl) (fun _ _ _ h => h) (Or.inr ⟨by rfl, rfl⟩) ?_
  go_simp
  refine wpAny_take (i := 12) (v := undef) rfl (by kernel_rfl) (by kernel_rfl) (by kernel_rfl) (fun _ _ _ h => h) (Or.inr ⟨by rfl, rfl⟩) ?_
  go_simp
  refine wpAny_take (i := 13) (v := .bool false) rfl (by kernel_rfl) (by kernel_rfl) (by kernel_rfl) (fun _ _ _ h => h) (Or.inl ⟨by rfl, by intro w; go_simp⟩) ?_
  go_simp
  refine wpAny_take (i := 14) (v := .bool false) rfl (by kernel_rfl) (by kernel_rfl) (by kernel_rfl) (fun _ _ _ h => h) (Or.inl ⟨by rfl, by intro w; go_simp⟩) ?_
  go_simp
  refine wpAny_done (by kernel_rfl) ?_ _
  go_wp2
  go_ret
  exact ⟨ret_bool (by rw [HZ.out]), B.drew.trans (hb.mono B.size)⟩
set_option maxHeartbeats 2000000 in
theorem c_withS (a v : Int) (w : World) :
    Calls Try.prog 50 #[.agg #[.int .i64 a, .int .i64 v]] w fun e w' => e = .returned (.bool (withinL a v)) ∧ Below w.heap.size w w' := by
  by_cases hm : motV a v = true
  · have hz : withinL a v = decide (dist v 0 ≤ speedLimit a (decide (0 < v))) := by
      unfold withinL
      rw [hm, show dist v 0 = absI v from by unfold dist absI; split <;> omega]
      rfl
    obtain ⟨B, own⟩ := start1 w (.int .i64 a) (.int .i64 v) 31
    have HZ := Lib.hid hz; clear hz
    obtain ⟨⟨a1, a2⟩, v1, v2⟩ := motV_iff.1 hm
    have HM := Lib.hid hm; clear hm
    go_enter Try.func50, Try.ntmps50
    go_wp2
    go_region_held3 (fun w' => w'.cell? ⟨w.heap.size, 0, none⟩ = some (.int .i64 a) ∧ w'.cell? ⟨w.heap.size, 1, none⟩ = some (.int .i64 v)) (first | exact ⟨own.c0, own.c1⟩ | exact ⟨(own.drew.call hb).c0, (own.drew.call hb).c1⟩ | go_keep)
      (first | (go_at_call 24; refine (c_motVS _ _ _).mono ?_; rintro e w1 ⟨rfl, hb⟩; rw [HM.out]) | (go_at_call 66; refine (c_l1Far _ _ _ (by omega) (by omega) (by omega) (by omega)).mono ?_; rintro e w' ⟨rfl, rfl⟩) | (go_at_call 37; refine (c_limS _ _ _).mono ?_; rintro e w' ⟨rfl, rfl⟩))
    go_wp2
    go_ret
    exact ⟨ret_bool (by rw [HZ.out]), B.drew.trans (hb.mono B.size)⟩
  · have hm' : motV a v = false := by simpa using hm
    exact c_withS0 a v w hm' (by unfold withinL; rw [hm']; rfl)
end Go.Proofs.Ytjnoejlccbfcjaa
