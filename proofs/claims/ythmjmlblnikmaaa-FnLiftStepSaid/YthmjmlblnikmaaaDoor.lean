/- Contracts of the doors' functions: each returns what its plain function gives, and leaves all memory that was there as it was. No conditions. -/
import Derived.Test.YthmjmlblnikmaaaLow
import Derived.Test.YthmjmlblnikmaaaMem
import Derived.Lib.SmallJoins
namespace Go.Proofs.Ythmjmlblnikmaaa
open Go.RowKit Go.Joins Pl

theorem doorV_cases (g h : Int) : (g < 0 ∧ doorV g h = false) ∨ (0 ≤ g ∧ 4 < g ∧ doorV g h = false) ∨ (0 ≤ g ∧ g ≤ 4 ∧ h < 0 ∧ doorV g h = false) ∨ (0 ≤ g ∧ g ≤ 4 ∧ 0 ≤ h ∧ 3 < h ∧ doorV g h = false) ∨
    (0 ≤ g ∧ g < 4 ∧ 0 < h ∧ h ≤ 3 ∧ doorV g h = false) ∨ (g = 4 ∧ 0 < h ∧ h ≤ 3 ∧ doorV g h = true) ∨ (0 ≤ g ∧ g ≤ 4 ∧ h = 0 ∧ doorV g h = true) := by
  have h1 : doorV g h = true ↔ _ := doorV_iff
  have h2 : doorV g h = false ↔ ¬ doorV g h = true := by simp
  by_cases c1 : g < 0
  · exact .inl ⟨c1, by rw [h2, h1]; omega⟩
  · by_cases c2 : 4 < g
    · exact .inr (.inl ⟨by omega, c2, by rw [h2, h1]; omega⟩)
    · by_cases c3 : h < 0
      · exact .inr (.inr (.inl ⟨by omega, by omega, c3, by rw [h2, h1]; omega⟩))
      · by_cases c4 : 3 < h
        · exact .inr (.inr (.inr (.inl ⟨by omega, by omega, by omega, c4, by rw [h2, h1]; omega⟩)))
        · by_cases c5 : h = 0
          · exact .inr (.inr (.inr (.inr (.inr (.inr ⟨by omega, by omega, c5, by rw [h1]; omega⟩)))))
          · by_cases c6 : g = 4
            · exact .inr (.inr (.inr (.inr (.inr (.inl ⟨c6, by omega, by omega, by rw [h1]; omega⟩)))))
            · exact .inr (.inr (.inr (.inr (.inl ⟨by omega, by omega, by omega, by omega, by rw [h2, h1]; omega⟩))))

theorem doorStep_cases {g h : Int} (hv : doorV g h = true) (ask bl : Bool) :
    (ask = true ∧ 0 ≤ g ∧ g < 3 ∧ h = 0 ∧ doorStep g h ask bl = (g + 1, 0)) ∨ (ask = true ∧ g = 3 ∧ h = 0 ∧ doorStep g h ask bl = (4, 3)) ∨ (ask = true ∧ g = 4 ∧ doorStep g h ask bl = (4, 3)) ∨
    (ask = false ∧ bl = true ∧ 0 < g ∧ g < 3 ∧ h = 0 ∧ doorStep g h ask bl = (g + 1, 0)) ∨ (ask = false ∧ bl = true ∧ g = 3 ∧ h = 0 ∧ doorStep g h ask bl = (4, 3)) ∨ (ask = false ∧ bl = true ∧ g = 4 ∧ doorStep g h ask bl = (4, 3)) ∨
    (ask = false ∧ bl = true ∧ g = 0 ∧ h = 0 ∧ doorStep g h ask bl = (0, 0)) ∨ (ask = false ∧ bl = false ∧ g = 0 ∧ h = 0 ∧ doorStep g h ask bl = (0, 0)) ∨
    (ask = false ∧ bl = false ∧ g = 4 ∧ 0 < h ∧ h ≤ 3 ∧ doorStep g h ask bl = (4, h - 1)) ∨ (ask = false ∧ bl = false ∧ 0 < g ∧ g ≤ 4 ∧ h = 0 ∧ doorStep g h ask bl = (g - 1, 0)) := by
  have hb := doorV_iff.1 hv
  have hc : (g = 0 ∧ h = 0) ∨ (g = 1 ∧ h = 0) ∨ (g = 2 ∧ h = 0) ∨ (g = 3 ∧ h = 0) ∨ (g = 4 ∧ h = 0) ∨ (g = 4 ∧ h = 1) ∨ (g = 4 ∧ h = 2) ∨ (g = 4 ∧ h = 3) := by omega
  rcases hc with ⟨rfl, rfl⟩ | ⟨rfl, rfl⟩ | ⟨rfl, rfl⟩ | ⟨rfl, rfl⟩ | ⟨rfl, rfl⟩ | ⟨rfl, rfl⟩ | ⟨rfl, rfl⟩ | ⟨rfl, rfl⟩ <;> cases ask <;> cases bl <;> decide

theorem c_doorVI (g h : Int) (w : World) :
    Calls Try.prog 45 #[.agg #[.int .i64 g, .int .i64 h]] w fun e w' => e = .returned (.bool (doorV g h)) ∧ Below w.heap.size w w' := by
  rcases doorV_cases g h with ⟨h1, hz⟩ | ⟨h1, h2, hz⟩ | ⟨h1, h2, h3, hz⟩ | ⟨h1, h2, h3, h4, hz⟩ | ⟨h1, h2, h3, h4, hz⟩ | ⟨rfl, h3, h4, hz⟩ | ⟨h1, h2, rfl, hz⟩
  all_goals
    have HZ := Lib.hid hz; clear hz
    go_enter Try.func45, Try.ntmps45
    go_wp2
    go_ret
    exact ⟨ret_bool (by rw [HZ.out] <;> simp <;> omega), below_alloc1 _ _⟩
theorem c_doorVS (g h : Int) (w : World) :
    Calls Try.prog 42 #[.agg #[.int .i64 g, .int .i64 h]] w fun e w' => e = .returned (.bool (doorV g h)) ∧ Below w.heap.size w w' := by
  rcases doorV_cases g h with ⟨h1, hz⟩ | ⟨h1, h2, hz⟩ | ⟨h1, h2, h3, hz⟩ | ⟨h1, h2, h3, h4, hz⟩ | ⟨h1, h2, h3, h4, hz⟩ | ⟨rfl, h3, h4, hz⟩ | ⟨h1, h2, rfl, hz⟩
  all_goals
    have HZ := Lib.hid hz; clear hz
    go_enter Try.func42, Try.ntmps42
    go_wp2
    go_ret
    exact ⟨ret_bool (by rw [HZ.out] <;> simp <;> omega), below_alloc1 _ _⟩
theorem c_toDoor (g h : Int) (w : World) :
    Calls Try.prog 49 #[.agg #[.int .i64 g, .int .i64 h]] w fun e w' => e = .returned (.agg #[.int .i64 g, .int .i64 h]) ∧ Below w.heap.size w w' := by
  go_enter Try.func49, Try.ntmps49
  go_wp2
  exact bodyPost_ret (v := .agg #[.int .i64 g, .int .i64 h]) (by simp [results, Try.results49, go_sem]) rfl ⟨rfl, below_alloc3 _ _ _ _⟩
theorem c_eqDoor (g h g' h' : Int) (w : World) (e1 : g = g') (e2 : h = h') :
    Calls Try.prog 51 #[.agg #[.int .i64 g, .int .i64 h], .agg #[.int .i64 g', .int .i64 h']] w fun e w' => e = .returned (.bool true) ∧ Below w.heap.size w w' := by
  subst e1 e2
  go_enter Try.func51, Try.ntmps51
  go_wp2
  go_ret
  exact ⟨rfl, below_alloc2 _ _ _⟩
theorem doorV_enum {g h : Int} (hv : doorV g h = true) : (g = 0 ∧ h = 0) ∨ (g = 1 ∧ h = 0) ∨ (g = 2 ∧ h = 0) ∨ (g = 3 ∧ h = 0) ∨ (g = 4 ∧ h = 0) ∨ (g = 4 ∧ h = 1) ∨ (g = 4 ∧ h = 2) ∨ (g = 4 ∧ h = 3) := by
  have := doorV_iff.1 hv
  omega
theorem c_doorTS (g h : Int) (w : World) :
    Calls Try.prog 46 #[.agg #[.int .i64 g, .int .i64 h]] w fun e w' => e = .returned (.int .i64 (doorTicks g h)) ∧ Below w.heap.size w w' := by
  by_cases hv : doorV g h = true
  · have hz : doorTicks g h = g + h := by unfold doorTicks; rw [hv]; rfl
    have hd := doorV_iff.1 hv
    obtain ⟨⟨d1, d2⟩, ⟨d3, d4⟩, _⟩ := hd
    have HV := Lib.hid hv; clear hv
    have HZ := Lib.hid hz; clear hz
    go_enter Try.func46, Try.ntmps46
    go_wp2_with (go_at_call 42; refine (c_doorVS _ _ _).mono ?_; rintro e w1 ⟨rfl, hb⟩; rw [HV.out]; obtain ⟨hc, hf⟩ := bcell hb)
    go_ret
    exact ⟨ret_int (by rw [HZ.out]), below_after hb⟩
  · have hv' : doorV g h = false := by simpa using hv
    have hz : doorTicks g h = -1 := by unfold doorTicks; rw [hv']; rfl
    have HV := Lib.hid hv'; clear hv hv'
    have HZ := Lib.hid hz; clear hz
    go_enter Try.func46, Try.ntmps46
    go_wp2_with (go_at_call 42; refine (c_doorVS _ _ _).mono ?_; rintro e w1 ⟨rfl, hb⟩; rw [HV.out]; obtain ⟨hc, hf⟩ := bcell hb)
    go_ret
    exact ⟨ret_int (by rw [HZ.out]), below_after hb⟩
set_option maxHeartbeats 2000000 in
theorem c_doorStepI (g h : Int) (ask bl : Bool) (w : World) :
    Calls Try.prog 34 #[.agg #[.int .i64 g, .int .i64 h], .bool ask, .bool bl] w fun e w' => e = .returned (.agg #[.int .i64 (doorStep g h ask bl).1, .int .i64 (doorStep g h ask bl).2]) ∧ Below w.heap.size w w' := by
  by_cases hv : doorV g h = true
  · rcases doorStep_cases hv ask bl with ⟨rfl, h1, h2, rfl, hz⟩ | ⟨rfl, rfl, rfl, hz⟩ | ⟨rfl, rfl, hz⟩ | ⟨rfl, rfl, h1, h2, rfl, hz⟩ | ⟨rfl, rfl, rfl, rfl, hz⟩ | ⟨rfl, rfl, rfl, hz⟩ | ⟨rfl, rfl, rfl, rfl, hz⟩ | ⟨rfl, rfl, rfl, rfl, hz⟩ | ⟨rfl, rfl, rfl, h1, h2, hz⟩ | ⟨rfl, rfl, h1, h2, rfl, hz⟩
    all_goals
      have HZ := Lib.hid hz; clear hz
      have HV := Lib.hid hv; clear hv
      go_enter Try.func34, Try.ntmps34
      go_wp2_with (go_at_call 45; refine (c_doorVI _ _ _).mono ?_; rintro e w1 ⟨rfl, hb⟩; rw [HV.out]; obtain ⟨c0, c1, f0, f1⟩ := cells2 hb (b := w.heap.size) (by simp; omega) (heap_new2 _ _ _); obtain ⟨c2, c3, f2, f3⟩ := cells2 hb (b := w.heap.size + 1) (by simp) (heap_new2' _ _ _))
      all_goals
        first
          | (exfalso; have hx := ‹(_ + 1 == 4) = true›; simp at hx; omega)
          | (refine bodyPost_ret ?_ rfl ⟨rfl, ?_⟩
             · rw [HZ.out]; simp [results, Try.results34, go_sem, c2, c3]
             · (repeat (first | exact below_after2 hb | refine Below.setCell ?_ (by simp) _)))
  · have hv' : doorV g h = false := by simpa using hv
    have hz : doorStep g h ask bl = (0, 0) := by unfold doorStep; rw [hv']; rfl
    have HV := Lib.hid hv'; clear hv hv'
    have HZ := Lib.hid hz; clear hz
    go_enter Try.func34, Try.ntmps34
    go_wp2_with (go_at_call 45; refine (c_doorVI _ _ _).mono ?_; rintro e w1 ⟨rfl, hb⟩; rw [HV.out]; obtain ⟨c0, c1, f0, f1⟩ := cells2 hb (b := w.heap.size) (by simp; omega) (heap_new2 _ _ _); obtain ⟨c2, c3, f2, f3⟩ := cells2 hb (b := w.heap.size + 1) (by simp) (heap_new2' _ _ _))
    refine bodyPost_ret ?_ rfl ⟨rfl, ?_⟩
    · rw [HZ.out]; simp [results, Try.results34, go_sem, c2, c3]
    · (repeat (first | exact below_after2 hb | refine Below.setCell ?_ (by simp) _))
set_option maxHeartbeats 2000000 in
theorem c_doorStepS (g h : Int) (ask bl : Bool) (w : World) :
    Calls Try.prog 38 #[.agg #[.int .i64 g, .int .i64 h], .bool ask, .bool bl] w fun e w' => e = .returned (.agg #[.int .i64 (doorStep g h ask bl).1, .int .i64 (doorStep g h ask bl).2]) ∧ Below w.heap.size w w' := by
  by_cases hv : doorV g h = true
  · rcases doorStep_cases hv ask bl with ⟨rfl, h1, h2, rfl, hz⟩ | ⟨rfl, rfl, rfl, hz⟩ | ⟨rfl, rfl, hz⟩ | ⟨rfl, rfl, h1, h2, rfl, hz⟩ | ⟨rfl, rfl, rfl, rfl, hz⟩ | ⟨rfl, rfl, rfl, hz⟩ | ⟨rfl, rfl, rfl, rfl, hz⟩ | ⟨rfl, rfl, rfl, rfl, hz⟩ | ⟨rfl, rfl, rfl, h1, h2, hz⟩ | ⟨rfl, rfl, h1, h2, rfl, hz⟩
    all_goals
      have HZ := Lib.hid hz; clear hz
      have HV := Lib.hid hv; clear hv
      go_enter Try.func38, Try.ntmps38
      go_wp2_with (go_at_call 42; refine (c_doorVS _ _ _).mono ?_; rintro e w1 ⟨rfl, hb⟩; rw [HV.out]; obtain ⟨c0, c1, f0, f1⟩ := cells2 hb (b := w.heap.size) (by simp; omega) (heap_new2 _ _ _); obtain ⟨c2, c3, f2, f3⟩ := cells2 hb (b := w.heap.size + 1) (by simp) (heap_new2' _ _ _))
      all_goals
        first
          | (exfalso; have hx := ‹(_ + 1 == 4) = true›; simp at hx; omega)
          | (refine bodyPost_ret ?_ rfl ⟨rfl, ?_⟩
             · rw [HZ.out]; simp [results, Try.results38, go_sem, c2, c3]
             · (repeat (first | exact below_after2 hb | refine Below.setCell ?_ (by simp) _)))
  · have hv' : doorV g h = false := by simpa using hv
    have hz : doorStep g h ask bl = (0, 0) := by unfold doorStep; rw [hv']; rfl
    have HV := Lib.hid hv'; clear hv hv'
    have HZ := Lib.hid hz; clear hz
    go_enter Try.func38, Try.ntmps38
    go_wp2_with (go_at_call 42; refine (c_doorVS _ _ _).mono ?_; rintro e w1 ⟨rfl, hb⟩; rw [HV.out]; obtain ⟨c0, c1, f0, f1⟩ := cells2 hb (b := w.heap.size) (by simp; omega) (heap_new2 _ _ _); obtain ⟨c2, c3, f2, f3⟩ := cells2 hb (b := w.heap.size + 1) (by simp) (heap_new2' _ _ _))
    refine bodyPost_ret ?_ rfl ⟨rfl, ?_⟩
    · rw [HZ.out]; simp [results, Try.results38, go_sem, c2, c3]
    · (repeat (first | exact below_after2 hb | refine Below.setCell ?_ (by simp) _))
end Go.Proofs.Ythmjmlblnikmaaa
