/- What the functions on cars with doors compute, as plain functions, and the facts on them: the loops end, and in how many ticks. No program is in sight; no conditions. -/
import Derived.Test.YthmjmlblnikmaaaPlainB
namespace Go.Proofs.Ythmjmlblnikmaaa.Pl

theorem liftV_iff {L : List Int} {a v g h : Int} : liftV L a v g h = true ↔ floorsV L = true ∧ motV a v = true ∧ doorV g h = true ∧ (g = 0 ∨ 0 ≤ standF L a v) := by
  simp [liftV]
theorem standF_bd (L : List Int) (a v : Int) : -1 ≤ standF L a v ∧ standF L a v < L.length := by
  unfold standF; split
  · exact floorAt_bd L a
  · omega
theorem standF_iff {L : List Int} (h : floorsV L = true) {k : Nat} (hk : k < L.length) (a v : Int) : standF L a v = (k : Int) ↔ a = nth L k ∧ v = 0 := by
  unfold standF
  by_cases hv : v = 0
  · rw [if_pos hv, floorAt_iff h hk]; simp [hv]
  · rw [if_neg hv]; constructor
    · intro e; omega
    · rintro ⟨_, e⟩; exact absurd e hv
theorem doorStep_none {g h : Int} (hv : doorV g h = true) (h0 : 0 < g) : (doorStep g h false false).1 + (doorStep g h false false).2 = g + h - 1 ∧ (doorV (doorStep g h false false).1 (doorStep g h false false).2 = true) := by
  refine ⟨?_, doorStep_valid hv _ _⟩
  have hb := doorV_iff.1 hv
  unfold doorStep
  rw [hv]
  simp only [Bool.false_or, Bool.and_false, if_true]
  by_cases h1 : 0 < h
  · rw [if_neg (by simp), if_pos h1]; show g + (h - 1) = _; omega
  · rw [if_neg (by simp), if_neg h1, if_pos h0]; show (g - 1) + h = _; omega
theorem doorStep_ask {g h : Int} (hv : doorV g h = true) (bl : Bool) (h4 : g < 4) : (doorStep g h true bl).1 = g + 1 := by
  have hb := doorV_iff.1 hv
  unfold doorStep
  rw [hv]
  simp only [Bool.true_or, if_true]
  by_cases h1 : g < 3
  · rw [if_pos h1]
  · rw [if_neg h1]; show (4 : Int) = _; omega
theorem gate_closed {g h : Int} (hv : doorV g h = true) (h0 : ¬ 0 < g) : g = 0 ∧ h = 0 := by
  have hb := doorV_iff.1 hv; omega

/-- A valid car stays valid. -/
theorem liftStep_valid {L : List Int} {x : Car} {t : Int} (hx : liftV L x.a x.v x.g x.h = true) (ht : isFl L t = true) (ask bl : Bool) :
    liftV L (liftStep L x t ask bl).a (liftStep L x t ask bl).v (liftStep L x t ask bl).g (liftStep L x t ask bl).h = true := by
  obtain ⟨h1, h2, h3, h4⟩ := liftV_iff.1 hx
  unfold liftStep
  rw [hx, ht]
  simp only [Bool.and_self, if_true]
  by_cases hc : (decide (0 < x.g) || (ask && decide (0 ≤ standF L x.a x.v))) = true
  · rw [if_pos hc]
    refine liftV_iff.2 ⟨h1, h2, doorStep_valid h3 _ _, .inr ?_⟩
    simp only [Bool.or_eq_true, decide_eq_true_eq, Bool.and_eq_true] at hc
    rcases hc with hc | hc
    · rcases h4 with h4 | h4
      · omega
      · exact h4
    · exact hc.2
  · rw [if_neg hc]
    simp only [Bool.or_eq_true, decide_eq_true_eq, not_or] at hc
    obtain ⟨e1, e2⟩ := gate_closed h3 hc.1
    obtain ⟨k, hk, rfl⟩ := isFl_nat ht
    refine liftV_iff.2 ⟨h1, stepM_valid h2 ?_, h3, .inl e1⟩
    have := fv_bd (floorsV_iff.1 h1) hk
    simp only [Int.toNat_natCast]
    exact inB_iff.2 this
theorem liftStep_door {L : List Int} {x : Car} {t : Int} (hx : liftV L x.a x.v x.g x.h = true) (ht : isFl L t = true) (ask bl : Bool) (hc : 0 < x.g ∨ (ask = true ∧ 0 ≤ standF L x.a x.v)) :
    liftStep L x t ask bl = ⟨x.a, x.v, (doorStep x.g x.h ask bl).1, (doorStep x.g x.h ask bl).2⟩ := by
  unfold liftStep
  rw [hx, ht]
  simp only [Bool.and_self, if_true]
  rw [if_pos (by simpa using hc)]
theorem liftStep_move {L : List Int} {x : Car} {k : Nat} (hx : liftV L x.a x.v x.g x.h = true) (hk : k < L.length) (ask bl : Bool) (hc : ¬ (0 < x.g ∨ (ask = true ∧ 0 ≤ standF L x.a x.v))) :
    liftStep L x (k : Int) ask bl = ⟨(stepM x.a x.v (nth L k)).1, (stepM x.a x.v (nth L k)).2, x.g, x.h⟩ := by
  unfold liftStep
  rw [hx, isFl_mk hk]
  simp only [Bool.and_self, if_true]
  rw [if_neg (by simpa using hc)]
  simp only [Int.toNat_natCast]

/-- How many ticks a car goes to a floor: those of its door, then those of its way. -/
def goT (L : List Int) (x : Car) (k : Nat) : Nat := (x.g + x.h).toNat + ticksM x.a x.v (nth L k)
def liftGo (L : List Int) (x : Car) (t : Int) : Int := if liftV L x.a x.v x.g x.h && isFl L t then (goT L x t.toNat : Int) else -1
theorem ticksM_zero {a v t : Int} (hm : motV a v = true) (ht : inB t 0 60 = true) (h : ticksM a v t = 0) : a = t ∧ v = 0 := by
  rcases Classical.em (a = t ∧ v = 0) with h' | h'
  · exact h'
  · have := ticksM_step hm ht h'; omega
theorem goT_zero {L : List Int} {x : Car} {k : Nat} (hx : liftV L x.a x.v x.g x.h = true) (hk : k < L.length) : goT L x k = 0 ↔ standF L x.a x.v = (k : Int) ∧ ¬ 0 < x.g := by
  obtain ⟨h1, h2, h3, h4⟩ := liftV_iff.1 hx
  have hb := fv_bd (floorsV_iff.1 h1) hk
  have hd := doorV_iff.1 h3
  rw [standF_iff h1 hk]
  unfold goT
  constructor
  · intro e
    exact ⟨ticksM_zero h2 (inB_iff.2 hb) (by omega), by omega⟩
  · rintro ⟨⟨e1, e2⟩, e3⟩
    rw [e1, e2, ticksM_rest]
    obtain ⟨e4, e5⟩ := gate_closed h3 e3
    rw [e4, e5]; rfl
theorem goT_step {L : List Int} {x : Car} {k : Nat} (hx : liftV L x.a x.v x.g x.h = true) (hk : k < L.length) (hn : ¬ (standF L x.a x.v = (k : Int) ∧ ¬ 0 < x.g)) :
    goT L x k = goT L (liftStep L x (k : Int) false false) k + 1 := by
  obtain ⟨h1, h2, h3, h4⟩ := liftV_iff.1 hx
  have hb := fv_bd (floorsV_iff.1 h1) hk
  have hd := doorV_iff.1 h3
  by_cases hg : 0 < x.g
  · rw [liftStep_door hx (isFl_mk hk) false false (.inl hg)]
    obtain ⟨e, hv⟩ := doorStep_none h3 hg
    have hd' := doorV_iff.1 hv
    unfold goT
    simp only
    omega
  · rw [liftStep_move hx hk false false (by simp; omega)]
    have hne : ¬ (x.a = nth L k ∧ x.v = 0) := fun e => hn ⟨(standF_iff h1 hk _ _).2 e, hg⟩
    unfold goT
    simp only
    rw [ticksM_step h2 (inB_iff.2 hb) hne]
    omega
theorem goT_le {L : List Int} {x : Car} {k : Nat} (hx : liftV L x.a x.v x.g x.h = true) (hk : k < L.length) : goT L x k ≤ 1012 := by
  obtain ⟨h1, h2, h3, h4⟩ := liftV_iff.1 hx
  have hd := doorV_iff.1 h3
  have := ticksM_le h2 (inB_iff.2 (fv_bd (floorsV_iff.1 h1) hk))
  unfold goT; omega
/-- The car after so many ticks without asking. -/
def goF (L : List Int) (k : Nat) : Nat → Car → Car
  | 0, x => x
  | n + 1, x => goF L k n (liftStep L x (k : Int) false false)
theorem goF_end {L : List Int} {k : Nat} (hk : k < L.length) : ∀ (n : Nat) (x : Car), liftV L x.a x.v x.g x.h = true → goT L x k = n → goF L k n x = ⟨nth L k, 0, 0, 0⟩ := by
  intro n
  induction n with
  | zero =>
    intro x hx e
    obtain ⟨h1, h2, h3, _⟩ := liftV_iff.1 hx
    obtain ⟨e1, e2⟩ := (goT_zero hx hk).1 e
    obtain ⟨e3, e4⟩ := (standF_iff h1 hk _ _).1 e1
    obtain ⟨e5, e6⟩ := gate_closed h3 e2
    show x = _
    cases x; simp_all
  | succ n ih =>
    intro x hx e
    show goF L k n (liftStep L x (k : Int) false false) = _
    refine ih _ (liftStep_valid hx (isFl_mk hk) _ _) ?_
    have := goT_step hx hk (fun h => by have := (goT_zero hx hk).2 h; omega)
    omega

/-- Whether a car stands at a floor. -/
def here (L : List Int) (x : Car) (k : Nat) : Bool := decide (standF L x.a x.v = (k : Int))
theorem here_iff {L : List Int} (h : floorsV L = true) {k : Nat} (hk : k < L.length) {x : Car} : here L x k = true ↔ x.a = nth L k ∧ x.v = 0 := by
  unfold here; rw [decide_eq_true_eq, standF_iff h hk]
/-- A measure that every tick of a visit lowers. -/
def vis (L : List Int) (x : Car) (k : Nat) : Nat := if here L x k then (4 - x.g).toNat else 5 + (x.g + x.h).toNat + mu x.a x.v (nth L k)
def visStep (L : List Int) (x : Car) (k : Nat) : Car := liftStep L x (k : Int) (here L x k) false
def visDone (L : List Int) (x : Car) (k : Nat) : Bool := here L x k && x.g == 4
theorem vis_step {L : List Int} {x : Car} {k : Nat} (hx : liftV L x.a x.v x.g x.h = true) (hk : k < L.length) (hn : visDone L x k = false) : vis L (visStep L x k) k < vis L x k := by
  obtain ⟨h1, h2, h3, h4⟩ := liftV_iff.1 hx
  have hb := fv_bd (floorsV_iff.1 h1) hk
  have hd := doorV_iff.1 h3
  by_cases hh : here L x k = true
  · have hs : standF L x.a x.v = (k : Int) := by simpa [here] using hh
    have hg : x.g ≠ 4 := by
      intro e; simp [visDone, hh, e] at hn
    have e : visStep L x k = ⟨x.a, x.v, (doorStep x.g x.h true false).1, (doorStep x.g x.h true false).2⟩ := by
      unfold visStep; rw [hh]; exact liftStep_door hx (isFl_mk hk) true false (.inr ⟨rfl, by omega⟩)
    have e1 := doorStep_ask h3 false (by omega : x.g < 4)
    have hh' : here L (visStep L x k) k = true := by rw [e]; exact hh
    unfold vis
    rw [if_pos hh', if_pos hh, e]
    simp only
    omega
  · have hh0 : here L x k = false := by simpa using hh
    have hv : vis L x k = 5 + (x.g + x.h).toNat + mu x.a x.v (nth L k) := by unfold vis; rw [hh0]; rfl
    rw [hv]
    by_cases hg : 0 < x.g
    · have e : visStep L x k = ⟨x.a, x.v, (doorStep x.g x.h false false).1, (doorStep x.g x.h false false).2⟩ := by
        unfold visStep; rw [hh0]; exact liftStep_door hx (isFl_mk hk) false false (.inl hg)
      obtain ⟨e1, hv1⟩ := doorStep_none h3 hg
      have hd' := doorV_iff.1 hv1
      have hh' : here L (visStep L x k) k = false := by rw [e]; exact hh0
      unfold vis
      rw [hh', e]
      simp only [Bool.false_eq_true, if_false]
      omega
    · have e : visStep L x k = ⟨(stepM x.a x.v (nth L k)).1, (stepM x.a x.v (nth L k)).2, x.g, x.h⟩ := by
        unfold visStep; rw [hh0]; exact liftStep_move hx hk false false (by simp; omega)
      have hne : ¬ (x.a = nth L k ∧ x.v = 0) := fun e => hh ((here_iff h1 hk).2 e)
      have hl := mu_less h2 (inB_iff.2 hb) hne
      rw [e]
      unfold vis
      split
      · simp only; omega
      · simp only; omega
def visF (L : List Int) (k : Nat) : Nat → Car → Nat
  | 0, _ => 0
  | n + 1, x => if visDone L x k then 0 else visF L k n (visStep L x k) + 1
def visT (L : List Int) (x : Car) (k : Nat) : Nat := visF L k (vis L x k + 1) x
def liftVisit (L : List Int) (x : Car) (t : Int) : Int := if liftV L x.a x.v x.g x.h && isFl L t then (visT L x t.toNat : Int) else -1
theorem visStep_valid {L : List Int} {x : Car} {k : Nat} (hx : liftV L x.a x.v x.g x.h = true) (hk : k < L.length) : liftV L (visStep L x k).a (visStep L x k).v (visStep L x k).g (visStep L x k).h = true :=
  liftStep_valid hx (isFl_mk hk) _ _
theorem visF_same {L : List Int} {k : Nat} (hk : k < L.length) : ∀ (n m : Nat) (x : Car), liftV L x.a x.v x.g x.h = true → vis L x k < n → vis L x k < m → visF L k n x = visF L k m x := by
  intro n
  induction n with
  | zero => intro m x _ h; omega
  | succ n ih =>
    intro m x hx hn hm
    cases m with
    | zero => omega
    | succ m =>
      simp only [visF]
      by_cases hd : visDone L x k = true
      · rw [if_pos hd, if_pos hd]
      · have hd0 : visDone L x k = false := by simpa using hd
        have hl := vis_step hx hk hd0
        rw [if_neg hd, if_neg hd, ih m _ (visStep_valid hx hk) (by omega) (by omega)]
theorem visT_done {L : List Int} {x : Car} {k : Nat} (hd : visDone L x k = true) : visT L x k = 0 := by
  unfold visT; simp [visF, hd]
theorem visT_step {L : List Int} {x : Car} {k : Nat} (hx : liftV L x.a x.v x.g x.h = true) (hk : k < L.length) (hd : visDone L x k = false) : visT L x k = visT L (visStep L x k) k + 1 := by
  have hl := vis_step hx hk hd
  have e : visT L x k = visF L k (vis L x k) (visStep L x k) + 1 := by unfold visT; simp [visF, hd]
  rw [e]
  unfold visT
  rw [visF_same hk _ _ _ (visStep_valid hx hk) (by omega) (by omega : vis L (visStep L x k) k < vis L (visStep L x k) k + 1)]
theorem vis_le {L : List Int} {x : Car} {k : Nat} (hx : liftV L x.a x.v x.g x.h = true) (hk : k < L.length) : vis L x k ≤ 1020 := by
  obtain ⟨h1, h2, h3, h4⟩ := liftV_iff.1 hx
  have hd := doorV_iff.1 h3
  obtain ⟨⟨a1, a2⟩, a3, a4⟩ := motV_iff.1 h2
  have hb := fv_bd (floorsV_iff.1 h1) hk
  have h7 := absI_bd a3 a4
  have h8 := dist_bd a1 a2 hb.1 hb.2
  have h9 : mu x.a x.v (nth L k) ≤ 1005 := by unfold mu; split <;> omega
  unfold vis; split <;> omega
theorem visF_le {L : List Int} {k : Nat} : ∀ (n : Nat) (x : Car), visF L k n x ≤ n := by
  intro n
  induction n with
  | zero => intro x; exact Nat.le_refl _
  | succ n ih =>
    intro x
    simp only [visF]
    split
    · omega
    · have := ih (visStep L x k); omega
theorem visT_le {L : List Int} {x : Car} {k : Nat} (hx : liftV L x.a x.v x.g x.h = true) (hk : k < L.length) : visT L x k ≤ 1021 := by
  have := vis_le hx hk
  have := visF_le (L := L) (k := k) (vis L x k + 1) x
  unfold visT; omega
/-- During a visit the door is open where the car was at first, or at the floor. -/
def OpenAt (L : List Int) (k : Nat) (a0 : Int) (x : Car) : Prop := 0 < x.g → x.a = a0 ∨ x.a = nth L k
theorem open_step {L : List Int} {x : Car} {k : Nat} {a0 : Int} (hx : liftV L x.a x.v x.g x.h = true) (hk : k < L.length) (ho : OpenAt L k a0 x) : OpenAt L k a0 (visStep L x k) := by
  obtain ⟨h1, h2, h3, h4⟩ := liftV_iff.1 hx
  by_cases hc : 0 < x.g ∨ (here L x k = true ∧ 0 ≤ standF L x.a x.v)
  · have e : visStep L x k = _ := liftStep_door hx (isFl_mk hk) (here L x k) false hc
    rw [e]
    intro _
    rcases hc with hc | hc
    · exact ho hc
    · exact .inr ((here_iff h1 hk).1 hc.1).1
  · have e : visStep L x k = _ := liftStep_move hx hk (here L x k) false hc
    rw [e]
    intro hg
    exact absurd (.inl hg) hc
end Go.Proofs.Ythmjmlblnikmaaa.Pl
