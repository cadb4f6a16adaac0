/- Facts on the plain functions that the laws ask for, one group a law. No program is in sight; no conditions. -/
import Derived.Test.YtjnoejlccbfcjaaPlainC
namespace Go.Proofs.Ytjnoejlccbfcjaa.Pl

/- CanStop -/
theorem can_law {a v t : Int} (h : canStop a v t = true) :
    canStop (stepM a v t).1 (stepM a v t).2 t = true ∧ (t < a ∨ (stepM a v t).1 ≤ t) ∧ (a < t ∨ t ≤ (stepM a v t).1) ∧ (v = 0 ∨ 0 ≤ (t - a) * v) := by
  have hk := step_keeps h
  obtain ⟨_, hc, _⟩ := driven_fits h
  refine ⟨hk, ?_, ?_, ?_⟩
  · rw [stepM_can h]
    by_cases hu : a ≤ t
    · exact .inr (fits_up hc hu).2
    · exact .inl (by omega)
  · rw [stepM_can h]
    by_cases hu : a < t
    · exact .inl hu
    · refine .inr ?_
      by_cases he : a = t
      · subst he
        show a ≤ a + driven a v a
        have := (fits_up hc (Int.le_refl _)).1
        omega
      · exact (fits_dn hc (by omega)).2
  · obtain ⟨_, _, _, h4, h5⟩ := canStop_iff.1 h
    rcases Int.lt_trichotomy v 0 with hv | hv | hv
    · have := h5 hv
      have := brake_neg hv
      exact .inr (Int.mul_nonneg_of_nonpos_of_nonpos (by omega) (by omega))
    · exact .inl hv
    · have := h4 hv
      have := brake_pos hv
      exact .inr (Int.mul_nonneg (by omega) (by omega))

/- MotionStep -/
theorem step_law {a v t : Int} (hm : motV a v = true) (ht : inB t 0 60 = true) :
    motV (stepM a v t).1 (stepM a v t).2 = true ∧ (((stepM a v t).2 = 0 ∧ ((stepM a v t).1 = 0 ∨ (stepM a v t).1 = 60)) ∨ ((stepM a v t).2 - v ≤ 1 ∧ -((stepM a v t).2 - v) ≤ 1 ∧ (stepM a v t).1 = a + (stepM a v t).2)) := by
  refine ⟨stepM_valid hm ht, ?_⟩
  by_cases h : canStop a v t = true
  · obtain ⟨hd, _, _⟩ := driven_fits h
    rw [stepM_can h]
    refine .inr ⟨?_, ?_, rfl⟩
    · show driven a v t - v ≤ 1; omega
    · show -(driven a v t - v) ≤ 1; omega
  · obtain ⟨h0, e⟩ := stepM_not hm ht (by simpa using h)
    rw [e]
    rcases moveTo_cases a (if 0 < v then v - 1 else v + 1) with ⟨_, e⟩ | ⟨_, e⟩ | ⟨h1, h2, e⟩ <;> rw [e]
    · exact .inl ⟨rfl, .inl rfl⟩
    · exact .inl ⟨rfl, .inr rfl⟩
    · refine .inr ⟨?_, ?_, rfl⟩
      · show (if 0 < v then v - 1 else v + 1) - v ≤ 1; split <;> omega
      · show -((if 0 < v then v - 1 else v + 1) - v) ≤ 1; split <;> omega

/- WithinLimit, SpeedLimit: finitely many cars. -/
def rangeI (lo : Int) (n : Nat) : List Int := (List.range n).map fun (i : Nat) => lo + (i : Int)
theorem mem_rangeI {lo x : Int} {n : Nat} (h1 : lo ≤ x) (h2 : x < lo + n) : x ∈ rangeI lo n :=
  List.mem_map.2 ⟨(x - lo).toNat, List.mem_range.2 (by omega), by omega⟩
def within1 (a v : Int) : Bool := !withinL a v || withinL (stepM a v (if 0 < v then 60 else 0)).1 (stepM a v (if 0 < v then 60 else 0)).2
theorem within_all : ((rangeI 0 61).all fun a => (rangeI (-5) 11).all fun v => within1 a v) = true := by decide +kernel
theorem within_step {a v : Int} (h : withinL a v = true) : withinL (stepM a v (if 0 < v then 60 else 0)).1 (stepM a v (if 0 < v then 60 else 0)).2 = true := by
  have hm : motV a v = true := by
    unfold withinL at h; simp only [Bool.and_eq_true] at h; exact h.1
  obtain ⟨⟨h1, h2⟩, h3, h4⟩ := motV_iff.1 hm
  have := List.all_eq_true.1 (List.all_eq_true.1 within_all a (mem_rangeI h1 (by omega))) v (mem_rangeI h3 (by omega))
  simpa [within1, h] using this
def lim1 (a : Int) (up : Bool) : Bool :=
  (decide (0 ≤ speedLimit a up) && decide (speedLimit a up ≤ 5)) && (canStop a ((if up then 1 else -1) * speedLimit a up) (if up then 60 else 0) &&
    (speedLimit a up == 5 || !canStop a ((if up then 1 else -1) * (speedLimit a up + 1)) (if up then 60 else 0)))
theorem lim_all : ((rangeI 0 61).all fun a => lim1 a true && lim1 a false) = true := by decide +kernel
theorem lim_law {a : Int} (ha : inB a 0 60 = true) (up : Bool) : (0 ≤ speedLimit a up ∧ speedLimit a up ≤ 5) ∧ canStop a ((if up then 1 else -1) * speedLimit a up) (if up then 60 else 0) = true ∧
    (speedLimit a up = 5 ∨ canStop a ((if up then 1 else -1) * (speedLimit a up + 1)) (if up then 60 else 0) = false) := by
  obtain ⟨h1, h2⟩ := inB_iff.1 ha
  have := List.all_eq_true.1 lim_all a (mem_rangeI h1 (by omega))
  simp only [Bool.and_eq_true] at this
  have h3 : lim1 a up = true := by
    cases up
    · exact this.2
    · exact this.1
  simpa [lim1] using h3
def canW (a v : Int) : Bool := !(motV a v && (if 0 < v then decide (a + brake v ≤ 60) else if v < 0 then decide (0 ≤ a + brake v) else true)) || withinL a v
theorem canW_all : ((rangeI 0 61).all fun a => (rangeI (-5) 11).all fun v => canW a v) = true := by decide +kernel
theorem can_within {a v t : Int} (h : canStop a v t = true) : withinL a v = true := by
  obtain ⟨⟨h1, h2⟩, ⟨h3, h4⟩, ⟨h5, h6⟩, h7, h8⟩ := canStop_iff.1 h
  have := List.all_eq_true.1 (List.all_eq_true.1 canW_all a (mem_rangeI h1 (by omega))) v (mem_rangeI h3 (by omega))
  have hm : motV a v = true := motV_iff.2 ⟨⟨h1, h2⟩, h3, h4⟩
  unfold canW at this
  rw [hm] at this
  by_cases hv : 0 < v
  · have e : decide (a + brake v ≤ 60) = true := by have := h7 hv; simp; omega
    rw [if_pos hv, e] at this
    simpa using this
  · by_cases hv' : v < 0
    · have e : decide (0 ≤ a + brake v) = true := by have := h8 hv'; simp; omega
      rw [if_neg hv, if_pos hv', e] at this
      simpa using this
    · rw [if_neg hv, if_neg hv'] at this
      simpa using this

/- DoorRun -/
def shift (A : List Int) (m : Int) : List Int := A.map fun x => x - m
theorem hasI_shift (A : List Int) (m k : Int) : hasI (shift A m) k = hasI A (m + k) := by
  rw [Bool.eq_iff_iff, hasI_iff, hasI_iff]
  unfold shift
  rw [List.mem_map]
  constructor
  · rintro ⟨x, hx, e⟩
    have : x = m + k := by omega
    subst this; exact hx
  · intro h; exact ⟨_, h, by omega⟩
theorem doorRunF_add (d : Int × Int) (A B : List Int) (m : Nat) : ∀ k : Nat, doorRunF (doorRunF d A B m) (shift A m) (shift B m) k = doorRunF d A B (m + k) := by
  intro k
  induction k with
  | zero => rfl
  | succ k ih =>
    show doorStep _ _ _ _ = doorStep _ _ _ _
    rw [ih, hasI_shift, hasI_shift, show ((m : Int) + (k : Int)) = ((m + k : Nat) : Int) from by omega]
    rfl
theorem doorRun_add {g h t : Int} {A B : List Int} (hv : doorV g h = true) (ht : inB t 0 99 = true) :
    doorRun (doorRun g h (t / 2) A B).1 (doorRun g h (t / 2) A B).2 (t - t / 2) (shift A (t / 2)) (shift B (t / 2)) = doorRun g h t A B := by
  obtain ⟨h1, h2⟩ := inB_iff.1 ht
  have i1 : inB (t / 2) 0 99 = true := inB_mk (by omega) (by omega)
  have i2 : inB (t - t / 2) 0 99 = true := inB_mk (by omega) (by omega)
  have e1 : doorRun g h (t / 2) A B = doorRunF (g, h) A B (t / 2).toNat := by unfold doorRun; rw [hv, i1]; rfl
  have e2 : doorRun g h t A B = doorRunF (g, h) A B t.toNat := by unfold doorRun; rw [hv, ht]; rfl
  have hv' := doorRunF_valid hv A B (t / 2).toNat
  rw [e1, e2]
  unfold doorRun
  rw [hv', i2]
  have := doorRunF_add (g, h) A B (t / 2).toNat (t - t / 2).toNat
  rw [show (t / 2).toNat + (t - t / 2).toNat = t.toNat from by omega, show ((t / 2).toNat : Int) = t / 2 from by omega] at this
  exact this
theorem doorRunF_shut (B : List Int) : ∀ k : Nat, doorRunF (0, 0) [] B k = (0, 0) := by
  intro k
  induction k with
  | zero => rfl
  | succ k ih =>
    show doorStep _ _ _ _ = _
    rw [ih]
    show doorStep 0 0 (hasI [] (k : Int)) _ = _
    rw [show hasI [] (k : Int) = false from rfl]
    cases hasI B (k : Int) <;> decide
theorem doorRun_shut {t : Int} (ht : inB t 0 99 = true) (B : List Int) : doorRun 0 0 t [] B = (0, 0) := by
  unfold doorRun
  rw [show doorV 0 0 = true from by decide, ht]
  exact doorRunF_shut B _
theorem doorRun_valid {g h t : Int} {A B : List Int} (hv : doorV g h = true) (ht : inB t 0 99 = true) : doorV (doorRun g h t A B).1 (doorRun g h t A B).2 = true := by
  unfold doorRun; rw [hv, ht]; exact doorRunF_valid hv A B _
theorem doorTicks_law {g h : Int} (hv : doorV g h = true) : doorRun g h (g + h) [] [] = (0, 0) ∧ (g + h = 0 ∨ 0 < (doorRun g h (g + h - 1) [] []).1) := by
  have hb := doorV_iff.1 hv
  have hc : (g = 0 ∧ h = 0) ∨ (g = 1 ∧ h = 0) ∨ (g = 2 ∧ h = 0) ∨ (g = 3 ∧ h = 0) ∨ (g = 4 ∧ h = 0) ∨ (g = 4 ∧ h = 1) ∨ (g = 4 ∧ h = 2) ∨ (g = 4 ∧ h = 3) := by omega
  rcases hc with ⟨rfl, rfl⟩ | ⟨rfl, rfl⟩ | ⟨rfl, rfl⟩ | ⟨rfl, rfl⟩ | ⟨rfl, rfl⟩ | ⟨rfl, rfl⟩ | ⟨rfl, rfl⟩ | ⟨rfl, rfl⟩ <;> decide

/- Floors -/
theorem fv_front {L : List Int} (h : FV L) (h2 : 2 ≤ L.length) : FV (L.take (L.length - 1)) := by
  have hl : (L.take (L.length - 1)).length = L.length - 1 := by simp
  refine ⟨by omega, by rw [hl]; have := h.2.1; omega, by rw [nth_take (by omega)]; exact h.2.2.1, fun i hi => ?_, ?_⟩
  · rw [hl] at hi
    rw [nth_take (by omega), nth_take (by omega)]
    exact fv_lt h (by omega) (by omega)
  · rw [hl, nth_take (by omega)]
    exact (fv_bd h (by omega)).2
theorem fv_tail {L : List Int} (h : FV L) (h2 : 2 ≤ L.length) : ¬ FV (L.drop 1) := by
  intro h'
  have e := h'.2.2.1
  rw [nth_drop, Nat.add_zero] at e
  have := fv_lt h (i := 0) (j := 1) (by omega) (by omega)
  rw [h.2.2.1] at this
  omega
theorem below_law {L : List Int} {a : Int} (h : floorsV L = true) (ha : inB a 0 60 = true) : ∃ k : Nat, k < L.length ∧ floorBelow L a = (k : Int) ∧ nth L k ≤ a ∧ (k = L.length - 1 ∨ a < nth L (k + 1)) ∧ (floorAt L a < 0 ∨ floorAt L a = (k : Int)) := by
  have hf := floorsV_iff.1 h
  have e : floorBelow L a = lastI (belowP L a) L.length := by unfold floorBelow; rw [h, ha]; rfl
  rw [e]
  rcases lastI_spec (belowP L a) L.length with ⟨_, hn⟩ | ⟨k, hk, e, hp, hn⟩
  · have := hn 0 (by have := hf.1; omega)
    rw [belowP_zero hf (inB_iff.1 ha).1] at this; cases this
  · have hle : nth L k ≤ a := by simpa [belowP] using hp
    have hgt : ∀ j, k < j → j < L.length → a < nth L j := fun j h1 h2 => by have := hn j h1 h2; simpa [belowP] using this
    refine ⟨k, hk, e, hle, ?_, ?_⟩
    · by_cases hl : k = L.length - 1
      · exact .inl hl
      · exact .inr (hgt _ (by omega) (by omega))
    · rcases floorAt_cases L a with ⟨e, _⟩ | ⟨j, hj, e, hn, _⟩
      · exact .inl (by omega)
      · refine .inr ?_
        rw [e]
        rcases Nat.lt_trichotomy j k with h1 | h1 | h1
        · have := fv_lt hf h1 hk; omega
        · rw [h1]
        · have := hgt j h1 hj; omega
theorem near_min (L : List Int) (a : Int) : ∀ k, ∀ j, j < k → dist (nth L (nearI L a k)) a ≤ dist (nth L j) a ∧ (j < nearI L a k → dist (nth L (nearI L a k)) a < dist (nth L j) a) := by
  intro k
  induction k with
  | zero => intro j hj; omega
  | succ k ih =>
    intro j hj
    by_cases hc : dist (nth L k) a < dist (nth L (nearI L a k)) a
    · have e : nearI L a (k + 1) = k := by simp [nearI, hc]
      rw [e]
      by_cases ej : j = k
      · subst ej; exact ⟨Int.le_refl _, fun h => absurd h (by omega)⟩
      · have := (ih j (by omega)).1
        exact ⟨by omega, fun _ => by omega⟩
    · have e : nearI L a (k + 1) = nearI L a k := by simp [nearI, hc]
      rw [e]
      by_cases ej : j = k
      · subst ej
        have := nearI_le L a j
        exact ⟨by omega, fun h => absurd h (by omega)⟩
      · exact ih j (by omega)
theorem near_law {L : List Int} {a : Int} (h : floorsV L = true) (ha : inB a 0 60 = true) : ∃ k : Nat, k < L.length ∧ floorNear L a = (k : Int) ∧
    (∀ j, j < L.length → dist (nth L k) a ≤ dist (nth L j) a ∧ (j < k → dist (nth L k) a < dist (nth L j) a)) ∧ ((k : Int) = floorBelow L a ∨ (k : Int) = floorBelow L a + 1) := by
  have hf := floorsV_iff.1 h
  refine ⟨nearI L a L.length, nearI_lt (Nat.le_refl _) (by have := hf.1; omega), by unfold floorNear; rw [h, ha]; rfl, fun j hj => near_min L a _ j hj, ?_⟩
  obtain ⟨b, hb, e, h1, h2, _⟩ := below_law h ha
  rw [e]
  have hm := near_min L a L.length
  have hk : nearI L a L.length < L.length := nearI_lt (Nat.le_refl _) (by have := hf.1; omega)
  generalize nearI L a L.length = k at *
  rcases Nat.lt_trichotomy k b with hc | hc | hc
  · have := (hm b hb).1
    have := fv_lt hf hc hb
    unfold dist at *
    split at * <;> split at * <;> omega
  · left; omega
  · right
    by_cases hc' : k = b + 1
    · omega
    · have h3 : a < nth L (b + 1) := by
        rcases h2 with h2 | h2
        · omega
        · exact h2
      have := (hm (b + 1) (by omega)).1
      have := fv_lt hf (i := b + 1) (j := k) (by omega) hk
      unfold dist at *
      split at * <;> split at * <;> omega
theorem dist_comm (a b : Int) : dist a b = dist b a := by unfold dist; split <;> split <;> omega
theorem way_law {L : List Int} (h : floorsV L = true) {a b : Nat} (ha : a < L.length) (hb : b < L.length) :
    floorWay L (b : Int) (a : Int) = floorWay L (a : Int) (b : Int) ∧ (floorWay L (a : Int) (b : Int) = 0 ↔ a = b) ∧
    ∀ k : Nat, min a b ≤ k → k ≤ max a b → floorWay L (a : Int) (k : Int) + floorWay L (k : Int) (b : Int) = floorWay L (a : Int) (b : Int) := by
  have hf := floorsV_iff.1 h
  have e : ∀ i j : Nat, i < L.length → j < L.length → floorWay L (i : Int) (j : Int) = dist (nth L i) (nth L j) := fun i j hi hj => by
    unfold floorWay; rw [h, isFl_mk hi, isFl_mk hj]; rfl
  refine ⟨by rw [e _ _ hb ha, e _ _ ha hb, dist_comm], ?_, fun k h1 h2 => ?_⟩
  · rw [e _ _ ha hb]
    constructor
    · intro h0
      exact fv_inj hf ha hb (by unfold dist at h0; split at h0 <;> omega)
    · rintro rfl; unfold dist; split <;> omega
  · have hk : k < L.length := by omega
    rw [e _ _ ha hk, e _ _ hk hb, e _ _ ha hb]
    have m : ∀ i j : Nat, i ≤ j → j < L.length → nth L i ≤ nth L j := fun i j hi hj => by
      by_cases ei : i = j
      · rw [ei]; exact Int.le_refl _
      · have := fv_lt hf (i := i) (j := j) (by omega) hj; omega
    by_cases hab : a ≤ b
    · have := m a k (by omega) hk
      have := m k b (by omega) hb
      unfold dist; split <;> split <;> split <;> omega
    · have := m b k (by omega) hk
      have := m k a (by omega) ha
      unfold dist; split <;> split <;> split <;> omega

/- Loads -/
theorem load_law {L : List Int} (h : 0 ≤ loadSum L) (k : Nat) : loadSum (L.take k) + loadSum (L.drop k) = loadSum L ∧ loadSum L = L.sum := by
  rcases loadSum_cases L with e | ⟨h1, h2, e, _, _⟩
  · omega
  · refine ⟨?_, e⟩
    rw [e, loadSum_val (by simp; omega) (wtV_take h2 k), loadSum_val (by simp; omega) (wtV_drop h2 k), ← List.sum_append, List.take_append_drop]
theorem over_law {L : List Int} (h0 : 0 < L.length) (h : 0 ≤ loadSum L) : loadSum (L.take (L.length - 1)) ≤ loadSum L := by
  rcases loadSum_cases L with e | ⟨h1, h2, e, _, _⟩
  · omega
  · rw [e, loadSum_val (by simp; omega) (wtV_take h2 _)]
    have := sum_take_le h2 (L.length - 1) 1
    rw [show L.length - 1 + 1 = L.length from by omega, List.take_length] at this
    exact this

/- MotionTicks: what a car does depends on the way to its target alone. -/
def fits (d s : Int) : Bool := inB s (-5) 5 && (if 0 < s then decide (s + brake s ≤ d) else if s < 0 then decide (d ≤ s + brake s) else true)
theorem fits_iff {d s : Int} : fits d s = true ↔ (-5 ≤ s ∧ s ≤ 5) ∧ (0 < s → s + brake s ≤ d) ∧ (s < 0 → d ≤ s + brake s) := by
  unfold fits
  simp only [Bool.and_eq_true, inB_iff]
  constructor
  · rintro ⟨h1, h2⟩
    refine ⟨h1, fun h => ?_, fun h => ?_⟩
    · rw [if_pos h] at h2; simpa using h2
    · rw [if_neg (by omega), if_pos h] at h2; simpa using h2
  · rintro ⟨h1, h2, h3⟩
    refine ⟨h1, ?_⟩
    by_cases h : 0 < s
    · rw [if_pos h]; simpa using h2 h
    · rw [if_neg h]
      by_cases h' : s < 0
      · rw [if_pos h']; simpa using h3 h'
      · rw [if_neg h']
theorem can_fits {a s t : Int} (ha : 0 ≤ a ∧ a ≤ 60) (ht : 0 ≤ t ∧ t ≤ 60) : canStop (a + s) s t = fits (t - a) s := by
  rw [Bool.eq_iff_iff, canStop_iff, fits_iff]
  constructor
  · rintro ⟨_, h2, _, h4, h5⟩
    exact ⟨h2, fun h => by have := h4 h; omega, fun h => by have := h5 h; omega⟩
  · rintro ⟨h2, h4, h5⟩
    have h6 := @brake_pos s
    have h7 := @brake_neg s
    refine ⟨?_, h2, ht, fun h => by have := h4 h; omega, fun h => by have := h5 h; omega⟩
    rcases Int.lt_trichotomy s 0 with hs | hs | hs
    · have := h5 hs; have := h7 hs; omega
    · omega
    · have := h4 hs; have := h6 hs; omega
theorem dist_sub (a s t : Int) : dist (a + s) t = dist s (t - a) := by unfold dist; split <;> split <;> omega
def pickD (d : Int) (p : Int × Bool) (s : Int) : Int × Bool := if fits d s && (!p.2 || decide (dist s d < dist p.1 d)) then (s, true) else p
def drivenD (d v : Int) : Int := (pickD d (pickD d (pickD d (0, false) (v - 1)) v) (v + 1)).1
theorem pick_D {a t : Int} (ha : 0 ≤ a ∧ a ≤ 60) (ht : 0 ≤ t ∧ t ≤ 60) (p : Int × Bool) (s : Int) : pickI a t p s = pickD (t - a) p s := by
  unfold pickI pickD
  rw [can_fits ha ht, dist_sub, dist_sub]
theorem driven_D {a t : Int} (ha : 0 ≤ a ∧ a ≤ 60) (ht : 0 ≤ t ∧ t ≤ 60) (v : Int) : driven a v t = drivenD (t - a) v := by
  unfold driven drivenD
  rw [pick_D ha ht, pick_D ha ht, pick_D ha ht]
def tickD : Nat → Int → Int → Nat
  | 0, _, _ => 0
  | n + 1, d, v => if d = 0 ∧ v = 0 then 0 else tickD n (d - drivenD d v) (drivenD d v) + 1
theorem tick_D (t : Int) : ∀ (n : Nat) (a v : Int), canStop a v t = true → tickF n a v t = tickD n (t - a) v := by
  intro n
  induction n with
  | zero => intros; rfl
  | succ n ih =>
    intro a v h
    obtain ⟨ha, _, ht, _⟩ := canStop_iff.1 h
    simp only [tickF, tickD]
    by_cases hr : a = t ∧ v = 0
    · rw [if_pos hr, if_pos (by omega)]
    · rw [if_neg hr, if_neg (by omega), ih _ _ (step_keeps h), stepM_can h]
      show tickD n (t - (a + driven a v t)) (driven a v t) + 1 = _
      rw [driven_D ha ht, show t - (a + drivenD (t - a) v) = t - a - drivenD (t - a) v from by omega]
/-- The most that a car can come in so many ticks that begin and end at a stand. -/
def mostF (n : Nat) : Nat → Int
  | 0 => 0
  | k + 1 => mostF n k + max (min (min ((k : Int) + 1) ((n : Int) - 1 - ((k : Int) + 1))) 5) 0
theorem canStop_rest {a t : Int} (ha : 0 ≤ a ∧ a ≤ 60) (ht : 0 ≤ t ∧ t ≤ 60) : canStop a 0 t = true :=
  canStop_iff.2 ⟨ha, by omega, ht, fun h => by omega, fun h => by omega⟩
def most1 (d : Int) : Bool := tickD (2 * dist 0 d).toNat d 0 == 0 || decide (mostF (tickD (2 * dist 0 d).toNat d 0) (tickD (2 * dist 0 d).toNat d 0 - 1) < dist 0 d)
theorem most_all : ((rangeI (-60) 121).all fun d => most1 d) = true := by decide +kernel
theorem most_law {a t : Int} (ha : 0 ≤ a ∧ a ≤ 60) (ht : 0 ≤ t ∧ t ≤ 60) : ticksM a 0 t = 0 ∨ mostF (ticksM a 0 t) (ticksM a 0 t - 1) < dist a t := by
  have hc := canStop_rest ha ht
  have hm : mu a 0 t = (2 * dist 0 (t - a)).toNat := by
    unfold mu; rw [if_pos hc]
    have : dist a t = dist 0 (t - a) := by have := dist_sub a 0 t; rw [Int.add_zero] at this; exact this
    rw [this]; simp [absI]
  have e : ticksM a 0 t = tickD (2 * dist 0 (t - a)).toNat (t - a) 0 := by
    unfold ticksM; rw [tick_D t _ _ _ hc, hm]
  have := List.all_eq_true.1 most_all (t - a) (mem_rangeI (by omega) (by omega))
  rw [e, show dist a t = dist 0 (t - a) from by have := dist_sub a 0 t; rw [Int.add_zero] at this; exact this]
  simpa [most1] using this
end Go.Proofs.Ytjnoejlccbfcjaa.Pl
