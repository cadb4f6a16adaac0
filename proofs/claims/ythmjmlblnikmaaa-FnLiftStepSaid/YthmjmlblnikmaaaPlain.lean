/- What the functions of the elevators program compute, as plain functions on integers, and the facts on them. No program is in sight; no conditions. -/
import Derived.KernelRfl
namespace Go.Proofs.Ythmjmlblnikmaaa.Pl

def inB (n lo hi : Int) : Bool := decide (lo ≤ n) && decide (n ≤ hi)
theorem inB_iff {n lo hi : Int} : inB n lo hi = true ↔ lo ≤ n ∧ n ≤ hi := by simp [inB]
theorem inB_mk {n lo hi : Int} (h : lo ≤ n) (h' : n ≤ hi) : inB n lo hi = true := inB_iff.2 ⟨h, h'⟩
theorem inB_lo {n lo hi : Int} (h : n < lo) : inB n lo hi = false := by simp [inB]; omega
theorem inB_hi {n lo hi : Int} (h : hi < n) : inB n lo hi = false := by simp [inB]; omega
theorem inB_no {n lo hi : Int} (h : inB n lo hi = false) : n < lo ∨ hi < n := by simp [inB] at h; omega

def motV (a v : Int) : Bool := inB a 0 60 && inB v (-5) 5
theorem motV_iff {a v : Int} : motV a v = true ↔ (0 ≤ a ∧ a ≤ 60) ∧ (-5 ≤ v ∧ v ≤ 5) := by simp [motV, inB_iff]
def doorV (g h : Int) : Bool := inB g 0 4 && (inB h 0 3 && (h == 0 || g == 4))
theorem doorV_iff {g h : Int} : doorV g h = true ↔ (0 ≤ g ∧ g ≤ 4) ∧ (0 ≤ h ∧ h ≤ 3) ∧ (h = 0 ∨ g = 4) := by simp [doorV, inB_iff]

def brake (v : Int) : Int := if inB v (-5) 5 then (if v < 0 then -(v * (v + 1) / 2) else v * (v - 1) / 2) else 0
def canStop (a v t : Int) : Bool := motV a v && (inB t 0 60 && (if 0 < v then decide (a + brake v ≤ t) else if v < 0 then decide (t ≤ a + brake v) else true))
def dist (a b : Int) : Int := if a < b then b - a else a - b

theorem five {v : Int} (h : -5 ≤ v) (h' : v ≤ 5) : v = -5 ∨ v = -4 ∨ v = -3 ∨ v = -2 ∨ v = -1 ∨ v = 0 ∨ v = 1 ∨ v = 2 ∨ v = 3 ∨ v = 4 ∨ v = 5 := by omega
theorem brake_bd (v : Int) : -10 ≤ brake v ∧ brake v ≤ 10 := by
  by_cases h : inB v (-5) 5 = true
  · have h5 := inB_iff.1 h
    rcases five h5.1 h5.2 with h | h | h | h | h | h | h | h | h | h | h <;> subst h <;> decide
  · simp [brake, h]

def pickI (a t : Int) (p : Int × Bool) (s : Int) : Int × Bool :=
  if canStop (a + s) s t && (!p.2 || decide (dist (a + s) t < dist (a + p.1) t)) then (s, true) else p
def driven (a v t : Int) : Int := (pickI a t (pickI a t (pickI a t (0, false) (v - 1)) v) (v + 1)).1
def pickS (a v t : Int) (p : Int × Bool) (d : Int) : Int × Bool :=
  if inB (v + d) (-5) 5 && (canStop (a + (v + d)) (v + d) t && (!p.2 || (decide (a ≤ t) && decide (p.1 < v + d) || !decide (a ≤ t) && decide (v + d < p.1)))) then (v + d, true) else p
def drivenS (a v t : Int) : Int := (pickS a v t (pickS a v t (pickS a v t (0, false) (-1)) 0) 1).1
def nextSpeed (a v t : Int) : Int := if canStop a v t then driven a v t else if 0 < v then v - 1 else v + 1
def moveTo (a s : Int) : Int × Int := if a + s < 0 then (0, 0) else if 60 < a + s then (60, 0) else (a + s, s)
def stepM (a v t : Int) : Int × Int := if motV a v && inB t 0 60 then moveTo a (nextSpeed a v t) else (0, 0)

theorem brake_pos {v : Int} (h : 0 < v) : 0 ≤ brake v := by
  by_cases h5 : v ≤ 5
  · have hv : v = 1 ∨ v = 2 ∨ v = 3 ∨ v = 4 ∨ v = 5 := by omega
    rcases hv with h | h | h | h | h <;> subst h <;> decide
  · rw [brake, inB_hi (by omega)]; simp
theorem brake_neg {v : Int} (h : v < 0) : brake v ≤ 0 := by
  by_cases h5 : -5 ≤ v
  · have hv : v = -1 ∨ v = -2 ∨ v = -3 ∨ v = -4 ∨ v = -5 := by omega
    rcases hv with h | h | h | h | h <;> subst h <;> decide
  · rw [brake, inB_lo (by omega)]; simp
theorem brake_up {v : Int} (h : 1 ≤ v) (h' : v ≤ 5) : brake v = brake (v - 1) + (v - 1) := by
  have hv : v = 1 ∨ v = 2 ∨ v = 3 ∨ v = 4 ∨ v = 5 := by omega
  rcases hv with h | h | h | h | h <;> subst h <;> decide
theorem brake_mirror {v : Int} (h : -5 ≤ v) (h' : v ≤ 5) : brake (-v) = -brake v := by
  rcases five h h' with h | h | h | h | h | h | h | h | h | h | h <;> subst h <;> decide
theorem brake_down {v : Int} (h : v ≤ -1) (h' : -5 ≤ v) : brake v = brake (v + 1) + (v + 1) := by
  have hv : v = -1 ∨ v = -2 ∨ v = -3 ∨ v = -4 ∨ v = -5 := by omega
  rcases hv with h | h | h | h | h <;> subst h <;> decide
theorem brake_one : brake 1 = 0 := by decide
theorem brake_none : brake 0 = 0 := by decide
theorem brake_mone : brake (-1) = 0 := by decide

theorem canStop_iff {a v t : Int} : canStop a v t = true ↔ (0 ≤ a ∧ a ≤ 60) ∧ (-5 ≤ v ∧ v ≤ 5) ∧ (0 ≤ t ∧ t ≤ 60) ∧ (0 < v → a + brake v ≤ t) ∧ (v < 0 → t ≤ a + brake v) := by
  unfold canStop
  simp only [Bool.and_eq_true, motV_iff, inB_iff]
  constructor
  · rintro ⟨⟨h1, h2⟩, h3, h4⟩
    refine ⟨h1, h2, h3, fun h => ?_, fun h => ?_⟩
    · rw [if_pos h] at h4; simpa using h4
    · rw [if_neg (by omega), if_pos h] at h4; simpa using h4
  · rintro ⟨h1, h2, h3, h4, h5⟩
    refine ⟨⟨h1, h2⟩, h3, ?_⟩
    by_cases h : 0 < v
    · rw [if_pos h]; simpa using h4 h
    · rw [if_neg h]
      by_cases h' : v < 0
      · rw [if_pos h']; simpa using h5 h'
      · rw [if_neg h']
theorem fits_up {a s t : Int} (h : canStop (a + s) s t = true) (hu : a ≤ t) : 0 ≤ s ∧ a + s ≤ t := by
  obtain ⟨_, _, _, h4, h5⟩ := canStop_iff.1 h
  have h6 := @brake_pos s
  have h7 := @brake_neg s
  omega
theorem fits_dn {a s t : Int} (h : canStop (a + s) s t = true) (hu : t < a) : s ≤ 0 ∧ t ≤ a + s := by
  obtain ⟨_, _, _, h4, h5⟩ := canStop_iff.1 h
  have h6 := @brake_pos s
  have h7 := @brake_neg s
  omega
theorem cmp_up {a s b t : Int} (hs : canStop (a + s) s t = true) (hb : canStop (a + b) b t = true) (hu : a ≤ t) : decide (dist (a + s) t < dist (a + b) t) = decide (b < s) := by
  have h1 := fits_up hs hu
  have h2 := fits_up hb hu
  rw [decide_eq_decide]
  unfold dist
  split <;> split <;> omega
theorem cmp_dn {a s b t : Int} (hs : canStop (a + s) s t = true) (hb : canStop (a + b) b t = true) (hu : t < a) : decide (dist (a + s) t < dist (a + b) t) = decide (s < b) := by
  have h1 := fits_dn hs hu
  have h2 := fits_dn hb hu
  rw [decide_eq_decide]
  unfold dist
  split <;> split <;> omega
theorem pick_same (a v t d : Int) (p : Int × Bool) (hp : p.2 = true → canStop (a + p.1) p.1 t = true) :
    pickS a v t p d = pickI a t p (v + d) ∧ ((pickI a t p (v + d)).2 = true → canStop (a + (pickI a t p (v + d)).1) (pickI a t p (v + d)).1 t = true) := by
  obtain ⟨b, f⟩ := p
  by_cases hc : canStop (a + (v + d)) (v + d) t = true
  · have hi : inB (v + d) (-5) 5 = true := inB_iff.2 (canStop_iff.1 hc).2.1
    cases f with
    | false => simp [pickS, pickI, hc, hi]
    | true =>
      have hb := hp rfl
      by_cases hu : a ≤ t
      · have e := cmp_up hc hb hu
        by_cases hlt : b < v + d <;> simp [pickS, pickI, hc, hi, e, hu, hlt] <;> exact hb
      · have e := cmp_dn hc hb (by omega)
        by_cases hlt : v + d < b <;> simp [pickS, pickI, hc, hi, e, hu, hlt] <;> exact hb
  · have hc' : canStop (a + (v + d)) (v + d) t = false := by simpa using hc
    simp [pickS, pickI, hc']
    exact hp
theorem driven_same (a v t : Int) : drivenS a v t = driven a v t := by
  unfold drivenS driven
  obtain ⟨e1, q1⟩ := pick_same a v t (-1) (0, false) (fun h => by cases h)
  rw [e1]
  obtain ⟨e2, q2⟩ := pick_same a v t 0 _ q1
  rw [e2]
  obtain ⟨e3, _⟩ := pick_same a v t 1 _ q2
  rw [e3]
  simp only [Int.add_zero, ← Int.sub_eq_add_neg]
/-- The step that is chosen can stop, is one of the three, and comes as near to the target as any of them that can stop. -/
def Best (a t : Int) (p : Int × Bool) (L : List Int) : Prop :=
  (p.2 = true → p.1 ∈ L ∧ canStop (a + p.1) p.1 t = true) ∧ (∀ s ∈ L, canStop (a + s) s t = true → p.2 = true ∧ dist (a + p.1) t ≤ dist (a + s) t)
theorem best_nil (a t : Int) : Best a t (0, false) [] := ⟨(fun h => by cases h), (fun s hs => by cases hs)⟩
theorem best_pick {a t : Int} {p : Int × Bool} {L : List Int} (h : Best a t p L) (s : Int) : Best a t (pickI a t p s) (s :: L) := by
  obtain ⟨b, f⟩ := p
  obtain ⟨h1, h2⟩ := h
  by_cases hc : canStop (a + s) s t = true
  · by_cases hn : f = true ∧ ¬ dist (a + s) t < dist (a + b) t
    · obtain ⟨rfl, hn⟩ := hn
      have e : pickI a t (b, true) s = (b, true) := by simp [pickI, hc, hn]
      rw [e]
      refine ⟨fun _ => ⟨List.mem_cons_of_mem _ (h1 rfl).1, (h1 rfl).2⟩, fun s' hs' hc' => ?_⟩
      rcases List.mem_cons.1 hs' with rfl | hs'
      · exact ⟨rfl, by show dist (a + b) t ≤ _; omega⟩
      · exact h2 s' hs' hc'
    · have e : pickI a t (b, f) s = (s, true) := by
        cases f with
        | false => simp [pickI, hc]
        | true => simp [pickI, hc]; intro hx; exact absurd ⟨rfl, by omega⟩ hn
      rw [e]
      refine ⟨fun _ => ⟨List.mem_cons_self, hc⟩, fun s' hs' hc' => ?_⟩
      rcases List.mem_cons.1 hs' with rfl | hs'
      · exact ⟨rfl, Int.le_refl _⟩
      · obtain ⟨rfl, hd⟩ := h2 s' hs' hc'
        refine ⟨rfl, ?_⟩
        have : dist (a + s) t < dist (a + b) t := by
          rcases Classical.em (dist (a + s) t < dist (a + b) t) with h | h
          · exact h
          · exact absurd ⟨rfl, h⟩ hn
        show dist (a + s) t ≤ _
        have hd' : dist (a + b) t ≤ dist (a + s') t := hd
        omega
  · have e : pickI a t (b, f) s = (b, f) := by simp [pickI, hc]
    rw [e]
    refine ⟨fun hf => ⟨List.mem_cons_of_mem _ (h1 hf).1, (h1 hf).2⟩, fun s' hs' hc' => ?_⟩
    rcases List.mem_cons.1 hs' with rfl | hs'
    · exact absurd hc' hc
    · exact h2 s' hs' hc'
theorem driven_best (a v t : Int) : Best a t (pickI a t (pickI a t (pickI a t (0, false) (v - 1)) v) (v + 1)) [v + 1, v, v - 1] :=
  best_pick (best_pick (best_pick (best_nil a t) _) _) _
/-- One of the three always can stop, if the car can. -/
theorem some_fits {a v t : Int} (h : canStop a v t = true) : (0 < v → canStop (a + (v - 1)) (v - 1) t = true) ∧ (v < 0 → canStop (a + (v + 1)) (v + 1) t = true) ∧ (v = 0 → canStop (a + v) v t = true) := by
  obtain ⟨h1, h2, h3, h4, h5⟩ := canStop_iff.1 h
  refine ⟨fun hv => ?_, fun hv => ?_, fun hv => ?_⟩
  · have e := brake_up (v := v) (by omega) (by omega)
    have h6 := h4 hv
    have h7 := @brake_pos (v - 1)
    refine canStop_iff.2 ⟨?_, by omega, h3, fun _ => by omega, fun hx => by omega⟩
    by_cases h8 : v = 1
    · subst h8; omega
    · have := h7 (by omega); omega
  · have e := brake_down (v := v) (by omega) (by omega)
    have h6 := h5 hv
    have h7 := @brake_neg (v + 1)
    refine canStop_iff.2 ⟨?_, by omega, h3, fun hx => by omega, fun _ => by omega⟩
    by_cases h8 : v = -1
    · subst h8; omega
    · have := h7 (by omega); omega
  · subst hv
    exact canStop_iff.2 ⟨by omega, by omega, h3, fun hx => by omega, fun hx => by omega⟩
theorem driven_fits {a v t : Int} (h : canStop a v t = true) :
    (driven a v t = v - 1 ∨ driven a v t = v ∨ driven a v t = v + 1) ∧ canStop (a + driven a v t) (driven a v t) t = true ∧
    ∀ s, (s = v - 1 ∨ s = v ∨ s = v + 1) → canStop (a + s) s t = true → dist (a + driven a v t) t ≤ dist (a + s) t := by
  obtain ⟨b1, b2⟩ := driven_best a v t
  have hf := some_fits h
  have hb : (pickI a t (pickI a t (pickI a t (0, false) (v - 1)) v) (v + 1)).2 = true := by
    rcases Int.lt_trichotomy v 0 with hv | hv | hv
    · exact (b2 (v + 1) (by simp) (hf.2.1 hv)).1
    · exact (b2 v (by simp) (hf.2.2 hv)).1
    · exact (b2 (v - 1) (by simp) (hf.1 hv)).1
  refine ⟨?_, (b1 hb).2, fun s hs hc => (b2 s ?_ hc).2⟩
  · have := (b1 hb).1
    simp only [List.mem_cons, List.not_mem_nil, or_false] at this
    show driven a v t = _ ∨ driven a v t = _ ∨ driven a v t = _
    unfold driven
    rcases this with h | h | h
    · exact .inr (.inr h)
    · exact .inr (.inl h)
    · exact .inl h
  · rcases hs with rfl | rfl | rfl <;> simp

def absI (v : Int) : Int := if v < 0 then -v else v
/-- A measure that every tick lowers until the car stands at its target. -/
def mu (a v t : Int) : Nat := if canStop a v t then (2 * dist a t + absI v).toNat else 1000 + (absI v).toNat
/-- What a car does that can stop. -/
theorem stepM_can {a v t : Int} (h : canStop a v t = true) : stepM a v t = (a + driven a v t, driven a v t) := by
  obtain ⟨_, hc, _⟩ := driven_fits h
  obtain ⟨h1, h2, h3, _⟩ := canStop_iff.1 h
  obtain ⟨k1, _⟩ := canStop_iff.1 hc
  have hm : motV a v = true := motV_iff.2 ⟨h1, h2⟩
  have ht : inB t 0 60 = true := inB_iff.2 h3
  unfold stepM nextSpeed moveTo
  rw [hm, ht, h]
  simp only [Bool.and_self, if_true]
  rw [if_neg (by omega), if_neg (by omega)]
theorem step_keeps {a v t : Int} (h : canStop a v t = true) : canStop (stepM a v t).1 (stepM a v t).2 t = true := by
  rw [stepM_can h]; exact (driven_fits h).2.1
/-- What a car does that cannot. -/
theorem stepM_not {a v t : Int} (hm : motV a v = true) (ht : inB t 0 60 = true) (h : canStop a v t = false) : v ≠ 0 ∧ stepM a v t = moveTo a (if 0 < v then v - 1 else v + 1) := by
  refine ⟨fun hv => ?_, by unfold stepM nextSpeed; rw [hm, ht, h]; rfl⟩
  subst hv
  have := (canStop_iff (a := a) (v := 0) (t := t)).2 ⟨(motV_iff.1 hm).1, (motV_iff.1 hm).2, inB_iff.1 ht, fun hx => by omega, fun hx => by omega⟩
  rw [h] at this; cases this
theorem moveTo_cases (a s : Int) : (a + s < 0 ∧ moveTo a s = (0, 0)) ∨ (60 < a + s ∧ moveTo a s = (60, 0)) ∨ (0 ≤ a + s ∧ a + s ≤ 60 ∧ moveTo a s = (a + s, s)) := by
  unfold moveTo
  by_cases h1 : a + s < 0
  · exact .inl ⟨h1, if_pos h1⟩
  · by_cases h2 : 60 < a + s
    · exact .inr (.inl ⟨h2, by rw [if_neg h1, if_pos h2]⟩)
    · exact .inr (.inr ⟨by omega, by omega, by rw [if_neg h1, if_neg h2]⟩)
theorem stepM_valid {a v t : Int} (hm : motV a v = true) (ht : inB t 0 60 = true) : motV (stepM a v t).1 (stepM a v t).2 = true := by
  by_cases h : canStop a v t = true
  · have := canStop_iff.1 (step_keeps h)
    exact motV_iff.2 ⟨this.1, this.2.1⟩
  · obtain ⟨h0, e⟩ := stepM_not hm ht (by simpa using h)
    have hb := motV_iff.1 hm
    rw [e]
    rcases moveTo_cases a (if 0 < v then v - 1 else v + 1) with ⟨_, e⟩ | ⟨_, e⟩ | ⟨h1, h2, e⟩ <;> rw [e]
    · decide
    · decide
    · refine motV_iff.2 ⟨⟨h1, h2⟩, ?_⟩
      show -5 ≤ (if 0 < v then v - 1 else v + 1) ∧ (if 0 < v then v - 1 else v + 1) ≤ 5
      split <;> omega
theorem mu_less {a v t : Int} (hm : motV a v = true) (ht : inB t 0 60 = true) (hr : ¬ (a = t ∧ v = 0)) : mu (stepM a v t).1 (stepM a v t).2 t < mu a v t := by
  have hb := motV_iff.1 hm
  have htb := inB_iff.1 ht
  by_cases h : canStop a v t = true
  · obtain ⟨d1, d2, d3⟩ := driven_fits h
    obtain ⟨_, _, _, k4, k5⟩ := canStop_iff.1 h
    rw [stepM_can h]
    show mu (a + driven a v t) (driven a v t) t < mu a v t
    unfold mu
    rw [if_pos d2, if_pos h]
    have e0 : 0 ≤ dist (a + driven a v t) t := by unfold dist; split <;> omega
    rcases Int.lt_trichotomy v 0 with hv | hv | hv
    · have g := d3 (v + 1) (by omega) ((some_fits h).2.1 hv)
      have k6 := k5 hv
      have k7 := brake_neg hv
      by_cases h1 : v = -1
      · subst h1
        by_cases hd : a = t
        · subst hd
          have : dist (a + (-1 + 1)) a = 0 := by unfold dist; split <;> omega
          have e1 : dist (a + driven a (-1) a) a = 0 := by omega
          have e2 : driven a (-1) a = 0 := by unfold dist at e1; split at e1 <;> omega
          rw [e2]; unfold absI dist; simp
        · have g1 := d3 (-1) (by omega) (canStop_iff.2 ⟨by omega, by omega, htb, fun hx => by omega, fun _ => by rw [brake_mone]; omega⟩)
          unfold absI dist at *
          split at g1 <;> split at g1 <;> (repeat' split) <;> omega
      · have e := brake_down (v := v) (by omega) (by omega)
        have k8 := brake_neg (v := v + 1) (by omega)
        unfold absI dist at *
        split at g <;> split at g <;> (repeat' split) <;> omega
    · subst hv
      by_cases hu : a < t
      · have g := d3 1 (by omega) (canStop_iff.2 ⟨by omega, by omega, htb, fun _ => by rw [brake_one]; omega, fun hx => by omega⟩)
        unfold absI dist at *
        split at g <;> split at g <;> (repeat' split) <;> omega
      · have g := d3 (-1) (by omega) (canStop_iff.2 ⟨by omega, by omega, htb, fun hx => by omega, fun _ => by rw [brake_mone]; omega⟩)
        unfold absI dist at *
        split at g <;> split at g <;> (repeat' split) <;> omega
    · have g := d3 (v - 1) (by omega) ((some_fits h).1 hv)
      have k6 := k4 hv
      have k7 := brake_pos hv
      by_cases h1 : v = 1
      · subst h1
        by_cases hd : a = t
        · subst hd
          have : dist (a + (1 - 1)) a = 0 := by unfold dist; split <;> omega
          have e1 : dist (a + driven a 1 a) a = 0 := by omega
          have e2 : driven a 1 a = 0 := by unfold dist at e1; split at e1 <;> omega
          rw [e2]; unfold absI dist; simp
        · have g1 := d3 1 (by omega) (canStop_iff.2 ⟨by omega, by omega, htb, fun _ => by rw [brake_one]; omega, fun hx => by omega⟩)
          unfold absI dist at *
          split at g1 <;> split at g1 <;> (repeat' split) <;> omega
      · have e := brake_up (v := v) (by omega) (by omega)
        have k8 := brake_pos (v := v - 1) (by omega)
        unfold absI dist at *
        split at g <;> split at g <;> (repeat' split) <;> omega
  · obtain ⟨h0, e⟩ := stepM_not hm ht (by simpa using h)
    have hd : ∀ x : Int, 0 ≤ x → x ≤ 60 → 0 ≤ dist x t ∧ dist x t ≤ 60 := fun x h1 h2 => by unfold dist; split <;> omega
    have hmu : mu a v t = 1000 + (absI v).toNat := by unfold mu; rw [if_neg h]
    rw [hmu, e]
    rcases moveTo_cases a (if 0 < v then v - 1 else v + 1) with ⟨_, e⟩ | ⟨_, e⟩ | ⟨h1, h2, e⟩ <;> rw [e]
    · have := hd 0 (by omega) (by omega)
      show mu 0 0 t < _
      unfold mu absI; split <;> split <;> simp <;> omega
    · have := hd 60 (by omega) (by omega)
      show mu 60 0 t < _
      unfold mu absI; split <;> split <;> simp <;> omega
    · have := hd _ h1 h2
      show mu (a + (if 0 < v then v - 1 else v + 1)) (if 0 < v then v - 1 else v + 1) t < _
      generalize hs : (if 0 < v then v - 1 else v + 1) = s at *
      have hs' : absI s < absI v ∧ 0 ≤ absI s ∧ absI v ≤ 5 := by
        subst hs; unfold absI; (repeat' split) <;> omega
      unfold mu; split <;> omega

def tickF : Nat → Int → Int → Int → Nat
  | 0, _, _, _ => 0
  | n + 1, a, v, t => if a = t ∧ v = 0 then 0 else tickF n (stepM a v t).1 (stepM a v t).2 t + 1
def ticksM (a v t : Int) : Nat := tickF (mu a v t) a v t
theorem tickF_rest (n : Nat) (t : Int) : tickF n t 0 t = 0 := by cases n <;> simp [tickF]
theorem tickF_same {t : Int} (ht : inB t 0 60 = true) : ∀ (n m : Nat) (a v : Int), motV a v = true → mu a v t ≤ n → mu a v t ≤ m → tickF n a v t = tickF m a v t := by
  intro n
  induction n with
  | zero =>
    intro m a v hm hn _
    by_cases hr : a = t ∧ v = 0
    · obtain ⟨rfl, rfl⟩ := hr; rw [tickF_rest, tickF_rest]
    · have := mu_less hm ht hr; omega
  | succ n ih =>
    intro m a v hm hn hm'
    by_cases hr : a = t ∧ v = 0
    · obtain ⟨rfl, rfl⟩ := hr; rw [tickF_rest, tickF_rest]
    · have hl := mu_less hm ht hr
      cases m with
      | zero => omega
      | succ m =>
        simp only [tickF, if_neg hr]
        rw [ih m _ _ (stepM_valid hm ht) (by omega) (by omega)]
theorem ticksM_rest (t : Int) : ticksM t 0 t = 0 := tickF_rest _ t
theorem ticksM_step {a v t : Int} (hm : motV a v = true) (ht : inB t 0 60 = true) (hr : ¬ (a = t ∧ v = 0)) : ticksM a v t = ticksM (stepM a v t).1 (stepM a v t).2 t + 1 := by
  have hl := mu_less hm ht hr
  obtain ⟨k, hk⟩ : ∃ k, mu a v t = k + 1 := ⟨mu a v t - 1, by omega⟩
  unfold ticksM
  rw [hk]
  simp only [tickF, if_neg hr]
  rw [tickF_same ht k _ _ _ (stepM_valid hm ht) (by omega) (Nat.le_refl _)]
theorem tickF_le : ∀ (n : Nat) (a v t : Int), tickF n a v t ≤ n := by
  intro n
  induction n with
  | zero => intros; exact Nat.le_refl _
  | succ n ih =>
    intro a v t
    simp only [tickF]
    split
    · omega
    · have := ih (stepM a v t).1 (stepM a v t).2 t; omega
theorem absI_bd {v : Int} (h : -5 ≤ v) (h' : v ≤ 5) : 0 ≤ absI v ∧ absI v ≤ 5 := by unfold absI; split <;> omega
theorem dist_bd {a b : Int} (h : 0 ≤ a) (h' : a ≤ 60) (k : 0 ≤ b) (k' : b ≤ 60) : 0 ≤ dist a b ∧ dist a b ≤ 60 := by unfold dist; split <;> omega
theorem ticksM_le {a v t : Int} (hm : motV a v = true) (ht : inB t 0 60 = true) : ticksM a v t ≤ 1005 := by
  obtain ⟨⟨h1, h2⟩, h3, h4⟩ := motV_iff.1 hm
  obtain ⟨h5, h6⟩ := inB_iff.1 ht
  have := tickF_le (mu a v t) a v t
  have h7 := absI_bd h3 h4
  have h8 := dist_bd h1 h2 h5 h6
  have h9 : mu a v t ≤ 1005 := by unfold mu; split <;> omega
  unfold ticksM; omega

def doorStep (g h : Int) (ask bl : Bool) : Int × Int :=
  if doorV g h then (if ask || (decide (0 < g) && bl) then (if g < 3 then (g + 1, h) else (4, 3)) else if 0 < h then (g, h - 1) else (if 0 < g then (g - 1, h) else (0, h))) else (0, 0)
def doorTicks (g h : Int) : Int := if doorV g h then g + h else -1

def limF : Nat → Int → Int
  | 0, _ => 0
  | n + 1, w => if brake ((n : Int) + 1) ≤ w then (n : Int) + 1 else limF n w
def speedLimit (a : Int) (up : Bool) : Int := if inB a 0 60 then limF 5 (if up then 60 - a else a) else -1
def withinL (a v : Int) : Bool := motV a v && decide (absI v ≤ speedLimit a (decide (0 < v)))
def govStep (tr : Bool) (sp : Int) (rs : Bool) : Bool := if 7 ≤ sp ∨ sp ≤ -7 then true else tr && !(rs && sp == 0)
end Go.Proofs.Ythmjmlblnikmaaa.Pl
