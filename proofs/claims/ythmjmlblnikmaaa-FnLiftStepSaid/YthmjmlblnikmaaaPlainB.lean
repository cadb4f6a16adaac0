/- What the functions on floors, loads and lists compute, as plain functions on lists of integers, and the facts on them. No program is in sight; no conditions. -/
import Derived.Test.YthmjmlblnikmaaaPlain
namespace Go.Proofs.Ythmjmlblnikmaaa.Pl

theorem inB_iff' {n lo hi : Int} {b : Bool} (h : inB n lo hi = b) : (lo ≤ n ∧ n ≤ hi) ↔ b = true := by rw [← h, inB_iff]
theorem motV_cases (a v : Int) : (inB a 0 60 = false ∧ motV a v = false) ∨ (inB a 0 60 = true ∧ v < -5 ∧ motV a v = false) ∨ (inB a 0 60 = true ∧ -5 ≤ v ∧ 5 < v ∧ motV a v = false) ∨ (inB a 0 60 = true ∧ -5 ≤ v ∧ v ≤ 5 ∧ motV a v = true) := by
  by_cases ha : inB a 0 60 = true
  · by_cases h1 : v < -5
    · exact .inr (.inl ⟨ha, h1, by unfold motV; rw [inB_lo h1]; simp⟩)
    · by_cases h2 : 5 < v
      · exact .inr (.inr (.inl ⟨ha, by omega, h2, by unfold motV; rw [inB_hi h2]; simp⟩))
      · exact .inr (.inr (.inr ⟨ha, by omega, by omega, by unfold motV; rw [ha, inB_mk (by omega) (by omega)]; rfl⟩))
  · exact .inl ⟨by simpa using ha, by unfold motV; simp [ha]⟩
theorem canStop_cases (a v t : Int) : (motV a v = false ∧ canStop a v t = false) ∨ (motV a v = true ∧ inB t 0 60 = false ∧ canStop a v t = false) ∨
    (motV a v = true ∧ inB t 0 60 = true ∧ 0 < v ∧ canStop a v t = decide (a + brake v ≤ t)) ∨ (motV a v = true ∧ inB t 0 60 = true ∧ v < 0 ∧ v ≤ 0 ∧ canStop a v t = decide (t ≤ a + brake v)) ∨
    (motV a v = true ∧ inB t 0 60 = true ∧ v = 0 ∧ canStop a v t = true) := by
  by_cases hm : motV a v = true
  · by_cases ht : inB t 0 60 = true
    · rcases Int.lt_trichotomy v 0 with hv | hv | hv
      · exact .inr (.inr (.inr (.inl ⟨hm, ht, hv, by omega, by unfold canStop; rw [hm, ht, if_neg (by omega), if_pos hv]; rfl⟩)))
      · exact .inr (.inr (.inr (.inr ⟨hm, ht, hv, by unfold canStop; rw [hm, ht, if_neg (by omega), if_neg (by omega)]; rfl⟩)))
      · exact .inr (.inr (.inl ⟨hm, ht, hv, by unfold canStop; rw [hm, ht, if_pos hv]; rfl⟩))
    · exact .inr (.inl ⟨hm, by simpa using ht, by unfold canStop; simp [ht]⟩)
  · exact .inl ⟨by simpa using hm, by unfold canStop; simp [hm]⟩

/-- The speeds that were tried after so many rounds. -/
def pickN (a t v : Int) : Nat → Int × Bool
  | 0 => (0, false)
  | k + 1 => pickI a t (pickN a t v k) (v - 1 + (k : Int))
theorem pickN_three (a t v : Int) : (pickN a t v 3).1 = driven a v t := by
  show (pickI a t (pickI a t (pickI a t (0, false) (v - 1 + ((0 : Nat) : Int))) (v - 1 + ((1 : Nat) : Int))) (v - 1 + ((2 : Nat) : Int))).1 = _
  rw [show v - 1 + ((0 : Nat) : Int) = v - 1 from by omega, show v - 1 + ((1 : Nat) : Int) = v from by omega, show v - 1 + ((2 : Nat) : Int) = v + 1 from by omega]
  rfl
theorem pickI_or (a t : Int) (p : Int × Bool) (s : Int) : pickI a t p s = (s, true) ∨ pickI a t p s = p := by
  unfold pickI; split
  · exact .inl rfl
  · exact .inr rfl
theorem pickN_bd {a t v : Int} (h : -5 ≤ v) (h' : v ≤ 5) : ∀ k : Nat, k ≤ 3 → -6 ≤ (pickN a t v k).1 ∧ (pickN a t v k).1 ≤ 6 := by
  intro k
  induction k with
  | zero => intro _; simp [pickN]
  | succ k ih =>
    intro hk
    have := ih (by omega)
    show -6 ≤ (pickI a t (pickN a t v k) (v - 1 + (k : Int))).1 ∧ (pickI a t (pickN a t v k) (v - 1 + (k : Int))).1 ≤ 6
    rcases pickI_or a t (pickN a t v k) (v - 1 + (k : Int)) with e | e <;> rw [e]
    · show -6 ≤ v - 1 + (k : Int) ∧ v - 1 + (k : Int) ≤ 6; omega
    · exact this
def pickSN (a t v : Int) : Nat → Int × Bool
  | 0 => (0, false)
  | k + 1 => pickS a v t (pickSN a t v k) ((k : Int) - 1)
theorem pickSN_three (a t v : Int) : (pickSN a t v 3).1 = driven a v t := by
  rw [← driven_same]
  rfl
theorem stepM_cases (a v t : Int) : (motV a v = false ∧ stepM a v t = (0, 0)) ∨ (motV a v = true ∧ inB t 0 60 = false ∧ stepM a v t = (0, 0)) ∨
    (motV a v = true ∧ inB t 0 60 = true ∧ canStop a v t = true ∧ -5 ≤ driven a v t ∧ driven a v t ≤ 5 ∧ 0 ≤ a + driven a v t ∧ a + driven a v t ≤ 60 ∧ stepM a v t = (a + driven a v t, driven a v t)) ∨
    (motV a v = true ∧ inB t 0 60 = true ∧ canStop a v t = false ∧ 0 < v ∧ 0 ≤ a + (v - 1) ∧ a + (v - 1) ≤ 60 ∧ stepM a v t = (a + (v - 1), v - 1)) ∨
    (motV a v = true ∧ inB t 0 60 = true ∧ canStop a v t = false ∧ 0 < v ∧ 0 ≤ a + (v - 1) ∧ 60 < a + (v - 1) ∧ stepM a v t = (60, 0)) ∨
    (motV a v = true ∧ inB t 0 60 = true ∧ canStop a v t = false ∧ v ≤ 0 ∧ a + (v + 1) < 0 ∧ a + (v + 1) ≤ 60 ∧ stepM a v t = (0, 0)) ∨
    (motV a v = true ∧ inB t 0 60 = true ∧ canStop a v t = false ∧ v ≤ 0 ∧ 0 ≤ a + (v + 1) ∧ a + (v + 1) ≤ 60 ∧ stepM a v t = (a + (v + 1), v + 1)) := by
  by_cases hm : motV a v = true
  · by_cases ht : inB t 0 60 = true
    · have hb := motV_iff.1 hm
      by_cases hc : canStop a v t = true
      · obtain ⟨_, hc', _⟩ := driven_fits hc
        have := canStop_iff.1 hc'
        exact .inr (.inr (.inl ⟨hm, ht, hc, by omega, by omega, by omega, by omega, stepM_can hc⟩))
      · have hc0 : canStop a v t = false := by simpa using hc
        obtain ⟨h0, e⟩ := stepM_not hm ht hc0
        by_cases hv : 0 < v
        · rw [if_pos hv] at e
          rcases moveTo_cases a (v - 1) with ⟨h1, e'⟩ | ⟨h1, e'⟩ | ⟨h1, h2, e'⟩
          · omega
          · exact .inr (.inr (.inr (.inr (.inl ⟨hm, ht, hc0, hv, by omega, h1, by rw [e, e']⟩))))
          · exact .inr (.inr (.inr (.inl ⟨hm, ht, hc0, hv, h1, h2, by rw [e, e']⟩)))
        · rw [if_neg hv] at e
          rcases moveTo_cases a (v + 1) with ⟨h1, e'⟩ | ⟨h1, e'⟩ | ⟨h1, h2, e'⟩
          · exact .inr (.inr (.inr (.inr (.inr (.inl ⟨hm, ht, hc0, by omega, h1, by omega, by rw [e, e']⟩)))))
          · omega
          · exact .inr (.inr (.inr (.inr (.inr (.inr ⟨hm, ht, hc0, by omega, h1, h2, by rw [e, e']⟩)))))
    · exact .inr (.inl ⟨hm, by simpa using ht, by unfold stepM; simp [ht]⟩)
  · exact .inl ⟨by simpa using hm, by unfold stepM; simp [hm]⟩

def tickT (a v t : Int) : Int := if motV a v && inB t 0 60 then (ticksM a v t : Int) else -1
theorem tickT_cases (a v t : Int) : (motV a v = false ∧ tickT a v t = -1) ∨ (motV a v = true ∧ inB t 0 60 = false ∧ tickT a v t = -1) ∨ (motV a v = true ∧ inB t 0 60 = true ∧ tickT a v t = (ticksM a v t : Int)) := by
  by_cases hm : motV a v = true
  · by_cases ht : inB t 0 60 = true
    · exact .inr (.inr ⟨hm, ht, by unfold tickT; rw [hm, ht]; rfl⟩)
    · exact .inr (.inl ⟨hm, by simpa using ht, by unfold tickT; simp [ht]⟩)
  · exact .inl ⟨by simpa using hm, by unfold tickT; simp [hm]⟩
theorem limF_of {w : Int} {j : Nat} (hj : j ≤ 5) (h1 : j = 0 ∨ brake (j : Int) ≤ w) (h2 : j = 5 ∨ w < brake ((j : Int) + 1)) (hw : 0 ≤ w) : limF 5 w = (j : Int) := by
  have b1 : brake 1 = 0 := by decide
  have b2 : brake 2 = 1 := by decide
  have b3 : brake 3 = 3 := by decide
  have b4 : brake 4 = 6 := by decide
  have b5 : brake 5 = 10 := by decide
  have e : limF 5 w = if 10 ≤ w then 5 else if 6 ≤ w then 4 else if 3 ≤ w then 3 else if 1 ≤ w then 2 else if 0 ≤ w then 1 else 0 := by
    simp [limF, b1, b2, b3, b4, b5]
  rw [e]
  have hc : j = 0 ∨ j = 1 ∨ j = 2 ∨ j = 3 ∨ j = 4 ∨ j = 5 := by omega
  rcases hc with rfl | rfl | rfl | rfl | rfl | rfl
  all_goals
    simp [b1, b2, b3, b4, b5] at h1 h2
    (repeat' split) <;> omega
theorem limF_bd (w : Int) : ∀ n : Nat, 0 ≤ limF n w ∧ limF n w ≤ n := by
  intro n
  induction n with
  | zero => simp [limF]
  | succ n ih => simp only [limF]; split <;> omega
theorem speedLimit_cases (a : Int) (up : Bool) : (inB a 0 60 = false ∧ speedLimit a up = -1) ∨ (inB a 0 60 = true ∧ up = true ∧ speedLimit a up = limF 5 (60 - a)) ∨ (inB a 0 60 = true ∧ up = false ∧ speedLimit a up = limF 5 a) := by
  by_cases ha : inB a 0 60 = true
  · cases up
    · exact .inr (.inr ⟨ha, rfl, by unfold speedLimit; rw [ha]; rfl⟩)
    · exact .inr (.inl ⟨ha, rfl, by unfold speedLimit; rw [ha]; rfl⟩)
  · exact .inl ⟨by simpa using ha, by unfold speedLimit; simp [ha]⟩
theorem speedLimit_bd (a : Int) (up : Bool) : -1 ≤ speedLimit a up ∧ speedLimit a up ≤ 5 := by
  rcases speedLimit_cases a up with ⟨_, e⟩ | ⟨_, _, e⟩ | ⟨_, _, e⟩ <;> rw [e]
  · omega
  · have := limF_bd (60 - a) 5; omega
  · have := limF_bd a 5; omega
theorem speedLimit_nn {a : Int} (h : inB a 0 60 = true) (up : Bool) : 0 ≤ speedLimit a up := by
  rcases speedLimit_cases a up with ⟨e, _⟩ | ⟨_, _, e⟩ | ⟨_, _, e⟩
  · rw [h] at e; cases e
  · rw [e]; exact (limF_bd (60 - a) 5).1
  · rw [e]; exact (limF_bd a 5).1
theorem withinL_cases (a v : Int) : (motV a v = false ∧ withinL a v = false) ∨ (motV a v = true ∧ v < 0 ∧ withinL a v = decide (-v ≤ speedLimit a false)) ∨ (motV a v = true ∧ v = 0 ∧ withinL a v = true ∧ 0 ≤ speedLimit a true ∧ 0 ≤ speedLimit a false) ∨
    (motV a v = true ∧ 0 < v ∧ withinL a v = decide (v ≤ speedLimit a true)) := by
  by_cases hm : motV a v = true
  · have ha : inB a 0 60 = true := inB_iff.2 (motV_iff.1 hm).1
    rcases Int.lt_trichotomy v 0 with hv | hv | hv
    · refine .inr (.inl ⟨hm, hv, ?_⟩)
      unfold withinL absI; rw [hm, decide_eq_false (by omega : ¬ 0 < v), if_pos hv]; rfl
    · refine .inr (.inr (.inl ⟨hm, hv, ?_, speedLimit_nn ha _, speedLimit_nn ha _⟩))
      subst hv
      unfold withinL; rw [hm]
      have := speedLimit_nn ha false
      simpa [absI] using this
    · refine .inr (.inr (.inr ⟨hm, hv, ?_⟩))
      unfold withinL absI; rw [hm, decide_eq_true hv, if_neg (by omega)]; rfl
  · exact .inl ⟨by simpa using hm, by unfold withinL; simp [hm]⟩

/-- The number at a place of a list. -/
def nth (L : List Int) (i : Nat) : Int := L.getD i 0
theorem nth_eq {L : List Int} {i : Nat} (h : i < L.length) : L[i]? = some (nth L i) := by simp [nth, h]
theorem nth_mem {L : List Int} {i : Nat} (h : i < L.length) : nth L i ∈ L := by
  have : nth L i = L[i] := by simp [nth, h]
  rw [this]; exact List.getElem_mem h
theorem mem_nth {L : List Int} {x : Int} (h : x ∈ L) : ∃ i, i < L.length ∧ nth L i = x := by
  obtain ⟨i, hi, e⟩ := List.mem_iff_getElem.1 h
  exact ⟨i, hi, by simp [nth, hi, e]⟩
theorem nth_take {L : List Int} {i k : Nat} (h : i < k) : nth (L.take k) i = nth L i := by
  simp [nth, h]
theorem nth_drop (L : List Int) (i k : Nat) : nth (L.drop k) i = nth L (k + i) := by
  simp [nth, List.getElem?_drop]
theorem ext_nth {L M : List Int} (h : L.length = M.length) (e : ∀ i, i < L.length → nth L i = nth M i) : L = M := by
  apply List.ext_getElem h
  intro i h1 h2
  have := e i h1
  simpa [nth, h1, h2] using this
theorem take_succ {L : List Int} {k : Nat} (h : k < L.length) : L.take (k + 1) = L.take k ++ [nth L k] := by
  rw [List.take_succ_eq_append_getElem h]; simp [nth, h]

def Asc (L : List Int) (k : Nat) : Prop := ∀ i, i < k - 1 → nth L i < nth L (i + 1)
def FV (L : List Int) : Prop := 1 ≤ L.length ∧ L.length ≤ 8 ∧ nth L 0 = 0 ∧ Asc L L.length ∧ nth L (L.length - 1) ≤ 60
instance (L : List Int) (k : Nat) : Decidable (Asc L k) := by unfold Asc; infer_instance
instance (L : List Int) : Decidable (FV L) := by unfold FV; infer_instance
def floorsV (L : List Int) : Bool := decide (FV L)
theorem floorsV_iff {L : List Int} : floorsV L = true ↔ FV L := by simp [floorsV]
theorem floorsV_no {L : List Int} : floorsV L = false ↔ ¬ FV L := by simp [floorsV]
theorem asc_lt {L : List Int} {n : Nat} (h : Asc L n) : ∀ j i : Nat, i < j → j < n → nth L i < nth L j := by
  intro j
  induction j with
  | zero => intro i hi; omega
  | succ j ih =>
    intro i hi hj
    have h1 := h j (by omega)
    by_cases e : i = j
    · subst e; exact h1
    · have := ih i (by omega) (by omega); omega
theorem fv_lt {L : List Int} (h : FV L) {i j : Nat} (hi : i < j) (hj : j < L.length) : nth L i < nth L j := asc_lt h.2.2.2.1 j i hi hj
theorem fv_inj {L : List Int} (h : FV L) {i j : Nat} (hi : i < L.length) (hj : j < L.length) (e : nth L i = nth L j) : i = j := by
  rcases Nat.lt_trichotomy i j with h1 | h1 | h1
  · have := fv_lt h h1 hj; omega
  · exact h1
  · have := fv_lt h h1 hi; omega
theorem fv_bd {L : List Int} (h : FV L) {i : Nat} (hi : i < L.length) : 0 ≤ nth L i ∧ nth L i ≤ 60 := by
  constructor
  · by_cases e : i = 0
    · subst e; rw [h.2.2.1]; exact Int.le_refl _
    · have := fv_lt h (i := 0) (j := i) (by omega) hi; rw [h.2.2.1] at this; omega
  · by_cases e : i = L.length - 1
    · rw [e]; exact h.2.2.2.2
    · have := fv_lt h (i := i) (j := L.length - 1) (by omega) (by omega)
      have := h.2.2.2.2; omega
/-- What the reference's loop has looked at. -/
def SpecOk (L : List Int) (k : Nat) : Prop := ∀ j, j < k → (0 ≤ nth L j ∧ nth L j ≤ 60) ∧ (0 < j → nth L (j - 1) < nth L j)
theorem specOk_of {L : List Int} (h : FV L) : SpecOk L L.length := fun j hj => ⟨fv_bd h hj, fun h0 => fv_lt h (by omega) hj⟩
theorem fv_of_spec {L : List Int} (h : SpecOk L L.length) (h1 : 1 ≤ L.length) (h2 : L.length ≤ 8) (h3 : nth L 0 = 0) : FV L :=
  ⟨h1, h2, h3, fun i hi => (h (i + 1) (by omega)).2 (by omega), (h (L.length - 1) (by omega)).1.2⟩
theorem floorsV_spec {L : List Int} (h : SpecOk L L.length) : floorsV L = (inB (L.length : Int) 1 8 && nth L 0 == 0) := by
  rw [Bool.eq_iff_iff, floorsV_iff]
  simp only [Bool.and_eq_true, inB_iff, beq_iff_eq]
  constructor
  · intro hf; exact ⟨⟨by have := hf.1; omega, by have := hf.2.1; omega⟩, hf.2.2.1⟩
  · rintro ⟨⟨h1, h2⟩, h3⟩; exact fv_of_spec h (by omega) (by omega) h3

/-- The first number below n with a property, or -1. -/
def firstI (p : Nat → Bool) : Nat → Int
  | 0 => -1
  | n + 1 => if 0 ≤ firstI p n then firstI p n else if p n then (n : Int) else -1
theorem firstI_spec (p : Nat → Bool) (n : Nat) : (firstI p n = -1 ∧ ∀ j, j < n → p j = false) ∨ ∃ k : Nat, k < n ∧ firstI p n = (k : Int) ∧ p k = true ∧ ∀ j, j < k → p j = false := by
  induction n with
  | zero => exact .inl ⟨rfl, fun j hj => by omega⟩
  | succ n ih =>
    rcases ih with ⟨e, h⟩ | ⟨k, hk, e, hp, hn⟩
    · have e' : firstI p (n + 1) = if p n then (n : Int) else -1 := by simp [firstI, e]
      rw [e']
      by_cases hp : p n = true
      · exact .inr ⟨n, by omega, by simp [hp], hp, h⟩
      · refine .inl ⟨by simp [hp], fun j hj => ?_⟩
        by_cases ej : j = n
        · subst ej; simpa using hp
        · exact h j (by omega)
    · exact .inr ⟨k, by omega, by simp [firstI, e], hp, hn⟩
theorem firstI_none {p : Nat → Bool} {n : Nat} (h : ∀ j, j < n → p j = false) : firstI p n = -1 := by
  rcases firstI_spec p n with ⟨e, _⟩ | ⟨k, hk, _, hp, _⟩
  · exact e
  · rw [h k hk] at hp; cases hp
theorem firstI_at {p : Nat → Bool} {n k : Nat} (hk : k < n) (hp : p k = true) (hn : ∀ j, j < k → p j = false) : firstI p n = (k : Int) := by
  rcases firstI_spec p n with ⟨_, h⟩ | ⟨k', hk', e, hp', hn'⟩
  · rw [h k hk] at hp; cases hp
  · rw [e]
    rcases Nat.lt_trichotomy k k' with h1 | h1 | h1
    · rw [hn' k h1] at hp; cases hp
    · rw [h1]
    · rw [hn k' h1] at hp'; cases hp'
/-- The last number below n with a property, or -1. -/
def lastI (p : Nat → Bool) : Nat → Int
  | 0 => -1
  | n + 1 => if p n then (n : Int) else lastI p n
theorem lastI_spec (p : Nat → Bool) (n : Nat) : (lastI p n = -1 ∧ ∀ j, j < n → p j = false) ∨ ∃ k : Nat, k < n ∧ lastI p n = (k : Int) ∧ p k = true ∧ ∀ j, k < j → j < n → p j = false := by
  induction n with
  | zero => exact .inl ⟨rfl, fun j hj => by omega⟩
  | succ n ih =>
    by_cases hp : p n = true
    · exact .inr ⟨n, by omega, by simp [lastI, hp], hp, fun j h1 h2 => by omega⟩
    · have e : lastI p (n + 1) = lastI p n := by simp [lastI, hp]
      have hp' : p n = false := by simpa using hp
      rw [e]
      rcases ih with ⟨e, h⟩ | ⟨k, hk, e, hpk, hn⟩
      · refine .inl ⟨e, fun j hj => ?_⟩
        by_cases ej : j = n
        · rw [ej]; exact hp'
        · exact h j (by omega)
      · refine .inr ⟨k, by omega, e, hpk, fun j h1 h2 => ?_⟩
        by_cases ej : j = n
        · rw [ej]; exact hp'
        · exact hn j h1 (by omega)
theorem lastI_bd (p : Nat → Bool) (n : Nat) : -1 ≤ lastI p n ∧ lastI p n < n := by
  rcases lastI_spec p n with ⟨e, _⟩ | ⟨k, hk, e, _⟩ <;> rw [e] <;> omega
/-- The same, from 0 on. -/
def lastZ (p : Nat → Bool) : Nat → Nat
  | 0 => 0
  | n + 1 => if p n then n else lastZ p n
theorem lastZ_eq {p : Nat → Bool} (h0 : p 0 = true) : ∀ n, 0 < n → lastI p n = (lastZ p n : Int) := by
  intro n
  induction n with
  | zero => intro h; omega
  | succ n ih =>
    intro _
    by_cases hp : p n = true
    · simp [lastI, lastZ, hp]
    · by_cases e : n = 0
      · subst e; exact absurd h0 hp
      · simp [lastI, lastZ, hp]; exact ih (by omega)
theorem lastZ_le (p : Nat → Bool) : ∀ n, lastZ p n ≤ n := by
  intro n; induction n with
  | zero => exact Nat.le_refl _
  | succ n ih => simp only [lastZ]; split <;> omega

def atP (L : List Int) (a : Int) (i : Nat) : Bool := nth L i == a
def belowP (L : List Int) (a : Int) (i : Nat) : Bool := decide (nth L i ≤ a)
def floorAt (L : List Int) (a : Int) : Int := if floorsV L then firstI (atP L a) L.length else -1
def floorBelow (L : List Int) (a : Int) : Int := if floorsV L && inB a 0 60 then lastI (belowP L a) L.length else -1
def nearI (L : List Int) (a : Int) : Nat → Nat
  | 0 => 0
  | k + 1 => if dist (nth L k) a < dist (nth L (nearI L a k)) a then k else nearI L a k
def floorNear (L : List Int) (a : Int) : Int := if floorsV L && inB a 0 60 then (nearI L a L.length : Int) else -1
def isFl (L : List Int) (a : Int) : Bool := inB a 0 ((L.length : Int) - 1)
def floorWay (L : List Int) (a b : Int) : Int := if floorsV L && (isFl L a && isFl L b) then dist (nth L a.toNat) (nth L b.toNat) else -1
theorem isFl_iff {L : List Int} {a : Int} : isFl L a = true ↔ 0 ≤ a ∧ a < (L.length : Int) := by unfold isFl; rw [inB_iff]; omega
theorem isFl_nat {L : List Int} {a : Int} (h : isFl L a = true) : ∃ k : Nat, k < L.length ∧ a = (k : Int) := by
  have := isFl_iff.1 h
  exact ⟨a.toNat, by omega, by omega⟩
theorem isFl_mk {L : List Int} {k : Nat} (h : k < L.length) : isFl L (k : Int) = true := isFl_iff.2 ⟨by omega, by omega⟩
theorem nearI_le (L : List Int) (a : Int) : ∀ k, nearI L a k ≤ k - 1 := by
  intro k; induction k with
  | zero => exact Nat.le_refl _
  | succ k ih => simp only [nearI]; split <;> omega
theorem nearI_lt {L : List Int} {a : Int} {k : Nat} (hk : k ≤ L.length) (h : 0 < L.length) : nearI L a k < L.length := by have := nearI_le L a k; omega
theorem belowP_zero {L : List Int} {a : Int} (h : FV L) (ha : 0 ≤ a) : belowP L a 0 = true := by simp [belowP, h.2.2.1, ha]
theorem floorBelow_Z {L : List Int} {a : Int} (h : floorsV L = true) (ha : inB a 0 60 = true) : floorBelow L a = (lastZ (belowP L a) L.length : Int) := by
  have hf := floorsV_iff.1 h
  unfold floorBelow
  rw [h, ha]
  exact lastZ_eq (belowP_zero hf (inB_iff.1 ha).1) _ (by have := hf.1; omega)
/-- Where a valid building has a floor. -/
theorem floorAt_nat {L : List Int} (h : floorsV L = true) {k : Nat} (hk : k < L.length) : floorAt L (nth L k) = (k : Int) := by
  unfold floorAt
  rw [h]
  exact firstI_at hk (by simp [atP]) (fun j hj => by
    have := fv_lt (floorsV_iff.1 h) hj hk
    simp [atP]; omega)
theorem floorAt_cases (L : List Int) (a : Int) : (floorAt L a = -1 ∧ (floorsV L = true → ∀ j, j < L.length → nth L j ≠ a)) ∨ ∃ k : Nat, k < L.length ∧ floorAt L a = (k : Int) ∧ nth L k = a ∧ floorsV L = true := by
  unfold floorAt
  by_cases h : floorsV L = true
  · rw [h]
    rcases firstI_spec (atP L a) L.length with ⟨e, hn⟩ | ⟨k, hk, e, hp, _⟩
    · exact .inl ⟨e, fun _ j hj => by have := hn j hj; simpa [atP] using this⟩
    · exact .inr ⟨k, hk, e, by simpa [atP] using hp, rfl⟩
  · exact .inl ⟨by simp [h], fun h' => absurd h' h⟩
theorem floorAt_bd (L : List Int) (a : Int) : -1 ≤ floorAt L a ∧ floorAt L a < L.length := by
  rcases floorAt_cases L a with ⟨e, _⟩ | ⟨k, hk, e, _⟩ <;> rw [e] <;> omega
theorem floorAt_iff {L : List Int} (h : floorsV L = true) {k : Nat} (hk : k < L.length) (a : Int) : floorAt L a = (k : Int) ↔ a = nth L k := by
  constructor
  · intro e
    rcases floorAt_cases L a with ⟨e', _⟩ | ⟨k', _, e', hn, _⟩
    · rw [e'] at e; omega
    · rw [e'] at e
      have : k' = k := by omega
      subst this; exact hn.symm
  · rintro rfl; exact floorAt_nat h hk

theorem dist_bd2 {a b n : Int} (ha : -n ≤ a) (ha' : a ≤ n) (hb : -n ≤ b) (hb' : b ≤ n) : 0 ≤ dist a b ∧ dist a b ≤ 2 * n := by unfold dist; split <;> omega
theorem dist_nn (a b : Int) : 0 ≤ dist a b := by unfold dist; split <;> omega

def wtV (L : List Int) : Bool := L.all fun x => inB x 1 40
def loadSum (L : List Int) : Int := if decide (L.length ≤ 8) && wtV L then L.sum else -1
theorem wtV_iff {L : List Int} : wtV L = true ↔ ∀ x ∈ L, 1 ≤ x ∧ x ≤ 40 := by simp [wtV, inB_iff]
theorem wtV_snoc (L : List Int) (x : Int) : wtV (L ++ [x]) = (wtV L && inB x 1 40) := by simp [wtV]
theorem sum_snoc (L : List Int) (x : Int) : (L ++ [x]).sum = L.sum + x := by simp
theorem wtV_take {L : List Int} (h : wtV L = true) (k : Nat) : wtV (L.take k) = true := wtV_iff.2 fun x hx => wtV_iff.1 h x (List.mem_of_mem_take hx)
theorem wtV_drop {L : List Int} (h : wtV L = true) (k : Nat) : wtV (L.drop k) = true := wtV_iff.2 fun x hx => wtV_iff.1 h x (List.mem_of_mem_drop hx)
theorem wt_sum {L : List Int} (h : wtV L = true) : (L.length : Int) ≤ L.sum ∧ L.sum ≤ 40 * L.length := by
  induction L with
  | nil => simp
  | cons x L ih =>
    have h1 := wtV_iff.1 h
    have h2 := h1 x (by simp)
    have h3 := ih (wtV_iff.2 fun y hy => h1 y (by simp [hy]))
    simp only [List.sum_cons, List.length_cons]
    omega
theorem loadSum_val {L : List Int} (h : L.length ≤ 8) (h' : wtV L = true) : loadSum L = L.sum := by simp [loadSum, h, h']
theorem loadSum_long {L : List Int} (h : 8 < L.length) : loadSum L = -1 := by unfold loadSum; rw [decide_eq_false (by omega)]; rfl
theorem loadSum_bad {L : List Int} (h : wtV L = false) : loadSum L = -1 := by simp [loadSum, h]
theorem wtV_bad {L : List Int} {k : Nat} (hk : k < L.length) (h : inB (nth L k) 1 40 = false) : wtV L = false := by
  rcases hb : wtV L with _ | _
  · rfl
  · have := wtV_iff.1 hb _ (nth_mem hk)
    rw [inB_mk this.1 this.2] at h; cases h
theorem loadSum_cases (L : List Int) : (loadSum L = -1) ∨ (L.length ≤ 8 ∧ wtV L = true ∧ loadSum L = L.sum ∧ 0 ≤ L.sum ∧ L.sum ≤ 320) := by
  by_cases h : L.length ≤ 8
  · by_cases h' : wtV L = true
    · have := wt_sum h'
      exact .inr ⟨h, h', loadSum_val h h', by omega, by omega⟩
    · exact .inl (loadSum_bad (by simpa using h'))
  · exact .inl (loadSum_long (by omega))
theorem loadSum_bd (L : List Int) : -1 ≤ loadSum L ∧ loadSum L ≤ 320 := by
  rcases loadSum_cases L with e | ⟨_, _, e, h1, h2⟩ <;> rw [e] <;> omega
def overP (L : List Int) (i : Nat) : Bool := decide (40 < (L.take (i + 1)).sum)
def loadFirst (L : List Int) : Int := if loadSum L < 0 then -1 else if 0 ≤ firstI (overP L) L.length then firstI (overP L) L.length else L.length
theorem sum_take_le {L : List Int} (h : wtV L = true) : ∀ k j : Nat, (L.take k).sum ≤ (L.take (k + j)).sum := by
  intro k j
  induction j with
  | zero => simp
  | succ j ih =>
    by_cases hl : k + j < L.length
    · rw [← Nat.add_assoc, take_succ hl, sum_snoc]
      have := wtV_iff.1 h _ (nth_mem hl); omega
    · rw [List.take_of_length_le (i := k + (j + 1)) (by omega)]
      rw [List.take_of_length_le (i := k + j) (by omega)] at ih; exact ih

def tripOk (L : List Int) (f t l : Int) : Bool := floorsV L && (isFl L f && (isFl L t && inB l 0 40))
def trip (L : List Int) (f t l : Int) : Int := if tripOk L f t l then (l - 20) * (nth L t.toNat - nth L f.toNat) else 0
theorem trip_bd (L : List Int) (f t l : Int) : -1200 ≤ trip L f t l ∧ trip L f t l ≤ 1200 := by
  unfold trip
  by_cases h : tripOk L f t l = true
  · rw [if_pos h]
    simp only [tripOk, Bool.and_eq_true] at h
    obtain ⟨h1, h2, h3, h4⟩ := h
    obtain ⟨a, ha, rfl⟩ := isFl_nat h2
    obtain ⟨b, hb, rfl⟩ := isFl_nat h3
    have h5 := fv_bd (floorsV_iff.1 h1) ha
    have h6 := fv_bd (floorsV_iff.1 h1) hb
    have h7 := inB_iff.1 h4
    simp only [Int.toNat_natCast]
    generalize nth L b = x at *
    generalize nth L a = y at *
    have e : ∀ u v : Int, -20 ≤ u → u ≤ 20 → -60 ≤ v → v ≤ 60 → -1200 ≤ u * v ∧ u * v ≤ 1200 := by
      intro u v a1 a2 b1 b2
      have p1 : 0 ≤ (20 - u) * (v + 60) := Int.mul_nonneg (by omega) (by omega)
      have p2 : 0 ≤ (u + 20) * (60 - v) := Int.mul_nonneg (by omega) (by omega)
      have p3 : 0 ≤ (20 - u) * (60 - v) := Int.mul_nonneg (by omega) (by omega)
      have p4 : 0 ≤ (u + 20) * (v + 60) := Int.mul_nonneg (by omega) (by omega)
      rw [Int.sub_mul, Int.mul_add, Int.mul_add] at p1
      rw [Int.add_mul, Int.mul_sub, Int.mul_sub] at p2
      rw [Int.sub_mul, Int.mul_sub, Int.mul_sub] at p3
      rw [Int.add_mul, Int.mul_add, Int.mul_add] at p4
      omega
    exact e _ _ (by omega) (by omega) (by omega) (by omega)
  · rw [if_neg h]; omega
/-- The tour's first k ways: whether all are trips, and what they cost. -/
def tourOk (L S W : List Int) : Nat → Bool
  | 0 => true
  | k + 1 => tourOk L S W k && tripOk L (nth S k) (nth S (k + 1)) (nth W k)
def tourSum (L S W : List Int) : Nat → Int
  | 0 => 0
  | k + 1 => tourSum L S W k + trip L (nth S k) (nth S (k + 1)) (nth W k)
theorem tourSum_bd (L S W : List Int) : ∀ k : Nat, -(1200 * (k : Int)) ≤ tourSum L S W k ∧ tourSum L S W k ≤ 1200 * (k : Int) := by
  intro k; induction k with
  | zero => simp [tourSum]
  | succ k ih =>
    have := trip_bd L (nth S k) (nth S (k + 1)) (nth W k)
    simp only [tourSum]; omega
theorem tourOk_no {L S W : List Int} {k : Nat} (h : tripOk L (nth S k) (nth S (k + 1)) (nth W k) = false) : ∀ n, k < n → tourOk L S W n = false := by
  intro n; induction n with
  | zero => intro h; omega
  | succ n ih =>
    intro hk
    simp only [tourOk]
    by_cases e : k = n
    · subst e; rw [h]; simp
    · rw [ih (by omega)]; rfl
def tourB (L S W : List Int) : Bool := floorsV L && (decide (S.length = W.length + 1) && (isFl L (nth S 0) && tourOk L S W W.length))
def tour (L S W : List Int) : Int := if tourB L S W then tourSum L S W W.length else 0

def hasI (L : List Int) (x : Int) : Bool := L.any fun y => y == x
theorem hasI_iff {L : List Int} {x : Int} : hasI L x = true ↔ x ∈ L := by simp [hasI]
theorem hasI_at {L : List Int} {x : Int} {k : Nat} (hk : k < L.length) (h : nth L k = x) : hasI L x = true := hasI_iff.2 (h ▸ nth_mem hk)
theorem hasI_no {L : List Int} {x : Int} (h : ∀ j, j < L.length → nth L j ≠ x) : hasI L x = false := by
  rcases hb : hasI L x with _ | _
  · rfl
  · obtain ⟨i, hi, e⟩ := mem_nth (hasI_iff.1 hb)
    exact absurd e (h i hi)
def govRun (tr : Bool) (S R : List Int) : Nat → Bool
  | 0 => tr
  | k + 1 => govStep (govRun tr S R k) (nth S k) (hasI R (k : Int))
def doorRunF (d : Int × Int) (A B : List Int) : Nat → Int × Int
  | 0 => d
  | k + 1 => doorStep (doorRunF d A B k).1 (doorRunF d A B k).2 (hasI A (k : Int)) (hasI B (k : Int))
def doorRun (g h t : Int) (A B : List Int) : Int × Int := if doorV g h && inB t 0 99 then doorRunF (g, h) A B t.toNat else (0, 0)
theorem doorStep_valid {g h : Int} (hv : doorV g h = true) (ask bl : Bool) : doorV (doorStep g h ask bl).1 (doorStep g h ask bl).2 = true := by
  have hb := doorV_iff.1 hv
  have hc : (g = 0 ∧ h = 0) ∨ (g = 1 ∧ h = 0) ∨ (g = 2 ∧ h = 0) ∨ (g = 3 ∧ h = 0) ∨ (g = 4 ∧ h = 0) ∨ (g = 4 ∧ h = 1) ∨ (g = 4 ∧ h = 2) ∨ (g = 4 ∧ h = 3) := by omega
  rcases hc with ⟨rfl, rfl⟩ | ⟨rfl, rfl⟩ | ⟨rfl, rfl⟩ | ⟨rfl, rfl⟩ | ⟨rfl, rfl⟩ | ⟨rfl, rfl⟩ | ⟨rfl, rfl⟩ | ⟨rfl, rfl⟩ <;> cases ask <;> cases bl <;> decide
theorem doorRunF_valid {g h : Int} (hv : doorV g h = true) (A B : List Int) : ∀ k, doorV (doorRunF (g, h) A B k).1 (doorRunF (g, h) A B k).2 = true := by
  intro k; induction k with
  | zero => exact hv
  | succ k ih => exact doorStep_valid ih _ _

/-- The floor at which a car stands, or -1. -/
def standF (L : List Int) (a v : Int) : Int := if v = 0 then floorAt L a else -1
def liftV (L : List Int) (a v g h : Int) : Bool := floorsV L && (motV a v && (doorV g h && (g == 0 || decide (0 ≤ standF L a v))))
structure Car where
  a : Int
  v : Int
  g : Int
  h : Int
def liftStep (L : List Int) (x : Car) (t : Int) (ask bl : Bool) : Car :=
  if liftV L x.a x.v x.g x.h && isFl L t then
    (if decide (0 < x.g) || (ask && decide (0 ≤ standF L x.a x.v)) then ⟨x.a, x.v, (doorStep x.g x.h ask bl).1, (doorStep x.g x.h ask bl).2⟩ else ⟨(stepM x.a x.v (nth L t.toNat)).1, (stepM x.a x.v (nth L t.toNat)).2, x.g, x.h⟩)
  else ⟨0, 0, 0, 0⟩
end Go.Proofs.Ythmjmlblnikmaaa.Pl
