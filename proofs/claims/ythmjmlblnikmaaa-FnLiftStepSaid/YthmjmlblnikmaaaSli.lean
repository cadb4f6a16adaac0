/- Slices of integers: what the walks are told of one, and contracts of the functions that read floors. No conditions but those that stand at each. -/
import Derived.Test.YthmjmlblnikmaaaLow
import Derived.Test.YthmjmlblnikmaaaMem
import Derived.Test.YthmjmlblnikmaaaPlainB
import Derived.IntWalk
import Derived.Deep.LoopGhost
import Derived.Outline
namespace Go.Proofs.Ythmjmlblnikmaaa
open Go.RowKit Pl

/-- A slice value that reads as a list of integers; nil and empty ones too. -/
def Sl (w : World) (A : Option Addr) (n : Nat) (L : List Int) : Prop :=
  L.length = n ∧ (0 < n → ∃ b o : Nat, A = some ⟨b, o, none⟩ ∧ b < w.heap.size ∧ ∀ j, j < n → w.cell? ⟨b, o + j, none⟩ = some (.int .i64 (nth L j)))
theorem Sl.call {w w1 : World} {A : Option Addr} {n : Nat} {L : List Int} (h : Sl w A n L) (hb : Below w.heap.size w w1) : Sl w1 A n L :=
  ⟨h.1, fun hn => by
    obtain ⟨b, o, e, hlt, hc⟩ := h.2 hn
    exact ⟨b, o, e, Nat.lt_of_lt_of_le hlt hb.size, fun j hj => (hb.cell (p := ⟨b, o + j, none⟩) hlt).trans (hc j hj)⟩⟩
theorem Sl.drewN {w : World} {A : Option Addr} {n : Nat} {L : List Int} (h : Sl w A n L) (k : Nat) : Sl (w.drewN k) A n L := h
theorem Sl.alloc {w : World} {A : Option Addr} {n : Nat} {L : List Int} (h : Sl w A n L) (o : Obj) : Sl (w.alloc o) A n L := h.call ((Below.refl _ _).alloc (Nat.le_refl _) o)
theorem Sl.nil (w : World) (A : Option Addr) : Sl w A 0 [] := ⟨rfl, fun h => absurd h (by omega)⟩
/-- Some draws, and nothing else. -/
def DN (w w' : World) : Prop := ∃ m, w' = w.drewN m
theorem DN.refl (w : World) : DN w w := ⟨0, rfl⟩
theorem DN.more {w w' : World} (h : DN w w') (n : Nat) : DN w (w'.drewN n) := by
  obtain ⟨m, rfl⟩ := h; exact ⟨_, World.drewN_drewN _ _ _⟩
theorem DN.trans {a b c : World} (h : DN a b) (k : DN b c) : DN a c := by
  obtain ⟨m, rfl⟩ := h; obtain ⟨n, rfl⟩ := k; exact ⟨_, World.drewN_drewN _ _ _⟩
theorem DN.cell {w w' : World} (h : DN w w') (p : Addr) : w'.cell? p = w.cell? p := by obtain ⟨m, rfl⟩ := h; rfl
theorem DN.below {w w' : World} (h : DN w w') : Below w.heap.size w w' := by obtain ⟨m, rfl⟩ := h; exact below_drewN (Below.refl _ _) _
theorem DN.sl {w w' : World} {A : Option Addr} {n : Nat} {L : List Int} (h : DN w w') (k : Sl w A n L) : Sl w' A n L := by obtain ⟨m, rfl⟩ := h; exact k
/-- What a function that only reads leaves: its result, and some draws. -/
def Quiet (w : World) (v : Value) (e : Ending) (w' : World) : Prop := e = .returned v ∧ DN w w'
theorem Quiet.below {w w' : World} {v : Value} {e : Ending} (h : Quiet w v e w') : e = .returned v ∧ Below w.heap.size w w' := ⟨h.1, h.2.below⟩
theorem quiet_of_quiet {P : Program} {f : FuncId} {args : Array Value} {w : World} {n : Nat} {v : Value}
    (h : Calls P f args (w.drewN n) (Quiet (w.drewN n) v)) : Calls P f args (w.drewN n) fun e w'' => e = .returned v ∧ ∃ m, w'' = w.drewN m :=
  h.mono fun _ _ ⟨he, m, hm⟩ => ⟨he, n + m, by rw [hm, World.drewN_drewN]⟩
theorem floorsV_short {L : List Int} (h : L.length < 1) : floorsV L = false := floorsV_no.2 fun hf => by have := hf.1; omega
theorem floorsV_long {L : List Int} (h : 8 < L.length) : floorsV L = false := floorsV_no.2 fun hf => by have := hf.2.1; omega
theorem floorsV_first {L : List Int} (h : nth L 0 ≠ 0) : floorsV L = false := floorsV_no.2 fun hf => h hf.2.2.1
theorem floorsV_drop {L : List Int} {j : Nat} (hj : j + 1 < L.length) (h : nth L (j + 1) ≤ nth L j) : floorsV L = false := floorsV_no.2 fun hf => by have := fv_lt hf (i := j) (j := j + 1) (by omega) hj; omega
theorem floorsV_last {L : List Int} {j : Nat} (hj : L.length = j + 1) (h8 : L.length ≤ 8) (h0 : nth L 0 = 0) (ha : Asc L (j + 1)) : floorsV L = decide (nth L j ≤ 60) := by
  rw [Bool.eq_iff_iff, floorsV_iff, decide_eq_true_eq]
  constructor
  · intro hf; exact (fv_bd hf (by omega)).2
  · intro hl; exact ⟨by omega, h8, h0, by rw [hj]; exact ha, by rw [hj]; exact hl⟩
theorem specOk_bad {L : List Int} {k : Nat} (hk : k < L.length) (h : inB (nth L k) 0 60 = false) : floorsV L = false := floorsV_no.2 fun hf => by
  have := inB_iff.2 (fv_bd hf hk); rw [h] at this; cases this
theorem specOk_snoc {L : List Int} {k : Nat} (h : SpecOk L k) (h1 : inB (nth L k) 0 60 = true) (h2 : 0 < k → nth L (k - 1) < nth L k) : SpecOk L (k + 1) := fun j hj => by
  by_cases e : j = k
  · subst e; exact ⟨inB_iff.1 h1, h2⟩
  · exact h j (by omega)
theorem c_l1In_at (n lo hi : Int) (b : Bool) (h : inB n lo hi = b) (w : World) :
    Calls Try.prog 36 #[.int .i64 n, .int .i64 lo, .int .i64 hi] w fun e w' => e = .returned (.bool b) ∧ w = w' := by
  have := c_l1In n lo hi w
  rw [h] at this; exact this
set_option maxHeartbeats 1000000 in
theorem c_fvI (A : Option Addr) (n c : Nat) (L : List Int) (w : World) (hS : Sl w A n L) (hn : n ≤ 2097152) :
    Calls Try.prog 43 #[.slice A n c] w (Quiet w (.bool (floorsV L))) := by
  obtain ⟨hl, hS⟩ := hS
  by_cases h1 : n < 1
  · have hz := floorsV_short (L := L) (by omega)
    have HZ := Lib.hid hz; clear hz
    have HL := Lib.hid hl; clear hl hS
    go_enter Try.func43, Try.ntmps43
    go_wp2
    go_ret
    exact ⟨ret_bool (by rw [HZ.out]), DN.refl _⟩
  · by_cases h2 : 8 < n
    · have hz := floorsV_long (L := L) (by omega)
      have HZ := Lib.hid hz; clear hz
      have HL := Lib.hid hl; clear hl hS
      go_enter Try.func43, Try.ntmps43
      go_wp2
      go_ret
      exact ⟨ret_bool (by rw [HZ.out]), DN.refl _⟩
    · obtain ⟨b, o, rfl, hlt, hc⟩ := hS (by omega)
      have c0 := hc 0 (by omega)
      rw [Nat.add_zero] at c0
      have d1 : decide ((n : Int) < 1) = false := by simp; omega
      have d2 : decide ((8 : Int) < (n : Int)) = false := by simp; omega
      by_cases h0 : nth L 0 = 0
      · have e0 : (nth L 0 != 0) = false := by simp [h0]
        have H0 := Lib.hid h0; clear h0
        have HL := Lib.hid hl; clear hl
        have HC := Lib.hid hc; clear hc
        go_enter Try.func43, Try.ntmps43
        go_wp2
        clear c0 e0
        go_loopw [3] (fun s3 wr => ∃ j : Nat, j + 1 ≤ n ∧ s3 = .int .i64 ((j : Int) + 1) ∧ DN w wr ∧ Asc L (j + 1)) (fun s3 _ => n - (intOf s3).toNat)
        case atStart => exact ⟨0, by omega, by simp, DN.refl _, fun i hi => by omega⟩
        case round =>
          obtain ⟨j, hj, rfl, hdn, ha⟩ := hrel
          have HA := Lib.hid ha; clear ha
          by_cases hk : j + 1 < n
          · have ck : wr.cell? ⟨b, o + (j + 1), none⟩ = some (.int .i64 (nth L (j + 1))) := (hdn.cell _).trans (HC.out _ hk)
            have cj : wr.cell? ⟨b, o + j, none⟩ = some (.int .i64 (nth L j)) := (hdn.cell _).trans (HC.out _ (by omega))
            have i1 : (j : Int) + 1 < (n : Int) := by omega
            have i2 : (j : Int) < (n : Int) := by omega
            by_cases hd : nth L (j + 1) ≤ nth L j
            · have hz := floorsV_drop (L := L) (j := j) (by have := HL.out; omega) hd
              have HZ := Lib.hid hz; clear hz
              go_wp2
              have p1 : (0 : Int) ≤ (j : Int) + 1 := by omega
              have p2 : ((j : Int) + 1).toNat = j + 1 := by omega
              have p3 : IntKind.i64.wrap ((j : Int) + 1 - 1) = (j : Int) := by rw [IntWalk.i64_in _ (by omega)]; omega
              go_quiet (fail)
              clear p1 p2 p3
              go_wp2
              go_ret
              exact ⟨ret_bool (by rw [HZ.out]), hdn.more _⟩
            · go_wp2
              have p1 : (0 : Int) ≤ (j : Int) + 1 := by omega
              have p2 : ((j : Int) + 1).toNat = j + 1 := by omega
              have p3 : IntKind.i64.wrap ((j : Int) + 1 - 1) = (j : Int) := by rw [IntWalk.i64_in _ (by omega)]; omega
              go_quiet (fail)
              clear p1 p2 p3
              go_wp2
              go_roundw
              case rel => exact ⟨j + 1, by omega, by go_num, hdn.more _, fun i hi => by
                by_cases e : i = j
                · subst e; omega
                · exact HA.out i (by omega)⟩
              case measure => simp [intOf]; omega
          · obtain rfl : n = j + 1 := by omega
            have cj : wr.cell? ⟨b, o + j, none⟩ = some (.int .i64 (nth L j)) := (hdn.cell _).trans (HC.out _ (by omega))
            have hz := floorsV_last (L := L) (j := j) HL.out (by have := HL.out; omega) H0.out HA.out
            have HZ := Lib.hid hz; clear hz
            go_wp2
            go_ret
            exact ⟨ret_bool (by rw [HZ.out]), hdn⟩
      · have e0 : (nth L 0 != 0) = true := by simp [h0]
        have hz := floorsV_first (L := L) h0
        have HZ := Lib.hid hz; clear hz
        have HL := Lib.hid hl; clear hl
        have HC := Lib.hid hc; clear hc
        clear h0
        go_enter Try.func43, Try.ntmps43
        go_wp2
        go_ret
        exact ⟨ret_bool (by rw [HZ.out]), DN.refl _⟩
set_option maxHeartbeats 1000000 in
theorem c_fvS (A : Option Addr) (n c : Nat) (L : List Int) (w : World) (hS : Sl w A n L) (hn : n ≤ 2097152) :
    Calls Try.prog 40 #[.slice A n c] w (Quiet w (.bool (floorsV L))) := by
  obtain ⟨hl, hS⟩ := hS
  have HL := Lib.hid hl; clear hl
  have HS := Lib.hid hS; clear hS
  go_enter Try.func40, Try.ntmps40
  go_wp2
  go_loopw [3] (fun s3 wr => ∃ k : Nat, k ≤ n ∧ s3 = .int .i64 (k : Int) ∧ DN w wr ∧ SpecOk L k) (fun s3 _ => n - (intOf s3).toNat)
  case atStart => exact ⟨0, by omega, rfl, DN.refl _, fun i hi => by omega⟩
  case round =>
    obtain ⟨k, hk, rfl, hdn, ha⟩ := hrel
    have HA := Lib.hid ha; clear ha
    by_cases hlt : k < n
    · obtain ⟨b, o, rfl, hbl, hc⟩ := HS.out (by omega)
      have ck : wr.cell? ⟨b, o + k, none⟩ = some (.int .i64 (nth L k)) := (hdn.cell _).trans (hc _ hlt)
      have i1 : (k : Int) < (n : Int) := by omega
      rcases hi : inB (nth L k) 0 60
      · have hz := specOk_bad (L := L) (k := k) (by have := HL.out; omega) hi
        have HZ := Lib.hid hz; clear hz
        have HI := Lib.hid hi; clear hi hc
        go_wp2
        go_quiet ((go_at_call 36; exact quiet_left (c_l1In_at _ _ _ false HI.out _)))
        go_wp2
        go_ret
        exact ⟨ret_bool (by rw [HZ.out]), hdn.more _⟩
      · have HI := Lib.hid hi; clear hi
        by_cases hk0 : k = 0
        · subst hk0
          clear hc
          rw [Nat.add_zero] at ck
          go_wp2
          go_quiet ((go_at_call 36; exact quiet_left (c_l1In_at _ _ _ true HI.out _)))
          go_wp2
          go_roundw
          case rel => exact ⟨1, by omega, by go_num, hdn.more _, specOk_snoc HA.out HI.out (fun h => by omega)⟩
          case measure => simp [intOf]; omega
        · obtain ⟨j, rfl⟩ : ∃ j, k = j + 1 := ⟨k - 1, by omega⟩
          have cj : wr.cell? ⟨b, o + j, none⟩ = some (.int .i64 (nth L j)) := (hdn.cell _).trans (hc _ (by omega))
          have i2 : (j : Int) < (n : Int) := by omega
          have i3 : (j : Int) + 1 < (n : Int) := by omega
          have d0 : decide ((0 : Int) < (j : Int) + 1) = true := decide_eq_true (by omega)
          clear hc
          by_cases hd : nth L (j + 1) ≤ nth L j
          · have hz := floorsV_drop (L := L) (j := j) (by have := HL.out; omega) hd
            have HZ := Lib.hid hz; clear hz
            go_wp2
            have p1 : (0 : Int) ≤ (j : Int) + 1 := by omega
            have p2 : ((j : Int) + 1).toNat = j + 1 := by omega
            have p3 : IntKind.i64.wrap ((j : Int) + 1 - 1) = (j : Int) := by rw [IntWalk.i64_in _ (by omega)]; omega
            go_quiet ((go_at_call 36; exact quiet_left (c_l1In_at _ _ _ true HI.out _)))
            clear p1 p2 p3
            go_wp2
            go_ret
            exact ⟨ret_bool (by rw [HZ.out]), hdn.more _⟩
          · go_wp2
            have p1 : (0 : Int) ≤ (j : Int) + 1 := by omega
            have p2 : ((j : Int) + 1).toNat = j + 1 := by omega
            have p3 : IntKind.i64.wrap ((j : Int) + 1 - 1) = (j : Int) := by rw [IntWalk.i64_in _ (by omega)]; omega
            go_quiet ((go_at_call 36; exact quiet_left (c_l1In_at _ _ _ true HI.out _)))
            clear p1 p2 p3
            go_wp2
            go_roundw
            case rel => exact ⟨j + 1 + 1, by omega, by go_num, hdn.more _, specOk_snoc HA.out HI.out (fun _ => by simp; omega)⟩
            case measure => simp [intOf]; omega
    · obtain rfl : n = k := by omega
      have hz := floorsV_spec (L := L) (by rw [HL.out]; exact HA.out)
      rw [HL.out] at hz
      have HZ := Lib.hid hz; clear hz
      rcases hi : inB (n : Int) 1 8
      · have HI := Lib.hid hi; clear hi
        go_wp2_with (go_at_call 36; refine (c_l1In_at _ _ _ false HI.out _).mono ?_; rintro e w' ⟨rfl, rfl⟩)
        go_ret
        exact ⟨ret_bool (by rw [HZ.out, HI.out]; rfl), hdn⟩
      · have hpos := (inB_iff.1 hi).1
        obtain ⟨b, o, rfl, hbl, hc⟩ := HS.out (by omega)
        have c0 := hc 0 (by omega)
        rw [Nat.add_zero, ← hdn.cell] at c0
        have HI := Lib.hid hi; clear hi hc
        go_wp2_with (go_at_call 36; refine (c_l1In_at _ _ _ true HI.out _).mono ?_; rintro e w' ⟨rfl, rfl⟩)
        go_ret
        exact ⟨ret_bool (by rw [HZ.out, HI.out]; rfl), hdn⟩
end Go.Proofs.Ythmjmlblnikmaaa
