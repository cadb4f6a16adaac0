/- The reader of the draws: what the walks are told of it, and the contracts of l20Open, pick and odd. No conditions but those that stand at each. -/
import Derived.Test.YthmjmlblnikmaaaSli
import Derived.Laws.BitsAllLaws
import Derived.Laws.BitsLemmas
import Derived.WalkLawsBesides
namespace Go.Proofs.Ythmjmlblnikmaaa
open Go.RowKit Pl

/-- The reader lies in block R: a slice of at most 2000 bytes of elder memory, and a place of at most q. -/
def Rd (w : World) (R q : Nat) : Prop :=
  ∃ (A : Option Addr) (m c p : Nat) (bs : List Int), w.cell? ⟨R, 0, none⟩ = some (.slice A m c) ∧ w.cell? ⟨R, 1, none⟩ = some (.int .i64 (p : Int)) ∧ w.frozen? ⟨R, 0, none⟩ = false ∧ w.frozen? ⟨R, 1, none⟩ = false ∧
    R < w.heap.size ∧ m ≤ 2000 ∧ p ≤ q ∧ (∀ j, 0 ≤ nth bs j ∧ nth bs j < 256) ∧ (0 < m → ∃ ad : Addr, A = some ad ∧ ad.block < R ∧ ∀ j, j < m → w.cell? (ad.add j) = some (.int .u8 (nth bs j)))
/-- What pick leaves: a number below n, and a reader one place on. -/
def Picked (w : World) (R q : Nat) (n : Int) (e : Ending) (w' : World) : Prop :=
  ∃ x : Int, 0 ≤ x ∧ (x < n ∨ x = 0) ∧ e = .returned (.int .i64 x) ∧ Rd w' R (q + 1) ∧ w.grownBy w' (some R)
theorem blk_add (a : Addr) (n : Nat) : (a.add n).block = a.block := by unfold Addr.add; split <;> rfl
theorem Rd.next {w : World} {R q : Nat} {A : Option Addr} {m c p : Nat} {bs : List Int} (r0 : w.cell? ⟨R, 0, none⟩ = some (.slice A m c)) (r1 : w.cell? ⟨R, 1, none⟩ = some (.int .i64 (p : Int))) (f0 : w.frozen? ⟨R, 0, none⟩ = false) (f1 : w.frozen? ⟨R, 1, none⟩ = false)
    (hlt : R < w.heap.size) (hm : m ≤ 2000) (hp : p ≤ q) (hb : ∀ j, 0 ≤ nth bs j ∧ nth bs j < 256) (hA : 0 < m → ∃ ad : Addr, A = some ad ∧ ad.block < R ∧ ∀ j, j < m → w.cell? (ad.add j) = some (.int .u8 (nth bs j))) (n : Nat) :
    Rd ((w.setCell ⟨R, 1, none⟩ (.int .i64 ((p : Int) + 1))).drewN n) R (q + 1) ∧ w.grownBy ((w.setCell ⟨R, 1, none⟩ (.int .i64 ((p : Int) + 1))).drewN n) (some R) := by
  refine ⟨⟨A, m, c, p + 1, bs, ?_, ?_, ?_, ?_, ?_, hm, by omega, hb, fun h0 => ?_⟩, ⟨rfl, rfl, rfl, by simp [World.setCell, World.drewN], fun k hk hne => ?_⟩⟩
  · exact (World.cell?_setCell_other _ _ _ _ (by simp)).trans r0
  · exact World.cell?_setCell_same _ _ _ r1
  · exact (frozen_setCell _ _ _ _).trans f0
  · exact (frozen_setCell _ _ _ _).trans f1
  · show R < ((w.setCell ⟨R, 1, none⟩ (.int .i64 ((p : Int) + 1)))).heap.size
    simpa [World.setCell] using hlt
  · obtain ⟨ad, e, hbl, hc⟩ := hA h0
    exact ⟨ad, e, hbl, fun j hj => (World.cell?_setCell_other _ _ _ _ (fun h => by have := congrArg Addr.block h; rw [blk_add] at this; simp at this; omega)).trans (hc j hj)⟩
  · exact Below.heap_setCell w ⟨R, 1, none⟩ _ k (fun h => hne (by rw [h]))
theorem ofInt_i64 (a : Nat) (ha : a < 9223372036854775808) : (BitVec.ofInt 64 (a : Int)).toNat = a := by
  rw [BitVec.ofInt_natCast, BitVec.toNat_ofNat]; exact Nat.mod_eq_of_lt (by omega)
theorem i64_xor_nat (a b : Nat) (ha : a < 9223372036854775808) (hb : b < 9223372036854775808) : bits .xor .i64 (a : Int) (b : Int) = ((a ^^^ b : Nat) : Int) := by
  have hx : a ^^^ b < 2 ^ 63 := Nat.xor_lt_two_pow (by omega) (by omega)
  show IntKind.i64.wrap ((BitVec.ofInt 64 (a : Int) ^^^ BitVec.ofInt 64 (b : Int)).toNat : Int) = _
  rw [BitVec.toNat_xor, ofInt_i64 a ha, ofInt_i64 b hb, IntKind.wrap_i64]
  omega
set_option maxHeartbeats 2000000 in
theorem c_pick (R q : Nat) (n : Int) (w : World) (hR : Rd w R q) (hq : q ≤ 1000000) (hn : n ≤ 1000) :
    Calls Try.prog 31 #[.pointer (some ⟨R, 0, none⟩), .int .i64 n] w (Picked w R q n) := by
  obtain ⟨A, m, c, p, bs, r0, r1, f0, f1, hlt, hm, hp, hb, hA⟩ := hR
  have HX := Lib.hid (Rd.next r0 r1 f0 f1 hlt hm hp hb hA)
  have HB := Lib.hid hb; clear hb
  by_cases h1 : n < 1
  · have HAA := Lib.hid hA; clear hA
    go_enter Try.func31, Try.ntmps31
    go_wp2
    go_ret
    exact ⟨0, by omega, .inr rfl, rfl, HX.out 0⟩
  · have d1 : decide (n < 1) = false := by simpa using h1
    by_cases h2 : m = 0
    · subst h2
      clear hA
      go_enter Try.func31, Try.ntmps31
      go_wp2
      go_ret
      exact ⟨0, by omega, .inr rfl, rfl, HX.out 0⟩
    · have e2 : ((m : Int) == 0) = false := by simp [h2]
      obtain ⟨ad, rfl, hbl, hc⟩ := hA (by omega)
      clear hA
      have hcs : ∀ j, j < m → ∀ v, (w.setCell ⟨R, 1, none⟩ v).cell? (ad.add j) = some (.int .u8 (nth bs j)) := fun j hj v =>
        (World.cell?_setCell_other _ _ _ _ (fun h => by have := congrArg Addr.block h; rw [blk_add] at this; simp at this; omega)).trans (hc j hj)
      clear hc
      by_cases h3 : p < m
      · have ck := hcs p h3
        obtain ⟨x, hx⟩ : ∃ x, nth bs p = x := ⟨_, rfl⟩
        have hxb := HB.out p
        rw [hx] at ck hxb
        obtain ⟨x1, x2⟩ := hxb
        clear hcs hx
        have i1 : (p : Int) < (m : Int) := by omega
        go_enter Try.func31, Try.ntmps31
        go_wp2
        go_ret
        exact ⟨x % n, Int.emod_nonneg _ (by omega), .inl (Int.emod_lt_of_pos _ (by omega)), rfl, HX.out 0⟩
      · obtain ⟨i, hi⟩ : ∃ i, p % m = i := ⟨_, rfl⟩
        obtain ⟨j, hj⟩ : ∃ j, (p * 7 + 3) % m = j := ⟨_, rfl⟩
        obtain ⟨d, hd⟩ : ∃ d, p / m = d := ⟨_, rfl⟩
        have i1 : i < m := by rw [← hi]; exact Nat.mod_lt _ (by omega)
        have j1 : j < m := by rw [← hj]; exact Nat.mod_lt _ (by omega)
        have d2 : d ≤ 1000000 := by rw [← hd]; exact Nat.le_trans (Nat.div_le_self _ _) (by omega)
        have ci := hcs i i1
        have cj := hcs j j1
        obtain ⟨x, hx⟩ : ∃ x, nth bs i = x := ⟨_, rfl⟩
        have hxb := HB.out i
        rw [hx] at ci hxb
        obtain ⟨x1, x2⟩ := hxb
        obtain ⟨y, hy⟩ : ∃ y, nth bs j = y := ⟨_, rfl⟩
        have hyb := HB.out j
        rw [hy] at cj hyb
        obtain ⟨y1, y2⟩ := hyb
        have t1 : Int.tmod (p : Int) (m : Int) = (i : Int) := by rw [← hi]; rfl
        have t2 : Int.tmod ((p : Int) * 7 + 3) (m : Int) = (j : Int) := by rw [← hj]; rfl
        have t3 : Int.tdiv (p : Int) (m : Int) = (d : Int) := by rw [← hd]; rfl
        have T1 := Lib.hid t1; clear t1
        have T2 := Lib.hid t2; clear t2
        have T3 := Lib.hid t3; clear t3
        clear hcs hx hy hi hj hd
        have i2 : (i : Int) < (m : Int) := by omega
        have j2 : (j : Int) < (m : Int) := by omega
        have nl : ¬ (p : Int) < (m : Int) := by omega
        go_enter Try.func31, Try.ntmps31
        go_wp2
        have t1 := T1.out
        have t2 := T2.out
        have t3 := T3.out
        have w0 : IntKind.i64.wrap x = x := IntWalk.i64_in _ (by omega)
        have w1 : IntKind.i64.wrap (x * 131) = x * 131 := IntWalk.i64_in _ (by omega)
        have w2 : IntKind.i64.wrap ((p : Int) * 7) = (p : Int) * 7 := IntWalk.i64_in _ (by omega)
        have w3 : IntKind.i64.wrap ((p : Int) * 7 + 3) = (p : Int) * 7 + 3 := IntWalk.i64_in _ (by omega)
        have w4 : IntKind.i64.wrap y = y := IntWalk.i64_in _ (by omega)
        have w5 : IntKind.i64.wrap (y * 1117) = y * 1117 := IntWalk.i64_in _ (by omega)
        have w6 : IntKind.i64.wrap (x * 131 + y * 1117) = x * 131 + y * 1117 := IntWalk.i64_in _ (by omega)
        have w7 : IntKind.i64.wrap ((p : Int) * 29) = (p : Int) * 29 := IntWalk.i64_in _ (by omega)
        have w8 : IntKind.i64.wrap (x * 131 + y * 1117 + (p : Int) * 29) = x * 131 + y * 1117 + (p : Int) * 29 := IntWalk.i64_in _ (by omega)
        have w9 : IntKind.i64.wrap ((d : Int) * 53) = (d : Int) * 53 := IntWalk.i64_in _ (by omega)
        have w10 : IntKind.i64.wrap (x * 131 + y * 1117 + (p : Int) * 29 + (d : Int) * 53) = x * 131 + y * 1117 + (p : Int) * 29 + (d : Int) * 53 := IntWalk.i64_in _ (by omega)
        go_quiet (fail)
        clear t1 t2 t3 w0 w1 w2 w3 w4 w5 w6 w7 w8 w9 w10
        obtain ⟨u, hu⟩ : ∃ u : Nat, x * 131 + y * 1117 + (p : Int) * 29 + (d : Int) * 53 = (u : Int) := ⟨(x * 131 + y * 1117 + (p : Int) * 29 + (d : Int) * 53).toNat, by omega⟩
        have u1 : u ≤ 1000000000 := by omega
        rw [hu]
        clear hu
        go_wp2
        go_ret
        have hxr : bits .xor .i64 (u : Int) ((u : Int) / 64) = ((u ^^^ (u / 64) : Nat) : Int) := by
          have h := i64_xor_nat u (u / 64) (by omega) (by omega)
          rw [show (((u / 64 : Nat)) : Int) = (u : Int) / 64 from by omega] at h
          exact h
        exact ⟨(bits .xor .i64 (u : Int) ((u : Int) / 64)).tmod n, by rw [hxr]; exact Int.tmod_nonneg _ (by omega), .inl (Int.tmod_lt_of_pos _ (by omega)), rfl, HX.out nq⟩
/-- A slice of bytes that came in. -/
def SrcB (w : World) (A : Option Addr) (m : Nat) (bs : List Int) : Prop :=
  (∀ j, 0 ≤ nth bs j ∧ nth bs j < 256) ∧ (0 < m → ∃ ad : Addr, A = some ad ∧ ad.block < w.heap.size ∧ ∀ j, j < m → w.cell? (ad.add j) = some (.int .u8 (nth bs j)))
/-- What l20Open leaves: a new reader at its beginning. -/
def Opened (w : World) (e : Ending) (w' : World) : Prop :=
  e = .returned (.pointer (some ⟨w.heap.size, 0, none⟩)) ∧ Rd w' w.heap.size 0 ∧ Below w.heap.size w w'
theorem rd_new {w : World} {A : Option Addr} {m c : Nat} {bs : List Int} {t : TypeId} (h : SrcB w A m bs) (hm : m ≤ 2000) : Rd (w.alloc (.cells #[.slice A m c, .int .i64 0] t)) w.heap.size 0 ∧ Below w.heap.size w (w.alloc (.cells #[.slice A m c, .int .i64 0] t)) := by
  have o := Own2.new w (.slice A m c) (.int .i64 0) t
  have B : Below w.heap.size w (w.alloc (.cells #[.slice A m c, .int .i64 0] t)) := (Below.refl _ _).alloc (Nat.le_refl _) _
  refine ⟨⟨A, m, c, 0, bs, o.c0, o.c1, o.f0, o.f1, o.lt, hm, Nat.le_refl _, h.1, fun h0 => ?_⟩, B⟩
  obtain ⟨ad, e, hbl, hc⟩ := h.2 h0
  exact ⟨ad, e, hbl, fun j hj => (B.cell (by rw [blk_add]; exact hbl)).trans (hc j hj)⟩
set_option maxHeartbeats 1000000 in
theorem c_open (A : Option Addr) (m c : Nat) (bs : List Int) (w : World) (hS : SrcB w A m bs) (hm : m ≤ 2097152) (hmc : m ≤ c) :
    Calls Try.prog 29 #[.slice A m c] w (Opened w) := by
  by_cases h1 : 2000 < m
  · have hS' : SrcB w A 2000 bs := ⟨hS.1, fun _ => by obtain ⟨ad, e, hb, hc⟩ := hS.2 (by omega); exact ⟨ad, e, hb, fun j hj => hc j (by omega)⟩⟩
    obtain ⟨ad, rfl, _, _⟩ := hS.2 (by omega)
    have i1 : (2000 : Int) ≤ (c : Int) := by omega
    go_enter Try.func29, Try.ntmps29
    go_wp2
    go_ret
    exact ⟨rfl, rd_new hS' (Nat.le_refl _)⟩
  · go_enter Try.func29, Try.ntmps29
    go_wp2
    go_ret
    exact ⟨rfl, rd_new hS (by omega)⟩
/-- What odd leaves. -/
def Odd (w : World) (R q : Nat) (e : Ending) (w' : World) : Prop :=
  ∃ b : Bool, e = .returned (.bool b) ∧ Rd w' R (q + 1) ∧ w.grownBy w' (some R)
set_option maxHeartbeats 1000000 in
theorem c_odd (R q : Nat) (n : Int) (w : World) (hR : Rd w R q) (hq : q ≤ 1000000) (h0 : 0 < n) (hn : n ≤ 1000) :
    Calls Try.prog 55 #[.pointer (some ⟨R, 0, none⟩), .int .i64 n] w (Odd w R q) := by
  go_enter Try.func55, Try.ntmps55
  go_wp2_with (go_at_call 31; refine (c_pick _ _ _ _ hR hq hn).mono ?_; rintro e w1 ⟨x, x1, x2, rfl, hr, hg⟩)
  go_ret
  exact ⟨_, rfl, hr, hg⟩
end Go.Proofs.Ythmjmlblnikmaaa
