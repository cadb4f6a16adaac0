/- Contract of the function that draws floors and a car: the reader goes on, and nothing else of what was there is changed. No conditions but those that stand at each. -/
import Derived.Test.YthmjmlblnikmaaaDra
import Derived.Test.YthmjmlblnikmaaaDrG
import Derived.Test.YthmjmlblnikmaaaLif
import Derived.Deep.RegionWith
import Derived.Deep.RegionHeld3
import Derived.Deep.Cut
import Derived.IntWalk
namespace Go.Proofs.Ythmjmlblnikmaaa
open Go.RowKit Go.Joins Pl
theorem Own4.read {w w' : World} {b R : Nat} {x y z u : Value} (h : Own4 w b x y z u) (hg : w.grownBy w' (some R)) (hn : b ≠ R) : Own4 w' b x y z u := by
  have e := hg.block b h.lt (by intro e; exact hn (Option.some.inj e))
  exact ⟨(World.cell?_of_block e).trans h.c0, (World.cell?_of_block e).trans h.c1, (World.cell?_of_block e).trans h.c2, (World.cell?_of_block e).trans h.c3, (World.frozen?_of_block e).trans h.f0, (World.frozen?_of_block e).trans h.f1, (World.frozen?_of_block e).trans h.f2, (World.frozen?_of_block e).trans h.f3, Nat.lt_of_lt_of_le h.lt hg.size⟩
theorem Own4.drew {w : World} {b : Nat} {x y z u : Value} (h : Own4 w b x y z u) : Own4 w.drew b x y z u := ⟨h.c0, h.c1, h.c2, h.c3, h.f0, h.f1, h.f2, h.f3, h.lt⟩
theorem own4D {w : World} {b : Nat} {x y z u : Value} (h : Own4 w b x y z u) : (w.cell? ⟨b, 0, none⟩ = some x ∧ w.cell? ⟨b, 1, none⟩ = some y) ∧ (w.cell? ⟨b, 2, none⟩ = some z ∧ w.cell? ⟨b, 3, none⟩ = some u) := ⟨⟨h.c0, h.c1⟩, h.c2, h.c3⟩
theorem SlR.drew {w : World} {R : Nat} {A : Option Addr} {n : Nat} {L : List Int} (h : SlR w R A n L) : SlR w.drew R A n L := h
theorem SlR.allocd {w : World} {R : Nat} {A : Option Addr} {n : Nat} {L : List Int} (h : SlR w R A n L) (o : Obj) : SlR (w.alloc o) R A n L := h.call ((Below.refl _ _).alloc (Nat.le_refl _) o)
theorem SlR.less {w : World} {R R' : Nat} {A : Option Addr} {n : Nat} {L : List Int} (h : SlR w R A n L) (hr : R' ≤ R) : SlR w R' A n L :=
  ⟨h.1, fun hn => by obtain ⟨b, o, e, hR, hlt, hc⟩ := h.2 hn; exact ⟨b, o, e, by omega, hlt, hc⟩⟩
/-- A slice whose block lies behind S and ahead of X. -/
def SlA (w : World) (S X : Nat) (A : Option Addr) (n : Nat) (L : List Int) : Prop :=
  L.length = n ∧ (0 < n → ∃ b o : Nat, A = some ⟨b, o, none⟩ ∧ S < b ∧ b < X ∧ b < w.heap.size ∧ ∀ j, j < n → w.cell? ⟨b, o + j, none⟩ = some (.int .i64 (nth L j)))
theorem SlA.slR {w : World} {S X : Nat} {A : Option Addr} {n : Nat} {L : List Int} (h : SlA w S X A n L) : SlR w S A n L :=
  ⟨h.1, fun hn => by obtain ⟨b, o, e, hR, _, hlt, hc⟩ := h.2 hn; exact ⟨b, o, e, hR, hlt, hc⟩⟩
theorem SlA.of {w : World} {S : Nat} {A : Option Addr} {n : Nat} {L : List Int} (h : SlR w S A n L) : SlA w S w.heap.size A n L :=
  ⟨h.1, fun hn => by obtain ⟨b, o, e, hR, hlt, hc⟩ := h.2 hn; exact ⟨b, o, e, hR, hlt, hlt, hc⟩⟩
theorem SlA.read {w w' : World} {R S X : Nat} {A : Option Addr} {n : Nat} {L : List Int} (h : SlA w S X A n L) (hRS : R ≤ S) (hg : w.grownBy w' (some R)) : SlA w' S X A n L :=
  ⟨h.1, fun hn => by
    obtain ⟨b, o, e, hR, hX, hlt, hc⟩ := h.2 hn
    exact ⟨b, o, e, hR, hX, Nat.lt_of_lt_of_le hlt hg.size, fun j hj => (World.cell?_of_block (hg.block b hlt (by intro e; have := Option.some.inj e; omega))).trans (hc j hj)⟩⟩
theorem SlA.call {w w' : World} {S X : Nat} {A : Option Addr} {n : Nat} {L : List Int} (h : SlA w S X A n L) (hb : Below w.heap.size w w') : SlA w' S X A n L :=
  ⟨h.1, fun hn => by
    obtain ⟨b, o, e, hR, hX, hlt, hc⟩ := h.2 hn
    exact ⟨b, o, e, hR, hX, Nat.lt_of_lt_of_le hlt hb.size, fun j hj => (hb.cell (p := ⟨b, o + j, none⟩) hlt).trans (hc j hj)⟩⟩
theorem SlA.alloc {w : World} {S X : Nat} {A : Option Addr} {n : Nat} {L : List Int} (h : SlA w S X A n L) (o : Obj) : SlA (w.alloc o) S X A n L := h.call ((Below.refl _ _).alloc (Nat.le_refl _) o)
theorem SlA.drew {w : World} {S X : Nat} {A : Option Addr} {n : Nat} {L : List Int} (h : SlA w S X A n L) : SlA w.drew S X A n L := h
/-- A store behind it, or ahead of it, leaves it. -/
theorem SlA.put {w : World} {S X : Nat} {A : Option Addr} {n : Nat} {L : List Int} (h : SlA w S X A n L) {p : Addr} (hp : p.block ≤ S ∨ X ≤ p.block) (v : Value) : SlA (w.setCell p v) S X A n L :=
  ⟨h.1, fun hn => by
    obtain ⟨b, o, e, hR, hX, hlt, hc⟩ := h.2 hn
    exact ⟨b, o, e, hR, hX, by simpa [World.setCell] using hlt, fun j hj => (World.cell?_setCell_other _ _ _ _ (fun h => by have := congrArg Addr.block h; simp at this; omega)).trans (hc j hj)⟩⟩
theorem sla_cell {w : World} {S X b o n : Nat} {L : List Int} (h : SlA w S X (some ⟨b, o, none⟩) n L) {k : Nat} (hk : k < n) : w.cell? ⟨b, o + k, none⟩ = some (.int .i64 (nth L k)) := by
  obtain ⟨b', o', e, _, _, _, hc⟩ := h.2 (by omega)
  cases e
  exact hc k hk
/-- Floors and a car were drawn. -/
def DrawnX (w : World) (R q : Nat) (e : Ending) (w' : World) : Prop :=
  ∃ (A : Option Addr) (n c : Nat) (L : List Int) (a v g h : Int), n ≤ 9 ∧ n ≤ c ∧ SlR w' w.heap.size A n L ∧ e = .returned (.tuple #[.slice A n c, .agg #[.int .i64 a, .int .i64 v, .int .i64 g, .int .i64 h]]) ∧ Rd w' R q ∧ w.grownBy w' (some R)
/-- Between the statements: the car in its box, the result's box, the floors, the reader. -/
def MidL (w : World) (R q X : Nat) (A : Option Addr) (n : Nat) (L : List Int) (b : Nat) (wx : World) : Prop :=
  ∃ a v g h : Int, Own4 wx b (.int .i64 a) (.int .i64 v) (.int .i64 g) (.int .i64 h) ∧ Own4 wx w.heap.size (.int .i64 0) (.int .i64 0) (.int .i64 0) (.int .i64 0) ∧ SlA wx w.heap.size X A n L ∧ Rd wx R q ∧ Gr R w.heap.size w wx
theorem MidL.more {w : World} {R q q' X : Nat} {A : Option Addr} {n : Nat} {L : List Int} {b : Nat} {wx : World} (h : MidL w R q X A n L b wx) (hq : q ≤ q') : MidL w R q' X A n L b wx := by
  obtain ⟨a, v, g, h, h1, h2, h3, h4, h5⟩ := h
  exact ⟨a, v, g, h, h1, h2, h3, h4.mono hq, h5⟩
theorem MidL.read {w : World} {R q q' X : Nat} {A : Option Addr} {n : Nat} {L : List Int} {b : Nat} {wx wy : World} (h : MidL w R q X A n L b wx) (hR : R < w.heap.size) (hb : w.heap.size < b) (hg : wx.grownBy wy (some R)) (RD : Rd wy R q') : MidL w R q' X A n L b wy := by
  obtain ⟨a, v, g, h, h1, h2, h3, h4, h5⟩ := h
  exact ⟨a, v, g, h, h1.read hg (by omega), h2.read hg (by omega), h3.read (by omega) hg, RD, h5.read h5.size hg⟩
/-- Whether there are floors, and a car shall stand at one of them. -/
def PickX (n : Nat) (u : Value) : Prop := ∃ b : Bool, u = .bool b ∧ (b = true → 0 < n)
set_option maxHeartbeats 8000000 in
theorem c_l20Lift (R q : Nat) (n : Int) (w : World) (hR : Rd w R q) (hq : q ≤ 900) (h0 : 0 < n) (hn : n ≤ 100) :
    Calls Try.prog 30 #[.pointer (some ⟨R, 0, none⟩), .int .i64 n] w (DrawnX w R (q + 60)) := by
  have RL := hR.lt
  go_enter Try.func30, Try.ntmps30
  go_wp2_with fail
  refine (c_l20FloorsS _ _ _ _ w.heap.size (by simp) (hR.alloc _) (by omega) (by omega) (by omega)).mono ?_
  rintro e w2 ⟨A1, n1, cp1, L1, hn1, rfl, hc1, s2, hL1, RD2, hg2⟩
  have G2 := ((Gr.refl R w.heap.size w).alloc (Nat.le_refl _) _).read (by simp) hg2
  have ro2 := (Own4.new _ _ _ _ _ _).read hg2 (by omega)
  have sl2 := SlA.of s2
  have l2 := ro2.lt
  clear hL1 hg2 s2
  go_wp2_with fail
  refine (c_l20Motion _ _ _ _ RD2 (by omega) (by omega) (by omega)).mono ?_
  rintro e w3 ⟨a, v, ha, hv, rfl, RD3, hg3⟩
  have G3 := G2.read G2.size hg3
  have ro3 := ro2.read hg3 (by omega)
  have sl3 := sl2.read (by omega) hg3
  have l3 := ro3.lt
  have l23 : w2.heap.size ≤ w3.heap.size := hg3.size
  have M0 : MidL w R (q + 30) w2.heap.size A1 n1 L1 w3.heap.size (w3.alloc (.cells #[.int .i64 a, .int .i64 v, .int .i64 0, .int .i64 0] 29)) :=
    ⟨a, v, 0, 0, Own4.new _ _ _ _ _ _, ro3.alloc _, sl3.alloc _, (RD3.alloc _).mono (by omega), G3.alloc G3.size _⟩
  clear ha hv hg3 RD3 G3 ro3 sl3 RD2 G2 ro2 sl2 hR
  go_upto_region 3 with fail
  go_cut [24] from 8 (fun u wx => PickX n1 u ∧ MidL w R (q + 31) w2.heap.size A1 n1 L1 w3.heap.size wx)
  case first =>
    by_cases hz : n1 = 0
    · subst hz
      go_wp2_with fail
      go_meet
      case rel => exact ⟨⟨false, rfl, fun h => by cases h⟩, M0.more (by omega)⟩
    · have i0 : (0 : Int) < (n1 : Int) := by omega
      have i0' : 0 < n1 := by omega
      have RDN : Rd _ R (q + 30) := M0.choose_spec.choose_spec.choose_spec.choose_spec.2.2.2.1
      go_wp2_with fail
      refine (c_pick _ _ _ _ RDN (by omega) (by omega)).mono ?_
      rintro e w4 ⟨y, y1, y2, rfl, RD4, hg4⟩
      have M4 := M0.read RL (by omega) hg4 RD4
      clear hg4 RD4 y1 y2 RDN
      go_wp2_with fail
      go_meet
      case rel => exact ⟨⟨_, rfl, fun _ => i0'⟩, M4.more (by omega)⟩
  case rest =>
    clear M0
    obtain ⟨⟨b, rfl, hbn⟩, M1⟩ := hcut
    go_upto_if 24 with fail
    go_cut [] from 8 (fun wx => MidL w R (q + 50) w2.heap.size A1 n1 L1 w3.heap.size wx)
    case first =>
      rcases b
      · go_wp2_with fail
        go_meet
        case rel => exact M1.more (by omega)
      · have i0' := hbn rfl
        have i0 : (0 : Int) < (n1 : Int) := by omega
        obtain ⟨a4, v4, d4, e4, xo4, ro4, sl4, RD4, G4⟩ := M1
        have slD := sl4.drew
        obtain ⟨bb, oo, hA, hb1, hb2, hb3, hcc⟩ := slD.2 i0'
        subst hA
        clear hcc hbn hb1 hb2 hb3
        have hw4 : IntKind.i64.wrap (4 * n) = 4 * n := IntWalk.i64_in _ (by omega)
        go_wp2_with fail
        go_region_with (first
          | (go_at_call 31; refine (c_pick _ _ _ _ RD4.drew (by omega) (by omega)).mono ?_; rintro e w5 ⟨s, s1, s2, rfl, RD5, hg5⟩; have G5 := G4.drew.read G4.size hg5; have ro5 := ro4.drew.read hg5 (by omega); have xo5 := xo4.drew.read hg5 (by omega); have sl5 := slD.read (by omega) hg5; obtain ⟨k, rfl⟩ : ∃ k : Nat, s = (k : Int) := ⟨s.toNat, (by omega)⟩; have k1 : k < n1 := (by omega); have k2 : (k : Int) < (n1 : Int) := (by omega); have hck5 : w5.cell? ⟨bb, oo + k, none⟩ = some (.int .i64 (nth L1 k)) := sla_cell sl5 k1; have lb5 : w3.heap.size < w5.heap.size := xo5.lt; clear hg5 s2)
          | (go_at_call 54; refine (c_l20Door _ _ _ _ RD5 (by omega) (by omega) (by omega)).mono ?_; rintro e w6 ⟨dg, dh, hdg, hdh, rfl, RD6, hg6⟩; have G6 := G5.read G5.size hg6; have ro6 := ro5.read hg6 (by omega); have xo6 := xo5.read hg6 (by omega); have sl6 := sl5.read (by omega) hg6; have hck6 : w6.cell? ⟨bb, oo + k, none⟩ = some (.int .i64 (nth L1 k)) := sla_cell sl6 k1; have c0 := xo6.c0; have c1 := xo6.c1; have c2 := xo6.c2; have c3 := xo6.c3; have f0 := xo6.f0; have f1 := xo6.f1; have f2 := xo6.f2; have f3 := xo6.f3; have lb6 : w3.heap.size < w6.heap.size := xo6.lt; clear hg6 hdg hdh))
        all_goals
          go_wp2_with fail
          go_meet
          case rel =>
            refine ⟨_, _, _, _, (((xo6.set0 _).set1 _).set2 _).set3 _, ?_, ?_, ?_, ?_⟩
            · (repeat (first | (with_reducible exact ro6) | refine Own4.far ?_ (by first | (simp; done) | (simp; omega)) _))
            · (repeat (first | (with_reducible exact sl6) | refine SlA.put ?_ (.inr (by simp; omega)) _))
            · (repeat (first | (with_reducible exact RD6.mono (by omega)) | refine Rd.set ?_ (by first | (simp; done) | (simp; omega)) _))
            · (repeat (first | (with_reducible exact G6) | refine Gr.set ?_ (by first | (simp; done) | (simp; omega)) _))
    case rest =>
      clear M1 hbn
      obtain ⟨a7, v7, d7, e7, xo7, ro7, sl7, RD7, G7⟩ := hcut
      go_wp2_with fail
      refine (c_odd _ _ _ _ RD7 (by omega) (by omega) (by omega)).mono ?_
      rintro e w8 ⟨b, rfl, RD8, hg8⟩
      have G8 := G7.read G7.size hg8
      have ro8 := ro7.read hg8 (by omega)
      have xo8 := xo7.read hg8 (by omega)
      have sl8 := sl7.read (by omega) hg8
      clear hg8 G7 ro7 xo7 sl7 RD7
      go_upto_if 41 with fail
      go_cut [] from 8 (fun wx => MidL w R (q + 51) w2.heap.size A1 n1 L1 w3.heap.size wx)
      case first =>
        have c0 := xo8.c0
        have c1 := xo8.c1
        have c2 := xo8.c2
        have c3 := xo8.c3
        have f0 := xo8.f0
        have f1 := xo8.f1
        have f2 := xo8.f2
        have f3 := xo8.f3
        rcases b
        · go_wp2_with fail
          go_meet
          case rel => exact ⟨_, _, _, _, xo8, ro8, sl8, RD8, G8⟩
        · go_wp2_with fail
          go_meet
          case rel =>
            refine ⟨_, _, _, _, (xo8.set2 _).set1 _, ?_, ?_, ?_, ?_⟩
            · (repeat (first | (with_reducible exact ro8) | refine Own4.far ?_ (by first | (simp; done) | (simp; omega)) _))
            · (repeat (first | (with_reducible exact sl8) | refine SlA.put ?_ (.inr (by simp; omega)) _))
            · (repeat (first | (with_reducible exact RD8) | refine Rd.set ?_ (by first | (simp; done) | (simp; omega)) _))
            · (repeat (first | (with_reducible exact G8) | refine Gr.set ?_ (by first | (simp; done) | (simp; omega)) _))
      case rest =>
        clear RD8 G8 ro8 xo8 sl8
        obtain ⟨a9, v9, d9, e9, xo9, ro9, sl9, RD9, G9⟩ := hcut
        have r0 := ro9.c0
        have r1 := ro9.c1
        have r2 := ro9.c2
        have r3 := ro9.c3
        have g0 := ro9.f0
        have g1 := ro9.f1
        have g2 := ro9.f2
        have g3 := ro9.f3
        have xoD := xo9.drew
        go_wp2_with fail
        go_region_held3 (fun w' => (w'.cell? ⟨w3.heap.size, 0, none⟩ = some (.int .i64 a9) ∧ w'.cell? ⟨w3.heap.size, 1, none⟩ = some (.int .i64 v9)) ∧ (w'.cell? ⟨w3.heap.size, 2, none⟩ = some (.int .i64 d9) ∧ w'.cell? ⟨w3.heap.size, 3, none⟩ = some (.int .i64 e9)))
          (first | exact own4D xoD | exact own4D xo9 | exact own4D (by (repeat (first | (with_reducible exact xo9) | (with_reducible refine Own4.drew ?_) | (with_reducible refine Own4.far ?_ (by first | (simp; done) | (simp; omega)) _)))) | go_keep)
          (fail)
        all_goals
          go_wp2
          refine bodyPost_ret (v := .tuple #[.slice A1 n1 cp1, .agg #[.int .i64 a9, .int .i64 v9, .int .i64 d9, .int .i64 e9]]) (by simp [results, Try.results30, go_sem, r0, r1, r2, r3]) rfl ⟨A1, n1, cp1, L1, a9, v9, d9, e9, hn1, hc1, ?_, rfl, ?_, ?_⟩
          · refine SlA.slR (X := w2.heap.size) ?_
            (repeat (first | (with_reducible exact sl9) | refine SlA.put ?_ (.inl (by simp)) _ | refine SlA.drew ?_))
          · (repeat (first | (with_reducible exact RD9.mono (by omega)) | refine Rd.set ?_ (by first | (simp; done) | (simp; omega)) _ | refine Rd.drew ?_))
          · refine Gr.grown ?_
            (repeat (first | (with_reducible exact G9) | refine Gr.set ?_ (by first | (simp; done) | (simp; omega)) _ | refine Gr.drew ?_))
end Go.Proofs.Ythmjmlblnikmaaa
