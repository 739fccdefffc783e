/- The lowest form: l2Low, DyadicOf, of the program and of the reference. -/
import Derived.Test.YtgpocbhlcmohmaaGreatDoorDyadic
import Derived.Test.YtgpocbhlcmohmaaGreatDoorRingTurn
namespace Go.Proofs.YtgpocbhlcmohmaaGreatDoor
open Go.RowKit

def evenQ (x : Q4) : Bool := evenB x.1 x.2.1 x.2.2.1 x.2.2.2
def halfQ (x : Q4) : Q4 := ((x.2.1 - x.2.2.2).tdiv 2, (x.1 + x.2.2.1).tdiv 2, (x.2.1 + x.2.2.2).tdiv 2, (x.2.2.1 - x.1).tdiv 2)
/-- divides by the square root of 2 as long as it goes, at most e times -/
def lowN : Nat → Q4 → Q4 × Nat
  | 0, x => (x, 0)
  | e + 1, x => if evenQ x then lowN e (halfQ x) else (x, e + 1)
theorem lowN_even {e : Nat} {x : Q4} (h0 : 0 < e) (h : evenQ x = true) : lowN e x = lowN (e - 1) (halfQ x) := by
  match e, h0 with
  | e + 1, _ => simp [lowN, h]
theorem lowN_stop {e : Nat} {x : Q4} (h : e = 0 ∨ evenQ x = false) : lowN e x = (x, e) := by
  match e, h with
  | 0, _ => rfl
  | e + 1, .inl h => cases h
  | e + 1, .inr h => simp [lowN, h]
theorem halfQ_ok {x : Q4} (h : okQ x = true) : okQ (halfQ x) = true := half_ok h
theorem lowN_ok : ∀ (e : Nat) (x : Q4), okQ x = true → okQ (lowN e x).1 = true
  | 0, _, h => h
  | e + 1, x, h => by
    unfold lowN
    split
    · exact lowN_ok e _ (halfQ_ok h)
    · exact h
theorem lowN_le : ∀ (e : Nat) (x : Q4), (lowN e x).2 ≤ e
  | 0, _ => Nat.le_refl _
  | e + 1, x => by
    unfold lowN
    split
    · exact Nat.le_trans (lowN_le e _) (Nat.le_succ _)
    · exact Nat.le_refl _

abbrev dvL (L : Q4 × Nat) : Value := dv L.1.1 L.1.2.1 L.1.2.2.1 L.1.2.2.2 (L.2 : Int)
/-- block g is five zeros -/
def Zero5 (w : World) (g : Nat) : Prop := w.heap[g]? = some (.cells #[.int .i64 0, .int .i64 0, .int .i64 0, .int .i64 0, .int .i64 0] 31 (0, 0))
theorem Zero5.cell {w : World} {g : Nat} (h : Zero5 w g) : w.cell? ⟨g, 0, none⟩ = some (.int .i64 0) ∧ w.cell? ⟨g, 1, none⟩ = some (.int .i64 0) ∧ w.cell? ⟨g, 2, none⟩ = some (.int .i64 0) ∧ w.cell? ⟨g, 3, none⟩ = some (.int .i64 0) ∧ w.cell? ⟨g, 4, none⟩ = some (.int .i64 0) :=
  ⟨cell_of_row w g 0 _ _ _ h, cell_of_row w g 1 _ _ _ h, cell_of_row w g 2 _ _ _ h, cell_of_row w g 3 _ _ _ h, cell_of_row w g 4 _ _ _ h⟩
theorem Zero5.frozen {w : World} {g : Nat} (h : Zero5 w g) (o : Nat) : w.frozen? ⟨g, o, none⟩ = false := frozen_of_row w g o _ _ h
theorem Zero5.far {w : World} {g : Nat} (h : Zero5 w g) {p : Addr} (hp : g ≠ p.block) (u : Value) : Zero5 (w.setCell p u) g := (Below.heap_setCell w p u g hp).trans h
theorem Zero5.below {B : Nat} {w w' : World} {g : Nat} (h : Zero5 w g) (hb : Below B w w') (hg : g < B) : Zero5 w' g := (hb.block g hg).trans h

set_option maxHeartbeats 2000000 in
theorem l2Low_any (a b c d : Int) (e : Nat) (w : World) (hx : rOk a b c d = true) (he : e ≤ 1000) :
    Calls Tryz.prog 46 #[rv a b c d, .int .i64 (e : Int)] w fun r w' => r = .returned (dvL (lowN e (a, b, c, d))) ∧ Below w.heap.size w w' := by
  have Hx := Lib.hid hx
  clear hx
  go_enter Tryz.func46, Tryz.ntmps46
  go_wp2_with fail
  go_loopw [1] (fun i wr => ∃ (r : Nat) (y : Q4), i = .int .i64 r ∧ r ≤ e ∧ lowN r y = lowN e (a, b, c, d) ∧ okQ y = true ∧ Blk4 wr w.heap.size y ∧ Zero5 wr (w.heap.size + 1) ∧ Below w.heap.size w wr ∧ w.heap.size + 2 ≤ wr.heap.size) (fun i _ => (intOf i).toNat)
  case atStart => exact ⟨e, (a, b, c, d), rfl, Nat.le_refl _, rfl, Hx.out, (Below.heap_alloc _ _ _ (by go_size)).trans (heap_top _ _ rfl), heap_top _ _ (by simp), by go_grown, by go_size⟩
  case round =>
    obtain ⟨r, y, rfl, hr, hlow, hok, h4, h0, hbl, zr⟩ := hrel
    have H4 := Lib.hid h4
    have H0 := Lib.hid h0
    have Hlow := Lib.hid hlow
    have Hok := Lib.hid hok
    obtain ⟨c0, c1, c2, c3⟩ := h4.cell
    have f4 := h4.frozen
    have f0 := h0.frozen
    obtain ⟨d0, d1, d2, d3, d4⟩ := h0.cell
    clear h4 h0 hlow hok
    obtain ⟨y0, y1, y2, y3⟩ := y
    simp only at c0 c1 c2 c3
    have yr0 : w.heap.size < wr.heap.size := by omega
    have yr1 : w.heap.size + 1 < wr.heap.size := by omega
    by_cases hr0 : 0 < r
    · have Hok' : Hid (rOk y0 y1 y2 y3 = true) := Hok.out
      rcases hev : evenB y0 y1 y2 y3 with _ | _
      · have Hend := Lib.hid (lowN_stop (e := r) (x := (y0, y1, y2, y3)) (.inr hev))
        go_wp2_with fail
        refine (l1Even_any _ _ _ _ _ Hok'.out).mono ?_
        rintro e wA ⟨rfl, bA⟩
        have zA := bA.size
        try simp only [World.size_alloc] at zA
        obtain ⟨bAc, bAf⟩ := bcell bA
        have yA0 : w.heap.size < wA.heap.size := by omega
        have yA1 : w.heap.size + 1 < wA.heap.size := by omega
        have BA : Below w.heap.size w wA := hbl.trans (bA.mono (by omega))
        go_wp2
        rw [← Hlow.out, Hend.out]
        refine bodyPost_ret (by simp [results, Tryz.results46, go_sem, bAc, yr1, d0, d1, d2, d3, d4]) rfl ⟨rfl, ?_⟩
        go_grown
      · have Hst := Lib.hid (lowN_even (e := r) (x := (y0, y1, y2, y3)) hr0 hev)
        go_wp2_with fail
        refine (l1Even_any _ _ _ _ _ Hok'.out).mono ?_
        rintro e wA ⟨rfl, bA⟩
        have zA := bA.size
        try simp only [World.size_alloc] at zA
        obtain ⟨bAc, bAf⟩ := bcell bA
        have yA0 : w.heap.size < wA.heap.size := by omega
        have yA1 : w.heap.size + 1 < wA.heap.size := by omega
        go_wp2_with fail
        refine (l1Half_any _ _ _ _ _ Hok'.out).mono ?_
        rintro e wB ⟨rfl, bB⟩
        have zB := bB.size
        try simp only [World.size_alloc] at zB
        obtain ⟨bBc, bBf⟩ := bcell bB
        have yB0 : w.heap.size < wB.heap.size := by omega
        have yB1 : w.heap.size + 1 < wB.heap.size := by omega
        have BB : Below w.heap.size w wB := (hbl.trans (bA.mono (by omega))).trans (bB.mono (by omega))
        go_wp2
        go_roundw
        case rel =>
          refine ⟨r - 1, halfQ (y0, y1, y2, y3), by congr 1; omega, by omega, by rw [← Hst.out, Hlow.out], halfQ_ok Hok'.out, ?_, ?_, ?_, ?_⟩
          · exact ((H4.out.below bA (by omega)).below bB (by omega)).set4 _ _ _ _
          · exact (((((H0.out.below bA (by omega)).below bB (by omega)).far (by simp) _).far (by simp) _).far (by simp) _).far (by simp) _
          · go_grown
          · go_size
        case measure => simp [intOf]; omega
    · have Hend := Lib.hid (lowN_stop (e := r) (x := (y0, y1, y2, y3)) (.inl (by omega)))
      go_wp2
      rw [← Hlow.out, Hend.out]
      refine bodyPost_ret (by simp [results, Tryz.results46, go_sem, d0, d1, d2, d3, d4]) rfl ⟨rfl, ?_⟩
      go_grown

def lowOk (a b c d e : Int) : Bool := rOk a b c d && inB e 0 60
def lowRes (a b c d e : Int) : Value := .tuple #[dv (rI (lowOk a b c d e) (lowN e.toNat (a, b, c, d)).1.1) (rI (lowOk a b c d e) (lowN e.toNat (a, b, c, d)).1.2.1) (rI (lowOk a b c d e) (lowN e.toNat (a, b, c, d)).1.2.2.1) (rI (lowOk a b c d e) (lowN e.toNat (a, b, c, d)).1.2.2.2) (rI (lowOk a b c d e) ((lowN e.toNat (a, b, c, d)).2 : Int)), .bool (lowOk a b c d e)]

theorem divRes_t {a b c d : Int} (hx : rOk a b c d = true) (he : evenB a b c d = true) : divRes a b c d = .tuple #[rv ((b - d).tdiv 2) ((a + c).tdiv 2) ((b + d).tdiv 2) ((c - a).tdiv 2), .bool true] := by
  simp [divRes, divOk, hx, he, rI_t]

end Go.Proofs.YtgpocbhlcmohmaaGreatDoor
