/- The lowest form: l2Low, DyadicOf, of the program and of the reference. -/
import Derived.Test.YtlihnipbdckmkaaDyadic
import Derived.Test.YtlihnipbdckmkaaRingTurn
namespace Go.Proofs.Ytlihnipbdckmkaa
open Go.RowKit

def evenQ (x : Q4) : Bool := evenB x.1 x.2.1 x.2.2.1 x.2.2.2
def halfQ (x : Q4) : Q4 := ((x.2.1 - x.2.2.2).tdiv 2, (x.1 + x.2.2.1).tdiv 2, (x.2.1 + x.2.2.2).tdiv 2, (x.2.2.1 - x.1).tdiv 2)
/-- divides by the square root of 2 as long as it goes, at most e times -/
def lowN : Nat → Q4 → Q4 × Nat
  | 0, x => (x, 0)
  | e + 1, x => if evenQ x then lowN e (halfQ x) else (x, e + 1)
theorem lowN_even {e : Nat} {x : Q4} (h0 : 0 < e) (h : evenQ x = true) : lowN e x = lowN (e - 1) (halfQ x) := by
  match e, h0 with
  | e + 1, _ => simp [lowN, h]
theorem lowN_stop {e : Nat} {x : Q4} (h : e = 0 ∨ evenQ x = false) : lowN e x = (x, e) := by
  match e, h with
  | 0, _ => rfl
  | e + 1, .inl h => cases h
  | e + 1, .inr h => simp [lowN, h]
theorem halfQ_ok {x : Q4} (h : okQ x = true) : okQ (halfQ x) = true := half_ok h
theorem lowN_ok : ∀ (e : Nat) (x : Q4), okQ x = true → okQ (lowN e x).1 = true
  | 0, _, h => h
  | e + 1, x, h => by
    unfold lowN
    split
    · exact lowN_ok e _ (halfQ_ok h)
    · exact h
theorem lowN_le : ∀ (e : Nat) (x : Q4), (lowN e x).2 ≤ e
  | 0, _ => Nat.le_refl _
  | e + 1, x => by
    unfold lowN
    split
    · exact Nat.le_trans (lowN_le e _) (Nat.le_succ _)
    · exact Nat.le_refl _

abbrev dvL (L : Q4 × Nat) : Value := dv L.1.1 L.1.2.1 L.1.2.2.1 L.1.2.2.2 (L.2 : Int)
/-- block g is five zeros -/
def Zero5 (w : World) (g : Nat) : Prop := w.heap[g]? = some (.cells #[.int .i64 0, .int .i64 0, .int .i64 0, .int .i64 0, .int .i64 0] 60 (0, 0))
theorem Zero5.cell {w : World} {g : Nat} (h : Zero5 w g) : w.cell? ⟨g, 0, none⟩ = some (.int .i64 0) ∧ w.cell? ⟨g, 1, none⟩ = some (.int .i64 0) ∧ w.cell? ⟨g, 2, none⟩ = some (.int .i64 0) ∧ w.cell? ⟨g, 3, none⟩ = some (.int .i64 0) ∧ w.cell? ⟨g, 4, none⟩ = some (.int .i64 0) :=
  ⟨cell_of_row w g 0 _ _ _ h, cell_of_row w g 1 _ _ _ h, cell_of_row w g 2 _ _ _ h, cell_of_row w g 3 _ _ _ h, cell_of_row w g 4 _ _ _ h⟩
theorem Zero5.frozen {w : World} {g : Nat} (h : Zero5 w g) (o : Nat) : w.frozen? ⟨g, o, none⟩ = false := frozen_of_row w g o _ _ h
theorem Zero5.far {w : World} {g : Nat} (h : Zero5 w g) {p : Addr} (hp : g ≠ p.block) (u : Value) : Zero5 (w.setCell p u) g := (Below.heap_setCell w p u g hp).trans h
theorem Zero5.below {B : Nat} {w w' : World} {g : Nat} (h : Zero5 w g) (hb : Below B w w') (hg : g < B) : Zero5 w' g := (hb.block g hg).trans h

def lowOk (a b c d e : Int) : Bool := rOk a b c d && inB e 0 60
def lowRes (a b c d e : Int) : Value := .tuple #[dv (rI (lowOk a b c d e) (lowN e.toNat (a, b, c, d)).1.1) (rI (lowOk a b c d e) (lowN e.toNat (a, b, c, d)).1.2.1) (rI (lowOk a b c d e) (lowN e.toNat (a, b, c, d)).1.2.2.1) (rI (lowOk a b c d e) (lowN e.toNat (a, b, c, d)).1.2.2.2) (rI (lowOk a b c d e) ((lowN e.toNat (a, b, c, d)).2 : Int)), .bool (lowOk a b c d e)]

theorem divRes_t {a b c d : Int} (hx : rOk a b c d = true) (he : evenB a b c d = true) : divRes a b c d = .tuple #[rv ((b - d).tdiv 2) ((a + c).tdiv 2) ((b + d).tdiv 2) ((c - a).tdiv 2), .bool true] := by
  simp [divRes, divOk, hx, he, rI_t]

end Go.Proofs.Ytlihnipbdckmkaa
