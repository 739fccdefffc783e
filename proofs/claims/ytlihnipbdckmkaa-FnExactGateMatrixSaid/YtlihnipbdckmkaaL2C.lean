/- The reference's computations that remember failures: (*l2C).ring, mul, out; MulDyadic. -/
import Derived.Test.YtlihnipbdckmkaaDs
import Derived.Test.YtlihnipbdckmkaaLow
import Derived.Test.YtlihnipbdckmkaaRingQuo
namespace Go.Proofs.Ytlihnipbdckmkaa
open Go.RowKit

/-- w' is w but for the blocks g and R, and new ones -/
structure Off2 (g R : Nat) (w w' : World) : Prop where
  os : w'.os = w.os
  tape : w'.tape = w.tape
  output : w'.output = w.output
  size : w.heap.size ≤ w'.heap.size
  block : ∀ k, k < w.heap.size → k ≠ g → k ≠ R → w'.heap[k]? = w.heap[k]?
theorem Off2.refl (g R : Nat) (w : World) : Off2 g R w w := ⟨rfl, rfl, rfl, Nat.le_refl _, fun _ _ _ _ => rfl⟩
theorem Off2.drew {g R : Nat} {w w' : World} (h : Off2 g R w w') : Off2 g R w w'.drew := ⟨h.os, h.tape, h.output, h.size, h.block⟩
theorem Off2.alloc {g R : Nat} {w w' : World} (h : Off2 g R w w') (o : Obj) : Off2 g R w (w'.alloc o) :=
  ⟨h.os, h.tape, h.output, Nat.le_trans h.size (by simp), fun k hk h1 h2 => (Below.heap_alloc w' o k (Nat.lt_of_lt_of_le hk h.size)).trans (h.block k hk h1 h2)⟩
theorem Off2.set {g R : Nat} {w w' : World} (h : Off2 g R w w') {p : Addr} (hp : p.block = g ∨ p.block = R ∨ w.heap.size ≤ p.block) (u : Value) : Off2 g R w (w'.setCell p u) :=
  ⟨h.os, h.tape, h.output, by simpa [World.setCell] using h.size, fun k hk h1 h2 => (Below.heap_setCell w' p u k (by rcases hp with h | h | h <;> omega)).trans (h.block k hk h1 h2)⟩
theorem Off2.below {g R : Nat} {w w1 w2 : World} (h : Off2 g R w w1) (hb : Below w1.heap.size w1 w2) : Off2 g R w w2 :=
  ⟨hb.os.trans h.os, hb.tape.trans h.tape, hb.output.trans h.output, Nat.le_trans h.size hb.size, fun k hk h1 h2 => (hb.block k (Nat.lt_of_lt_of_le hk h.size)).trans (h.block k hk h1 h2)⟩
theorem Off2.touch {g R : Nat} {w w1 w2 : World} (h : Off2 g R w w1) (ht : Touch g (g + 1) w1 w2) : Off2 g R w w2 :=
  ⟨ht.os.trans h.os, ht.tape.trans h.tape, ht.output.trans h.output, Nat.le_trans h.size ht.size, fun k hk h1 h2 => (ht.block k (Nat.lt_of_lt_of_le hk h.size) (by omega)).trans (h.block k hk h1 h2)⟩
theorem Off2.to_touch {g R B : Nat} {w w1 w2 : World} (hb : Below B w w1) (h : Off2 g R w1 w2) (h1 : w.heap.size ≤ R) (h2 : w.heap.size ≤ B) : Touch g (g + 1) w w2 :=
  ⟨h.os.trans hb.os, h.tape.trans hb.tape, h.output.trans hb.output, Nat.le_trans hb.size h.size, fun k hk hr => (h.block k (Nat.lt_of_lt_of_le hk hb.size) (by omega) (by omega)).trans (hb.block k (by omega))⟩
theorem O2_mk {g R p q : Nat} {W w' : World} (hp : p < W.heap.size ∧ p ≠ g ∧ p ≠ R) (hq : q < W.heap.size ∧ q ≠ g ∧ q ≠ R) (h : Off2 g R W w') :
    (∀ o, w'.cell? ⟨p, o, none⟩ = W.cell? ⟨p, o, none⟩) ∧ (∀ o, w'.cell? ⟨q, o, none⟩ = W.cell? ⟨q, o, none⟩) ∧ Off2 g R W w' :=
  ⟨fun o => World.cell?_of_block (a := ⟨p, o, none⟩) (h.block p hp.1 hp.2.1 hp.2.2), fun o => World.cell?_of_block (a := ⟨q, o, none⟩) (h.block q hq.1 hq.2.1 hq.2.2), h⟩
theorem O2_step {g R p q : Nat} {W w1 w2 : World} (h : (∀ o, w1.cell? ⟨p, o, none⟩ = W.cell? ⟨p, o, none⟩) ∧ (∀ o, w1.cell? ⟨q, o, none⟩ = W.cell? ⟨q, o, none⟩) ∧ Off2 g R W w1) (hb : Below w1.heap.size w1 w2) : Off2 g R W w2 := h.2.2.below hb
theorem O2_stepT {g R p q : Nat} {W w1 w2 : World} (h : (∀ o, w1.cell? ⟨p, o, none⟩ = W.cell? ⟨p, o, none⟩) ∧ (∀ o, w1.cell? ⟨q, o, none⟩ = W.cell? ⟨q, o, none⟩) ∧ Off2 g R W w1) (ht : Touch g (g + 1) w1 w2) : Off2 g R W w2 := h.2.2.touch ht

/-- a computation's memory: does it hold a failure? -/
structure Cur (w : World) (g : Nat) (bad : Bool) : Prop where
  lt : g < w.heap.size
  cell : w.cell? ⟨g, 0, none⟩ = some (.bool bad)
  free : w.frozen? ⟨g, 0, none⟩ = false
theorem Cur.below {B : Nat} {w w' : World} {g : Nat} {bad : Bool} (h : Cur w g bad) (hb : Below B w w') (hB : g < B) : Cur w' g bad :=
  ⟨Nat.lt_of_lt_of_le h.lt hb.size, (hb.cell (p := ⟨g, 0, none⟩) hB).trans h.cell, (hb.frozen (p := ⟨g, 0, none⟩) hB).trans h.free⟩
theorem Cur.alloc {w : World} {g : Nat} {bad : Bool} (h : Cur w g bad) (o : Obj) : Cur (w.alloc o) g bad := h.below (Below.alloc (Below.refl _ _) (Nat.le_refl _) o) h.lt
theorem Cur.drew {w : World} {g : Nat} {bad : Bool} (h : Cur w g bad) : Cur w.drew g bad := ⟨h.lt, h.cell, h.free⟩
theorem Cur.far {w : World} {g : Nat} {bad : Bool} (h : Cur w g bad) {p : Addr} (hp : g ≠ p.block) (u : Value) : Cur (w.setCell p u) g bad :=
  ⟨by simpa [World.setCell] using h.lt, (World.cell?_of_block (w := w) (a := ⟨g, 0, none⟩) (Below.heap_setCell w p u g hp)).trans h.cell, by simpa using h.free⟩

theorem Cur.set {w : World} {g : Nat} {bad : Bool} (h : Cur w g bad) (b : Bool) : Cur (w.setCell ⟨g, 0, none⟩ (.bool b)) g b :=
  ⟨by simpa [World.setCell] using h.lt, by rw [cell_set_same, h.cell]; rfl, by simpa using h.free⟩

def zeroD : D5 := ((0, 0, 0, 0), 0)
def dOkD (x : D5) : Bool := dOk x.1.1 x.1.2.1 x.1.2.2.1 x.1.2.2.2 x.2
/-- a dyadic number, or nothing -/
def dyRes (ok : Bool) (x : D5) : Value := .tuple #[dv (rI ok x.1.1) (rI ok x.1.2.1) (rI ok x.1.2.2.1) (rI ok x.1.2.2.2) (rI ok x.2), .bool ok]
def lowD (e : Int) (q : Q4) : D5 := ((lowN e.toNat q).1, ((lowN e.toNat q).2 : Int))
def mulOk (x y : D5) : Bool := inB (x.2 + y.2) 0 60 && okQ (mulQ x.1 y.1)
/-- the product, or zero -/
def mulC (x y : D5) : D5 := if mulOk x y then lowD (x.2 + y.2) (mulQ x.1 y.1) else zeroD
theorem lowN_zero : ∀ e : Nat, lowN e (0, 0, 0, 0) = ((0, 0, 0, 0), 0)
  | 0 => rfl
  | e + 1 => by
    rw [lowN_even (Nat.succ_pos _) rfl]
    exact lowN_zero e

end Go.Proofs.Ytlihnipbdckmkaa
