/- Local variables that hold a circuit; what a region that draws leaves of slices. -/
import Derived.Test.YtlihnipbdckmkaaCx
import Derived.Test.YtlihnipbdckmkaaLoc
namespace Go.Proofs.Ytlihnipbdckmkaa
open Go.RowKit

/-- block b holds a circuit by value -/
structure LocC (w : World) (b : Nat) (q : Int) (A : Option Addr) (n cap : Nat) : Prop where
  lt : b < w.heap.size
  c0 : w.cell? ⟨b, 0, none⟩ = some (.int .i64 q)
  c1 : w.cell? ⟨b, 1, none⟩ = some (.slice A n cap)
theorem LocC.below {B : Nat} {w w' : World} {b : Nat} {q : Int} {A : Option Addr} {n cap : Nat} (h : LocC w b q A n cap) (hb : Below B w w') (hB : b < B) : LocC w' b q A n cap :=
  ⟨Nat.lt_of_lt_of_le h.lt hb.size, (hb.cell (p := ⟨b, _, none⟩) hB).trans h.c0, (hb.cell (p := ⟨b, _, none⟩) hB).trans h.c1⟩
theorem LocC.call {w w' : World} {b : Nat} {q : Int} {A : Option Addr} {n cap : Nat} (h : LocC w b q A n cap) (hb : Below w.heap.size w w') : LocC w' b q A n cap := h.below hb h.lt
theorem LocC.touch {lo hi : Nat} {w w' : World} {b : Nat} {q : Int} {A : Option Addr} {n cap : Nat} (h : LocC w b q A n cap) (ht : Touch lo hi w w') (hd : b < lo ∨ hi ≤ b) : LocC w' b q A n cap :=
  ⟨Nat.lt_of_lt_of_le h.lt ht.size, (ht.cell b 0 h.lt hd).trans h.c0, (ht.cell b 1 h.lt hd).trans h.c1⟩
theorem LocC.of_row {w : World} {b : Nat} {t : TypeId} {fr : Nat × Nat} {q : Int} {A : Option Addr} {n cap : Nat} (h : w.heap[b]? = some (.cells #[.int .i64 q, .slice A n cap] t fr)) : LocC w b q A n cap :=
  ⟨(Array.getElem?_eq_some_iff.1 h).1, cell_of_row w b 0 _ _ _ h, cell_of_row w b 1 _ _ _ h⟩
end Go.Proofs.Ytlihnipbdckmkaa
