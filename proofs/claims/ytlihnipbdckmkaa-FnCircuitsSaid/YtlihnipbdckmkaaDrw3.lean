/- The reference's draws that begin with bytes: ring numbers. -/
import Derived.Test.YtlihnipbdckmkaaDrw2
import Derived.Test.YtlihnipbdckmkaaRingIf
namespace Go.Proofs.Ytlihnipbdckmkaa
open Go.RowKit

/-- n bytes at a slice's address, among the old blocks -/
def ByteAt (w : World) (A : Option Addr) (n : Nat) : Prop :=
  ∀ j, j < n → ∃ (b off : Nat) (c : Int), A = some ⟨b, off, none⟩ ∧ b < w.heap.size ∧ w.cell? ⟨b, off + j, none⟩ = some (.int .u8 c) ∧ 0 ≤ c ∧ c ≤ 255
theorem ByteAt.below {B : Nat} {w w' : World} {A : Option Addr} {n : Nat} (h : ByteAt w A n) (hb : Below B w w') (hB : w.heap.size ≤ B) : ByteAt w' A n := by
  intro j hj
  obtain ⟨b, off, c, h1, h3, h4, h5⟩ := h j hj
  exact ⟨b, off, c, h1, Nat.lt_of_lt_of_le h3 hb.size, (hb.cell (p := ⟨b, off + j, none⟩) (Nat.lt_of_lt_of_le h3 hB)).trans h4, h5⟩
/-- behind blocks that were made: none of them is the bytes' block -/
theorem ByteAt.code {w w' : World} {A : Option Addr} {n g : Nat} (h : ByteAt w A n) (hb : Below w.heap.size w w') (hg : w.heap.size ≤ g) : CodeAt w' g A n := by
  intro j hj
  obtain ⟨b, off, c, h1, h3, h4, h5⟩ := h j hj
  exact ⟨b, off, c, h1, by omega, Nat.lt_of_lt_of_le h3 hb.size, (hb.cell (p := ⟨b, off + j, none⟩) h3).trans h4, h5⟩
theorem Dr.start {w W : World} {G : Nat} {A : Option Addr} {n cap : Nat} {t : TypeId} (hB : ByteAt w A n) (hb : Below w.heap.size w W) (hG : w.heap.size ≤ G) (h : W.heap[G]? = some (.cells #[.slice A n cap, .int .i64 0, .int .u64 0] t (0, 0))) : Dr W G A n cap 0 :=
  ⟨(Array.getElem?_eq_some_iff.1 h).1, hB.code hb hG, cell_of_row W G 0 _ _ _ h, ⟨0, 0, Nat.le_refl _, cell_of_row W G 1 _ _ _ h, cell_of_row W G 2 _ _ _ h, by decide, by decide⟩, fun o => frozen_of_row W G o _ _ h⟩
/-- a draw's own cursor is new memory -/
theorem Touch.new {w W w' : World} {G : Nat} (hb : Below w.heap.size w W) (ht : Touch G (G + 1) W w') (hG : w.heap.size ≤ G) : Below w.heap.size w w' := hb.trans (ht.far hG hb.size)

end Go.Proofs.Ytlihnipbdckmkaa
