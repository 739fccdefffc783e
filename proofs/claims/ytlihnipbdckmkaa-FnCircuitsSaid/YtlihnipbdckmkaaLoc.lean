/- Local variables that hold a matrix; what a region that draws leaves of slices. -/
import Derived.Test.YtlihnipbdckmkaaMx
namespace Go.Proofs.Ytlihnipbdckmkaa
open Go.RowKit

/-- block b holds a matrix by value -/
structure LocM (w : World) (b : Nat) (r c : Int) (A : Option Addr) (n cap : Nat) : Prop where
  lt : b < w.heap.size
  c0 : w.cell? ⟨b, 0, none⟩ = some (.int .i64 r)
  c1 : w.cell? ⟨b, 1, none⟩ = some (.int .i64 c)
  c2 : w.cell? ⟨b, 2, none⟩ = some (.slice A n cap)
theorem LocM.below {B : Nat} {w w' : World} {b : Nat} {r c : Int} {A : Option Addr} {n cap : Nat} (h : LocM w b r c A n cap) (hb : Below B w w') (hB : b < B) : LocM w' b r c A n cap :=
  ⟨Nat.lt_of_lt_of_le h.lt hb.size, (hb.cell (p := ⟨b, _, none⟩) hB).trans h.c0, (hb.cell (p := ⟨b, _, none⟩) hB).trans h.c1, (hb.cell (p := ⟨b, _, none⟩) hB).trans h.c2⟩
theorem LocM.call {w w' : World} {b : Nat} {r c : Int} {A : Option Addr} {n cap : Nat} (h : LocM w b r c A n cap) (hb : Below w.heap.size w w') : LocM w' b r c A n cap := h.below hb h.lt
theorem LocM.touch {lo hi : Nat} {w w' : World} {b : Nat} {r c : Int} {A : Option Addr} {n cap : Nat} (h : LocM w b r c A n cap) (ht : Touch lo hi w w') (hd : b < lo ∨ hi ≤ b) : LocM w' b r c A n cap :=
  ⟨Nat.lt_of_lt_of_le h.lt ht.size, (ht.cell b 0 h.lt hd).trans h.c0, (ht.cell b 1 h.lt hd).trans h.c1, (ht.cell b 2 h.lt hd).trans h.c2⟩
theorem LocM.of_row {w : World} {b : Nat} {t : TypeId} {fr : Nat × Nat} {r c : Int} {A : Option Addr} {n cap : Nat} (h : w.heap[b]? = some (.cells #[.int .i64 r, .int .i64 c, .slice A n cap] t fr)) : LocM w b r c A n cap :=
  ⟨(Array.getElem?_eq_some_iff.1 h).1, cell_of_row w b 0 _ _ _ h, cell_of_row w b 1 _ _ _ h, cell_of_row w b 2 _ _ _ h⟩
theorem FlatIn.call {w w' : World} {A : Option Addr} {zs : List Int} {lo hi : Nat} (h : FlatIn w A zs lo hi) (hb : Below w.heap.size w w') : FlatIn w' A zs lo hi := h.below hb h.2.1
theorem flat_sb {w W cur : World} {A : Option Addr} {zs : List Int} (h : FlatAt w A zs) (hb : Below w.heap.size w W)
    (hs : (∀ b o, b < W.heap.size → cur.cell? ⟨b, o, none⟩ = W.cell? ⟨b, o, none⟩) ∧ Below W.heap.size W cur) : FlatAt cur A zs := h.below (hb.trans (hs.2.mono hb.size))
theorem flatin_sb {W cur : World} {A : Option Addr} {zs : List Int} {lo hi : Nat} (h : FlatIn W A zs lo hi)
    (hs : (∀ b o, b < W.heap.size → cur.cell? ⟨b, o, none⟩ = W.cell? ⟨b, o, none⟩) ∧ Below W.heap.size W cur) : FlatAt cur A zs := (h.call hs.2).at
end Go.Proofs.Ytlihnipbdckmkaa
