/- Regions that draw their order and end in a store to the result's block. -/
import Derived.Test.YtlihnipbdckmkaaNum
import Derived.Deep.Draws
import Derived.Deep.OwnRows
namespace Go.Proofs.Ytlihnipbdckmkaa
open Go.RowKit

theorem grownBy_refl' (w : World) (row : Option Nat) : w.grownBy w row := ⟨rfl, rfl, rfl, Nat.le_refl _, fun _ _ _ => rfl⟩
theorem only_drew {a w : World} {row : Option Nat} (h : a.grownBy w row) : a.grownBy w.drew row := ⟨h.os, h.tape, h.output, h.size, h.block⟩
theorem only_alloc {a w : World} {row : Option Nat} (h : a.grownBy w row) (o : Obj) : a.grownBy (w.alloc o) row :=
  ⟨h.os, h.tape, h.output, Nat.le_trans h.size (by simp), fun i hi hne => (Below.heap_alloc w o i (Nat.lt_of_lt_of_le hi h.size)).trans (h.block i hi hne)⟩
theorem only_setCell {a w : World} {g : Nat} (h : a.grownBy w (some g)) {p : Addr} (hp : p.block = g ∨ a.heap.size ≤ p.block) (u : Value) : a.grownBy (w.setCell p u) (some g) :=
  ⟨h.os, h.tape, h.output, by simpa [World.setCell] using h.size, fun i hi hne => (Below.heap_setCell w p u i (by
    rintro rfl
    rcases hp with hp | hp
    · exact hne (by rw [hp])
    · omega)).trans (h.block i hi hne)⟩
theorem only_below {a w w' : World} {row : Option Nat} (h : a.grownBy w row) (hb : Below w.heap.size w w') : a.grownBy w' row :=
  ⟨hb.os.trans h.os, hb.tape.trans h.tape, hb.output.trans h.output, Nat.le_trans h.size hb.size, fun i hi hne => (hb.block i (Nat.lt_of_lt_of_le hi h.size)).trans (h.block i hi hne)⟩
theorem GB_mk {W w' : World} {R : Nat} (h : W.grownBy w' (some R)) : (∀ b o, b < W.heap.size → b ≠ R → w'.cell? ⟨b, o, none⟩ = W.cell? ⟨b, o, none⟩) ∧ W.grownBy w' (some R) :=
  ⟨fun b o hb hne => World.cell?_of_block (h.block b hb (fun e => hne (by injection e))), h⟩
theorem GB_step {W w1 w2 : World} {R : Nat} (h : (∀ b o, b < W.heap.size → b ≠ R → w1.cell? ⟨b, o, none⟩ = W.cell? ⟨b, o, none⟩) ∧ W.grownBy w1 (some R)) (h2 : Below w1.heap.size w1 w2) :
    (∀ b o, b < W.heap.size → b ≠ R → w2.cell? ⟨b, o, none⟩ = W.cell? ⟨b, o, none⟩) ∧ W.grownBy w2 (some R) := GB_mk (only_below h.2 h2)
theorem below_only {B : Nat} {w W w' : World} {R : Nat} (h : Below B w W) (hg : W.grownBy w' (some R)) (hB : B ≤ W.heap.size) (hR : B ≤ R) : Below B w w' :=
  h.grown hg hB (fun k hk => by injection hk with hk; omega)
end Go.Proofs.Ytlihnipbdckmkaa
