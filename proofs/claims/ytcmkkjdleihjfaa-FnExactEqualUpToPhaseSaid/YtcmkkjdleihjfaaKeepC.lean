/- Regions that call a computation with memory (l2C) and append to a slice of the call's own: what they keep. -/
import Derived.Test.YtcmkkjdleihjfaaKeep
import Derived.Test.YtcmkkjdleihjfaaNormSq
import Derived.Test.YtcmkkjdleihjfaaAdjM
namespace Go.Proofs.Ytcmkkjdleihjfaa
open Go.RowKit

/-- w' reads as w below, and as wr at the blocks of a list; block G is a computation's memory -/
structure SK (w wr : World) (L : List Nat) (G : Nat) (bad : Bool) (w' : World) : Prop where
  below : Below w.heap.size w w'
  same : ∀ b ∈ L, b < w'.heap.size ∧ w'.heap[b]? = wr.heap[b]?
  cur : Cur w' G bad
theorem SK.refl {w wr : World} {L : List Nat} {G : Nat} {bad : Bool} (hb : Below w.heap.size w wr) (hL : ∀ b ∈ L, b < wr.heap.size) (hc : Cur wr G bad) : SK w wr L G bad wr := ⟨hb, fun b h => ⟨hL b h, rfl⟩, hc⟩
theorem SK.drew {w wr w' : World} {L : List Nat} {G : Nat} {bad : Bool} (h : SK w wr L G bad w') : SK w wr L G bad w'.drew := ⟨h.below.drew, h.same, h.cur.drew⟩
theorem SK.call {w wr w' w2 : World} {L : List Nat} {G : Nat} {bad : Bool} (h : SK w wr L G bad w') (hb : Below w'.heap.size w' w2) : SK w wr L G bad w2 :=
  ⟨h.below.trans (hb.mono h.below.size), fun b hL => ⟨Nat.lt_of_lt_of_le (h.same b hL).1 hb.size, (hb.block b (h.same b hL).1).trans (h.same b hL).2⟩, h.cur.below hb h.cur.lt⟩
theorem SK.alloc {w wr w' : World} {L : List Nat} {G : Nat} {bad : Bool} (h : SK w wr L G bad w') (o : Obj) : SK w wr L G bad (w'.alloc o) := h.call (Below.alloc (Below.refl _ _) (Nat.le_refl _) o)
theorem SK.touch {w wr w' w2 : World} {L : List Nat} {G : Nat} {bad bad' : Bool} (h : SK w wr L G bad w') (ht : Touch G (G + 1) w' w2) (hG : w.heap.size ≤ G) (hn : ∀ b ∈ L, b ≠ G) (hc : Cur w2 G bad') : SK w wr L G bad' w2 :=
  ⟨h.below.trans (ht.far hG h.below.size), fun b hL => ⟨Nat.lt_of_lt_of_le (h.same b hL).1 ht.size, (ht.block b (h.same b hL).1 (by have := hn b hL; omega)).trans (h.same b hL).2⟩, hc⟩
theorem SK.grown {w wr w' w2 : World} {L : List Nat} {G : Nat} {bad : Bool} {row : Option Nat} (h : SK w wr L G bad w') (hg : w'.grownBy w2 row) (hr : ∀ k, row = some k → w.heap.size ≤ k ∧ G ≠ k ∧ ∀ b ∈ L, b ≠ k) : SK w wr L G bad w2 :=
  ⟨h.below.grown hg h.below.size fun k hk => (hr k hk).1, fun b hL => ⟨Nat.lt_of_lt_of_le (h.same b hL).1 hg.size, (hg.block b (h.same b hL).1 fun e => (hr b e.symm).2.2 b hL rfl).trans (h.same b hL).2⟩,
    Nat.lt_of_lt_of_le h.cur.lt hg.size, (World.cell?_of_block (a := ⟨G, 0, none⟩) (hg.block G h.cur.lt fun e => (hr G e.symm).2.1 rfl)).trans h.cur.cell, (World.frozen?_of_block (a := ⟨G, 0, none⟩) (hg.block G h.cur.lt fun e => (hr G e.symm).2.1 rfl)).trans h.cur.free⟩
theorem SK.set {w wr w' : World} {L L' : List Nat} {G : Nat} {bad : Bool} (h : SK w wr L G bad w') {p : Addr} (hp : w.heap.size ≤ p.block ∧ G ≠ p.block) (hL : ∀ b ∈ L', b ∈ L ∧ b ≠ p.block) (u : Value) : SK w wr L' G bad (w'.setCell p u) :=
  ⟨h.below.setCell hp.1 u, fun b hb => ⟨by simpa [World.setCell] using (h.same b (hL b hb).1).1, (Below.heap_setCell w' p u b (hL b hb).2).trans (h.same b (hL b hb).1).2⟩, h.cur.far hp.2 u⟩
theorem SK.cells {w wr w' : World} {L : List Nat} {G : Nat} {bad : Bool} (h : SK w wr L G bad w') {b : Nat} (hb : b ∈ L) : ∀ o, w'.cell? ⟨b, o, none⟩ = wr.cell? ⟨b, o, none⟩ := fun o => World.cell?_of_block (a := ⟨b, o, none⟩) (h.same b hb).2
theorem SK.row {w wr w' : World} {L : List Nat} {G : Nat} {bad : Bool} (h : SK w wr L G bad w') {b : Nat} {x : Obj} (hb : b ∈ L) (hx : wr.heap[b]? = some x) : w'.heap[b]? = some x := ((h.same b hb).2).trans hx
theorem owns_touch {w w' : World} {G base : Nat} {e : TypeId} {size : Nat} {v : Value} {n : Nat} {xs : List Value} (h : w.ownsRow base e size v n xs) (ht : Touch G (G + 1) w w') (hG : G < base) : w'.ownsRow base e size v n xs := by
  refine h.kept (row := some G) ⟨ht.os, ht.tape, ht.output, ht.size, fun i hi hne => ht.block i hi (by have : i ≠ G := fun e => hne (by rw [e]); omega)⟩ ?_
  cases hv : v.ownBlock with
  | none => exact .inl rfl
  | some g => exact .inr (by have := (h.lt g hv).1; simp; omega)
theorem LocD.of_same {w w' : World} {b : Nat} {y : D5} (h : LocD w b y) (hs : b < w'.heap.size ∧ w'.heap[b]? = w.heap[b]?) : LocD w' b y :=
  have c := fun o => World.cell?_of_block (a := ⟨b, o, none⟩) hs.2
  ⟨hs.1, (c _).trans h.2.1, (c _).trans h.2.2.1, (c _).trans h.2.2.2.1, (c _).trans h.2.2.2.2.1, (c _).trans h.2.2.2.2.2⟩
theorem LocD.five {w : World} {b : Nat} {y : D5} (h : LocD w b y) : w.cell? ⟨b, 0, none⟩ = some (.int .i64 y.1.1) ∧ w.cell? ⟨b, 1, none⟩ = some (.int .i64 y.1.2.1) ∧ w.cell? ⟨b, 2, none⟩ = some (.int .i64 y.1.2.2.1) ∧ w.cell? ⟨b, 3, none⟩ = some (.int .i64 y.1.2.2.2) ∧ w.cell? ⟨b, 4, none⟩ = some (.int .i64 y.2) :=
  ⟨h.2.1, h.2.2.1, h.2.2.2.1, h.2.2.2.2.1, h.2.2.2.2.2⟩

theorem l2cMulD_any (g : Nat) (bad : Bool) (x y : D5) (w : World) (hc : Hid (Cur w g bad)) (hx : dOkD x = true) (hy : dOkD y = true) :
    Calls Try.prog 96 #[.pointer (some ⟨g, 0, none⟩), dvD x, dvD y] w fun r w' => r = .returned (dvD (mulC x y)) ∧ Cur w' g (bad || !mulOk x y) ∧ Touch g (g + 1) w w' :=
  l2cMul_any g bad _ _ _ _ _ _ _ _ _ _ w hc (dOk_r hx) (dOk_r hy) (dOk_e hx) (dOk_e hy)
end Go.Proofs.Ytcmkkjdleihjfaa
