/- Slices of structs of whole numbers, laid flat: what stands there, what keeps it, what a store does to it. No program in sight. -/
import Derived.Test.YtlihnipbdckmkaaMem
import Derived.OwnWalk
import Derived.Laws.OwnMore
namespace Go.Proofs.Ytlihnipbdckmkaa
open Go.RowKit

/-- at a slice's address stand the numbers zs, cell by cell -/
def FlatAt (w : World) (A : Option Addr) (zs : List Int) : Prop :=
  ∀ j z, zs[j]? = some z → ∃ b off, A = some ⟨b, off, none⟩ ∧ b < w.heap.size ∧ w.cell? ⟨b, off + j, none⟩ = some (.int .i64 z)
/-- .. at the head of a block of its own, among the blocks lo to hi, that may be written -/
def FlatIn (w : World) (A : Option Addr) (zs : List Int) (lo hi : Nat) : Prop :=
  (∀ a, A = some a → ∃ g, a = ⟨g, 0, none⟩ ∧ lo ≤ g ∧ g < hi ∧ ∀ o, w.frozen? ⟨g, o, none⟩ = false) ∧ hi ≤ w.heap.size ∧ FlatAt w A zs
/-- w' is w but for the blocks lo to hi, and new ones -/
structure Touch (lo hi : Nat) (w w' : World) : Prop where
  os : w'.os = w.os
  tape : w'.tape = w.tape
  output : w'.output = w.output
  size : w.heap.size ≤ w'.heap.size
  block : ∀ k, k < w.heap.size → (k < lo ∨ hi ≤ k) → w'.heap[k]? = w.heap[k]?

theorem Touch.refl (lo hi : Nat) (w : World) : Touch lo hi w w := ⟨rfl, rfl, rfl, Nat.le_refl _, fun _ _ _ => rfl⟩
theorem Touch.trans {lo hi : Nat} {a b c : World} (h : Touch lo hi a b) (k : Touch lo hi b c) : Touch lo hi a c :=
  ⟨k.os.trans h.os, k.tape.trans h.tape, k.output.trans h.output, Nat.le_trans h.size k.size, fun i hi hr => (k.block i (Nat.lt_of_lt_of_le hi h.size) hr).trans (h.block i hi hr)⟩
theorem Touch.set {lo hi : Nat} {a w : World} (h : Touch lo hi a w) {p : Addr} (h1 : lo ≤ p.block) (h2 : p.block < hi) (u : Value) : Touch lo hi a (w.setCell p u) :=
  ⟨h.os, h.tape, h.output, by simpa [World.setCell] using h.size, fun k hk hr => (Below.heap_setCell w p u k (by omega)).trans (h.block k hk hr)⟩
theorem Touch.setNew {lo hi : Nat} {a w : World} (h : Touch lo hi a w) {p : Addr} (h1 : a.heap.size ≤ p.block) (u : Value) : Touch lo hi a (w.setCell p u) :=
  ⟨h.os, h.tape, h.output, by simpa [World.setCell] using h.size, fun k hk hr => (Below.heap_setCell w p u k (by omega)).trans (h.block k hk hr)⟩
theorem Touch.drew {lo hi : Nat} {a w : World} (h : Touch lo hi a w) : Touch lo hi a w.drew := ⟨h.os, h.tape, h.output, h.size, h.block⟩
theorem Touch.call {lo hi : Nat} {a b c : World} (h : Touch lo hi a b) (k : Below b.heap.size b c) : Touch lo hi a c :=
  ⟨k.os.trans h.os, k.tape.trans h.tape, k.output.trans h.output, Nat.le_trans h.size k.size, fun i hi hr => (k.block i (Nat.lt_of_lt_of_le hi h.size)).trans (h.block i hi hr)⟩
theorem Touch.alloc {lo hi : Nat} {a w : World} (h : Touch lo hi a w) (o : Obj) : Touch lo hi a (w.alloc o) :=
  ⟨h.os, h.tape, h.output, Nat.le_trans h.size (by simp), fun k hk hr => (Below.heap_alloc w o k (Nat.lt_of_lt_of_le hk h.size)).trans (h.block k hk hr)⟩
theorem Touch.far {lo hi B : Nat} {w w' : World} (h : Touch lo hi w w') (h1 : B ≤ lo) (h2 : B ≤ w.heap.size) : Below B w w' :=
  ⟨h.os, h.tape, h.output, h.size, fun k hk => h.block k (Nat.lt_of_lt_of_le hk h2) (.inl (Nat.lt_of_lt_of_le hk h1))⟩
theorem Touch.cell {lo hi : Nat} {w w' : World} (h : Touch lo hi w w') (g o : Nat) (h1 : g < w.heap.size) (h2 : g < lo ∨ hi ≤ g) : w'.cell? ⟨g, o, none⟩ = w.cell? ⟨g, o, none⟩ := World.cell?_of_block (h.block g h1 h2)
theorem Touch.frozen {lo hi : Nat} {w w' : World} (h : Touch lo hi w w') (g o : Nat) (h1 : g < w.heap.size) (h2 : g < lo ∨ hi ≤ g) : w'.frozen? ⟨g, o, none⟩ = w.frozen? ⟨g, o, none⟩ := World.frozen?_of_block (h.block g h1 h2)
theorem Touch.of_below {B : Nat} {w w' : World} (h : Below B w w') (hB : w.heap.size ≤ B) (lo hi : Nat) : Touch lo hi w w' :=
  ⟨h.os, h.tape, h.output, h.size, fun k hk _ => h.block k (Nat.lt_of_lt_of_le hk hB)⟩

theorem FlatAt.keep {w w' : World} {A : Option Addr} {zs : List Int} (h : FlatAt w A zs) (hs : w.heap.size ≤ w'.heap.size) (hk : ∀ a, A = some a → w'.heap[a.block]? = w.heap[a.block]?) : FlatAt w' A zs := by
  intro j z hz
  obtain ⟨b, off, h1, h2, h3⟩ := h j z hz
  exact ⟨b, off, h1, Nat.lt_of_lt_of_le h2 hs, (World.cell?_of_block (w := w) (a := ⟨b, off + j, none⟩) (by exact hk ⟨b, off, none⟩ h1)).trans h3⟩
/-- an argument's cells behind a call that turns nothing old -/
theorem FlatAt.below {w w' : World} {A : Option Addr} {zs : List Int} (h : FlatAt w A zs) (hb : Below w.heap.size w w') : FlatAt w' A zs := by
  intro j z hz
  obtain ⟨b, off, h1, h2, h3⟩ := h j z hz
  exact ⟨b, off, h1, Nat.lt_of_lt_of_le h2 hb.size, (World.cell?_of_block (a := ⟨b, off + j, none⟩) (hb.block b h2)).trans h3⟩
theorem FlatAt.drew {w : World} {A : Option Addr} {zs : List Int} (h : FlatAt w A zs) : FlatAt w.drew A zs := h
theorem FlatAt.alloc {w : World} {A : Option Addr} {zs : List Int} (h : FlatAt w A zs) (o : Obj) : FlatAt (w.alloc o) A zs := h.below (Below.alloc (Below.refl _ _) (Nat.le_refl _) o)
theorem FlatAt.take {w : World} {A : Option Addr} {zs : List Int} (h : FlatAt w A zs) (n : Nat) : FlatAt w A (zs.take n) := fun j z hz => h j z (by
  rw [List.getElem?_take] at hz
  split at hz
  · exact hz
  · cases hz)
theorem FlatAt.nil (w : World) (A : Option Addr) : FlatAt w A [] := fun j z hz => by simp at hz
theorem FlatIn.nil (w : World) (lo hi : Nat) (h : hi ≤ w.heap.size) : FlatIn w none [] lo hi := ⟨fun a h => (by cases h), h, FlatAt.nil _ _⟩
theorem FlatIn.at {w : World} {A : Option Addr} {zs : List Int} {lo hi : Nat} (h : FlatIn w A zs lo hi) : FlatAt w A zs := h.2.2
theorem FlatIn.mono {w : World} {A : Option Addr} {zs : List Int} {lo hi lo' hi' : Nat} (h : FlatIn w A zs lo hi) (h1 : lo' ≤ lo) (h2 : hi ≤ hi') (h3 : hi' ≤ w.heap.size) : FlatIn w A zs lo' hi' :=
  ⟨fun a e => let ⟨g, q1, q2, q3, q4⟩ := h.1 a e; ⟨g, q1, Nat.le_trans h1 q2, Nat.lt_of_lt_of_le q3 h2, q4⟩, h3, h.2.2⟩
theorem FlatIn.keep {w w' : World} {A : Option Addr} {zs : List Int} {lo hi : Nat} (h : FlatIn w A zs lo hi) (hs : w.heap.size ≤ w'.heap.size) (hk : ∀ k, lo ≤ k → k < hi → w'.heap[k]? = w.heap[k]?) : FlatIn w' A zs lo hi :=
  ⟨fun a e => let ⟨g, q1, q2, q3, q4⟩ := h.1 a e; ⟨g, q1, q2, q3, fun o => (World.frozen?_of_block (a := ⟨g, o, none⟩) (hk g q2 q3)).trans (q4 o)⟩, Nat.le_trans h.2.1 hs,
    h.2.2.keep hs fun a e => by
      obtain ⟨g, rfl, q2, q3, _⟩ := h.1 a e
      exact hk g q2 q3⟩
theorem FlatIn.below {B : Nat} {w w' : World} {A : Option Addr} {zs : List Int} {lo hi : Nat} (h : FlatIn w A zs lo hi) (hb : Below B w w') (hB : hi ≤ B) : FlatIn w' A zs lo hi :=
  h.keep hb.size fun k _ h2 => hb.block k (by omega)
theorem FlatIn.touch {lo' hi' : Nat} {w w' : World} {A : Option Addr} {zs : List Int} {lo hi : Nat} (h : FlatIn w A zs lo hi) (ht : Touch lo' hi' w w') (hd : hi ≤ lo' ∨ hi' ≤ lo) : FlatIn w' A zs lo hi :=
  h.keep ht.size fun k h1 h2 => ht.block k (by have := h.2.1; omega) (by omega)
theorem FlatIn.set {w : World} {g : Nat} {zs : List Int} {lo hi : Nat} (h : FlatIn w (some ⟨g, 0, none⟩) zs lo hi) (j : Nat) (z : Int) : FlatIn (w.setCell ⟨g, j, none⟩ (.int .i64 z)) (some ⟨g, 0, none⟩) (zs.set j z) lo hi := by
  refine ⟨fun a e => ?_, by simpa [World.setCell] using h.2.1, fun i u hu => ?_⟩
  · obtain ⟨g', q1, q2, q3, q4⟩ := h.1 a e
    cases e
    cases q1
    refine ⟨g, rfl, q2, q3, fun o => ?_⟩
    rw [World.frozen?_setCell]
    exact q4 o
  · by_cases hij : i = j
    · subst hij
      have hi' : i < zs.length := by
        have := (List.getElem?_eq_some_iff.1 hu).1
        simpa using this
      obtain ⟨b, off, q1, q2, q3⟩ := h.2.2 i zs[i] (List.getElem?_eq_getElem hi')
      cases q1
      rw [List.getElem?_set_self hi'] at hu
      cases hu
      refine ⟨g, 0, rfl, by simpa [World.setCell] using q2, ?_⟩
      rw [Nat.zero_add] at q3 ⊢
      rw [cell_set_same, q3]
      rfl
    · rw [List.getElem?_set_ne (Ne.symm hij)] at hu
      obtain ⟨b, off, q1, q2, q3⟩ := h.2.2 i u hu
      cases q1
      refine ⟨g, 0, rfl, by simpa [World.setCell] using q2, ?_⟩
      rw [Nat.zero_add] at q3 ⊢
      rw [World.cell?_setCell_other (h := fun e => hij (by cases e; rfl))]
      exact q3
theorem FlatIn.setFar {w : World} {A : Option Addr} {zs : List Int} {lo hi : Nat} (h : FlatIn w A zs lo hi) {p : Addr} (hp : p.block < lo ∨ hi ≤ p.block) (u : Value) : FlatIn (w.setCell p u) A zs lo hi :=
  h.keep (by simp [World.setCell]) fun k h1 h2 => Below.heap_setCell w p u k (by omega)
theorem FlatIn.alloc {w : World} {A : Option Addr} {zs : List Int} {lo hi : Nat} (h : FlatIn w A zs lo hi) (o : Obj) : FlatIn (w.alloc o) A zs lo hi :=
  h.below (Below.alloc (Below.refl _ _) (Nat.le_refl _) o) h.2.1
theorem FlatIn.drew {w : World} {A : Option Addr} {zs : List Int} {lo hi : Nat} (h : FlatIn w A zs lo hi) : FlatIn w.drew A zs lo hi := h
/-- what a call's own slice owns, read flat -/
theorem FlatIn.of_owns {w : World} {base hi : Nat} {e : TypeId} {size n cap : Nat} {A : Option Addr} {zs : List Int} (h : w.ownsRow base e size (.slice A n cap) n (zs.map (.int .i64))) (hh : hi = w.heap.size) : FlatIn w A zs base hi := by
  subst hh
  refine ⟨fun a ea => ?_, Nat.le_refl _, fun j z hz => ?_⟩
  · subst ea
    rcases h.2 with ⟨h', _⟩ | ⟨g, cap', cur, h', hb, hg, _⟩
    · cases h'
    · cases h'
      exact ⟨g, rfl, hb, (Array.getElem?_eq_some_iff.1 hg).1, fun o => frozen_of_row w g o _ _ hg⟩
  · rcases h.2 with ⟨h', h0⟩ | ⟨g, cap', cur, h', hb, hg, _⟩
    · have := h.1
      subst h0
      simp at this
      subst this
      simp at hz
    · cases h'
      refine ⟨g, 0, rfl, (Array.getElem?_eq_some_iff.1 hg).1, ?_⟩
      have := h.cells (g := g) rfl j (.int .i64 z) (by simp [hz])
      rw [Nat.zero_add]
      have e : (⟨g, 0, none⟩ : Addr).add j = ⟨g, j, none⟩ := by
        unfold Addr.add
        split
        · next h0 => subst h0; rfl
        · simp
      rw [e] at this
      exact this
end Go.Proofs.Ytlihnipbdckmkaa
