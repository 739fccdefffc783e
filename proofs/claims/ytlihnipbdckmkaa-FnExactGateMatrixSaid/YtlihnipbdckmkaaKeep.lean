/- Regions that read a matrix and an element, and append to a matrix in memory of the call's own: what they keep. -/
import Derived.Test.YtlihnipbdckmkaaMatOf
import Derived.Deep.RegionHeld3
namespace Go.Proofs.Ytlihnipbdckmkaa
open Go.RowKit

/-- what stands in the slice's cell of a matrix in block b -/
def outOf (w : World) (b : Nat) : Value := (w.cell? ⟨b, 2, none⟩).getD undef
/-- w' reads as w below, and as wr at block P; block O has its slice's cell -/
structure KS (w wr : World) (P O : Nat) (w' : World) : Prop where
  below : Below w.heap.size w w'
  same : w'.heap[P]? = wr.heap[P]?
  lt : P < w'.heap.size
  ltO : O < w'.heap.size
  out : ∃ v, w'.cell? ⟨O, 2, none⟩ = some v
theorem KS.refl {w wr : World} {P O : Nat} {v : Value} (hb : Below w.heap.size w wr) (hP : P < wr.heap.size) (hO : O < wr.heap.size) (hv : wr.cell? ⟨O, 2, none⟩ = some v) : KS w wr P O wr := ⟨hb, rfl, hP, hO, v, hv⟩
theorem KS.drew {w wr w' : World} {P O : Nat} (h : KS w wr P O w') : KS w wr P O w'.drew := ⟨h.below.drew, h.same, h.lt, h.ltO, h.out⟩
theorem KS.call {w wr w' w2 : World} {P O : Nat} (h : KS w wr P O w') (hb : Below w'.heap.size w' w2) : KS w wr P O w2 :=
  ⟨h.below.trans (hb.mono h.below.size), (hb.block P h.lt).trans h.same, Nat.lt_of_lt_of_le h.lt hb.size, Nat.lt_of_lt_of_le h.ltO hb.size, let ⟨v, hv⟩ := h.out; ⟨v, (hb.cell (p := ⟨O, 2, none⟩) h.ltO).trans hv⟩⟩
theorem KS.alloc {w wr w' : World} {P O : Nat} (h : KS w wr P O w') (o : Obj) : KS w wr P O (w'.alloc o) := h.call (Below.alloc (Below.refl _ _) (Nat.le_refl _) o)
theorem KS.set {w wr w' : World} {P O : Nat} (h : KS w wr P O w') {p : Addr} (hp : w.heap.size ≤ p.block ∧ P ≠ p.block) (u : Value) : KS w wr P O (w'.setCell p u) :=
  ⟨h.below.setCell hp.1 u, (Below.heap_setCell w' p u P hp.2).trans h.same, by simpa [World.setCell] using h.lt, by simpa [World.setCell] using h.ltO, by
    obtain ⟨v, hv⟩ := h.out
    by_cases e : p = ⟨O, 2, none⟩
    · subst e
      exact ⟨u, by rw [cell_set_same, hv]; rfl⟩
    · exact ⟨v, by rw [World.cell?_setCell_other (h := e)]; exact hv⟩⟩
theorem KS.grown {w wr w' w2 : World} {P O : Nat} {row : Option Nat} (h : KS w wr P O w') (hg : w'.grownBy w2 row) (hr : ∀ k, row = some k → w.heap.size ≤ k ∧ P ≠ k ∧ O ≠ k) : KS w wr P O w2 :=
  ⟨h.below.grown hg h.below.size fun k hk => (hr k hk).1, (hg.block P h.lt fun e => (hr P e.symm).2.1 rfl).trans h.same, Nat.lt_of_lt_of_le h.lt hg.size, Nat.lt_of_lt_of_le h.ltO hg.size,
    let ⟨v, hv⟩ := h.out; ⟨v, (World.cell?_of_block (a := ⟨O, 2, none⟩) (hg.block O h.ltO fun e => (hr O e.symm).2.2 rfl)).trans hv⟩⟩
theorem KS.touch {w wr w' w2 : World} {P O lo hi : Nat} (h : KS w wr P O w') (ht : Touch lo hi w' w2) (h1 : w.heap.size ≤ lo) (h2 : P < lo ∨ hi ≤ P) (h3 : O < lo ∨ hi ≤ O) : KS w wr P O w2 :=
  ⟨h.below.trans (ht.far h1 h.below.size), (ht.block P h.lt h2).trans h.same, Nat.lt_of_lt_of_le h.lt ht.size, Nat.lt_of_lt_of_le h.ltO ht.size, let ⟨v, hv⟩ := h.out; ⟨v, (ht.cell O 2 h.ltO h3).trans hv⟩⟩
theorem KS.reads {w wr w' : World} {P O b o : Nat} {x : D5} (h : KS w wr P O w') (hf : Five w b o x) (hb : b < w.heap.size) :
    (∀ k, w'.cell? ⟨P, k, none⟩ = wr.cell? ⟨P, k, none⟩) ∧ w'.cell? ⟨O, 2, none⟩ = some (outOf w' O) ∧ (w'.cell? ⟨b, o, none⟩ = some (.int .i64 x.1.1) ∧ w'.cell? ⟨b, o + 1, none⟩ = some (.int .i64 x.1.2.1) ∧ w'.cell? ⟨b, o + 2, none⟩ = some (.int .i64 x.1.2.2.1) ∧ w'.cell? ⟨b, o + 3, none⟩ = some (.int .i64 x.1.2.2.2) ∧ w'.cell? ⟨b, o + 4, none⟩ = some (.int .i64 x.2)) ∧ KS w wr P O w' :=
  ⟨fun k => World.cell?_of_block (a := ⟨P, k, none⟩) h.same, by obtain ⟨v, hv⟩ := h.out; simp [outOf, hv], hf.below h.below hb, h⟩

/-- one element more -/
theorem Made.push {w3 : World} {b base g cap : Nat} {r c : Int} {A : Option Addr} {cap0 : Nat} {xs : List D5} {x : D5} (hb : w3.heap[b]? = some (.cells #[.int .i64 r, .int .i64 c, .slice A xs.length cap0] 26 (0, 0)))
    (hown : w3.ownsRow base 60 5 (.slice (some ⟨g, 0, none⟩) (xs.length + 1) cap) (xs.length + 1) ((flatD xs).map (Value.int .i64) ++ [.int .i64 x.1.1, .int .i64 x.1.2.1, .int .i64 x.1.2.2.1, .int .i64 x.1.2.2.2, .int .i64 x.2])) (hlt : b < base) :
    Made (w3.setCell ⟨b, 2, none⟩ (.slice (some ⟨g, 0, none⟩) (xs.length + 1) cap)) b base r c (xs ++ [x]) := by
  have e2 : (xs ++ [x]).length = xs.length + 1 := by simp
  refine ⟨some ⟨g, 0, none⟩, cap, ?_, ?_⟩
  · rw [e2]
    exact heap_setCell_same w3 b 2 _ _ _ hb
  · rw [e2, flatD_append, List.map_append]
    exact ownsRow_setCell_below hown (by dsimp only; omega) _
end Go.Proofs.Ytlihnipbdckmkaa
