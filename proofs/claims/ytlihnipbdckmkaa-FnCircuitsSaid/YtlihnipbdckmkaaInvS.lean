/- Inverse of the reference. -/
import Derived.Test.YtlihnipbdckmkaaInvP
import Derived.Deep.AppendLies
import Derived.Deep.LoopGhost
import Derived.Test.YtlihnipbdckmkaaOwnB
namespace Go.Proofs.Ytlihnipbdckmkaa
open Go.RowKit

/-- block b holds the circuit that is being made: its qubits, and a slice of the call's own, not in block F -/
def MadeC (w : World) (b base F : Nat) (q : Int) (xs : List G3) : Prop :=
  ∃ (A : Option Addr) (cap : Nat), w.heap[b]? = some (.cells #[.int .i64 q, .slice A xs.length cap] 38 (0, 0)) ∧ w.ownsRow base 29 3 (.slice A xs.length cap) xs.length ((flatG xs).map (Value.int .i64)) ∧ ∀ k, (Value.slice A xs.length cap).ownBlock = some k → k ≠ F
/-- block b is a circuit of zeros -/
def ZeroC (w : World) (b : Nat) : Prop := w.heap[b]? = some (.cells #[.int .i64 0, .slice none 0 0] 38 (0, 0))
theorem MadeC.below {w w' : World} {b base F : Nat} {q : Int} {xs : List G3} (h : MadeC w b base F q xs) (hb : Below w.heap.size w w') : MadeC w' b base F q xs := by
  obtain ⟨A, cap, h1, h2, h3⟩ := h
  exact ⟨A, cap, (hb.block b (Array.getElem?_eq_some_iff.1 h1).1).trans h1, owns_below h2 hb, h3⟩
theorem MadeC.far {w : World} {b base F F' : Nat} {q : Int} {xs : List G3} (h : MadeC w b base F q xs) (hF : w.heap.size ≤ F') : MadeC w b base F' q xs := by
  obtain ⟨A, cap, h1, h2, _⟩ := h
  exact ⟨A, cap, h1, h2, fun k hk => by have := (h2.lt k hk).2; omega⟩
theorem MadeC.low {w : World} {b base F F' : Nat} {q : Int} {xs : List G3} (h : MadeC w b base F q xs) (hF : F' < base) : MadeC w b base F' q xs := by
  obtain ⟨A, cap, h1, h2, _⟩ := h
  exact ⟨A, cap, h1, h2, fun k hk => by have := (h2.lt k hk).1; omega⟩
/-- one element more -/
theorem MadeC.push {w3 : World} {b base F g cap : Nat} {q : Int} {A : Option Addr} {cap0 : Nat} {xs : List G3} {x : G3} (hb : w3.heap[b]? = some (.cells #[.int .i64 q, .slice A xs.length cap0] 38 (0, 0)))
    (hown : w3.ownsRow base 29 3 (.slice (some ⟨g, 0, none⟩) (xs.length + 1) cap) (xs.length + 1) ((flatG xs).map (Value.int .i64) ++ [.int .i64 x.1, .int .i64 x.2.1, .int .i64 x.2.2])) (hlt : b < base) (hg : g ≠ F) :
    MadeC (w3.setCell ⟨b, 1, none⟩ (.slice (some ⟨g, 0, none⟩) (xs.length + 1) cap)) b base F q (xs ++ [x]) := by
  have e2 : (xs ++ [x]).length = xs.length + 1 := by simp
  refine ⟨some ⟨g, 0, none⟩, cap, ?_, ?_, ?_⟩
  · rw [e2]
    exact heap_setCell_same w3 b 1 _ _ _ hb
  · rw [e2, flatG_append, List.map_append]
    exact ownsRow_setCell_below hown (by dsimp only; omega) _
  · rw [e2]
    intro k hk
    simp [Value.ownBlock] at hk
    omega

end Go.Proofs.Ytlihnipbdckmkaa
