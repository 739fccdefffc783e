/- Regions that draw and hand on a circuit in new memory: what the laws keep of it. -/
import Derived.Test.YtlihnipbdckmkaaCatM
namespace Go.Proofs.Ytlihnipbdckmkaa
open Go.RowKit

theorem SB_lo {W w1 w2 : World} {A : Option Addr} {zs : List Int} (h : (∀ b o, b < W.heap.size → w1.cell? ⟨b, o, none⟩ = W.cell? ⟨b, o, none⟩) ∧ Below W.heap.size W w1) (_hb : Below w1.heap.size w1 w2) (hf : FlatIn w2 A zs w1.heap.size w2.heap.size) :
    ∃ lo, W.heap.size ≤ lo ∧ lo = w1.heap.size ∧ FlatIn w2 A zs lo w2.heap.size := ⟨_, h.2.size, rfl, hf⟩
theorem catBd (q : Int) (xs : List G3) (q' : Int) (ys : List G3) : (if catOk q xs q' ys then xs ++ ys else []).length ≤ 1048576 := by
  split
  · next h =>
    unfold catOk at h
    rw [Bool.and_eq_true, decide_eq_true_eq] at h
    rw [List.length_append]
    omega
  · simp
end Go.Proofs.Ytlihnipbdckmkaa
