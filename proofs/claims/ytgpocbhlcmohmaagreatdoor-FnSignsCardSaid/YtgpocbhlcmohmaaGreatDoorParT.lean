/- ParseRing, of the reference. -/
import Derived.Test.YtgpocbhlcmohmaaGreatDoorParI
import Derived.Test.YtgpocbhlcmohmaaGreatDoorFmtR
import Derived.Test.YtgpocbhlcmohmaaGreatDoorDraw
import Derived.Lib.SlicesS
import Derived.Deep.DeepCutAuto
namespace Go.Proofs.YtgpocbhlcmohmaaGreatDoor
open Go.RowKit

/-- a slice of the call's own over strings: its cells -/
theorem OwnT.cell {w : World} {base : Nat} {v : Value} {xs : List ByteArray} (h : OwnT w base v xs) (hne : xs ≠ []) :
    ∃ (g cap : Nat), v = .slice (some ⟨g, 0, none⟩) xs.length cap ∧ base ≤ g ∧ g < w.heap.size ∧ xs.length ≤ cap ∧ ∀ j x, xs[j]? = some x → w.cell? ⟨g, j, none⟩ = some (.string x) := by
  obtain ⟨A, cap, rfl, hown⟩ := h
  have hlen : 0 < xs.length := List.length_pos_iff.2 hne
  obtain ⟨g, cap2, hv, _, _⟩ := hown.form (by omega)
  obtain ⟨rfl, rfl⟩ : A = some ⟨g, 0, none⟩ ∧ cap = cap2 := by injection hv with h1 h2 h3; exact ⟨h1, h3⟩
  refine ⟨g, cap, rfl, ?_, (hown.lt g rfl).2, ?_, fun j x hj => ?_⟩
  · exact (hown.lt g rfl).1
  · rcases hown.2 with ⟨h, _⟩ | ⟨g', cap3, cur, h, _, _, h4, _⟩
    · cases h
    · injection h with _ _ h6; omega
  · have h := hown.cells (g := g) rfl j (.string x) (by simp [hj])
    rw [Lib.add_plain] at h
    simpa using h

theorem pcsB_len (c : UInt8) (s : ByteArray) : (pcsB c s).length ≤ s.size + 1 := by
  have h : ∀ (l cur : List UInt8), (pcs c cur l).length ≤ l.length + 1 := by
    intro l
    induction l with
    | nil => intro cur; simp [pcs]
    | cons b r ih =>
      intro cur
      rw [pcs]
      split
      · have := ih []
        simp only [List.length_cons]
        omega
      · have := ih (cur ++ [b])
        simp only [List.length_cons]
        omega
  have := h s.data.toList []
  simpa [pcsB] using this

end Go.Proofs.YtgpocbhlcmohmaaGreatDoor
