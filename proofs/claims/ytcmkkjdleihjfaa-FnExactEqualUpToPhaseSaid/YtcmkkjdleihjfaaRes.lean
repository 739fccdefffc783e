/- Regions that draw and hand on a matrix in new memory: what the laws keep of it. -/
import Derived.Test.YtcmkkjdleihjfaaKeepC
import Derived.Test.YtcmkkjdleihjfaaSclM
import Derived.Test.YtcmkkjdleihjfaaLoc
namespace Go.Proofs.Ytcmkkjdleihjfaa
open Go.RowKit

theorem SB_lo {W w1 w2 : World} {A : Option Addr} {zs : List Int} (h : (∀ b o, b < W.heap.size → w1.cell? ⟨b, o, none⟩ = W.cell? ⟨b, o, none⟩) ∧ Below W.heap.size W w1) (_hb : Below w1.heap.size w1 w2) (hf : FlatIn w2 A zs w1.heap.size w2.heap.size) :
    ∃ lo, W.heap.size ≤ lo ∧ lo = w1.heap.size ∧ FlatIn w2 A zs lo w2.heap.size := ⟨_, h.2.size, rfl, hf⟩
theorem LocD.touch {lo hi : Nat} {w w' : World} {b : Nat} {y : D5} (h : LocD w b y) (ht : Touch lo hi w w') (hd : b < lo ∨ hi ≤ b) : LocD w' b y :=
  h.of_same ⟨Nat.lt_of_lt_of_le h.1 ht.size, ht.block b h.1 hd⟩

theorem sclBd (r c : Int) (xs : List D5) (y : D5) : (if sclAll r c xs y then sclL r.toNat c.toNat xs y else []).length ≤ 1048576 := by
  split
  · next h1 =>
    have h : mOk r c xs = true := by simp [sclAll] at h1; exact h1.1.1
    obtain ⟨R, C, rfl, rfl, _, hR, _, hC, _⟩ := dims h
    rw [sclL, cellsM_len]
    have := Nat.mul_le_mul hR hC
    show R * C ≤ _
    omega
  · simp
end Go.Proofs.Ytcmkkjdleihjfaa
