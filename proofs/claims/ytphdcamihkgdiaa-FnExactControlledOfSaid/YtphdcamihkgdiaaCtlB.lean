/- The size of what ControlledOf answers. -/
import Derived.Test.YtphdcamihkgdiaaCtlM
namespace Go.Proofs.Ytphdcamihkgdiaa
open Go.RowKit
theorem ctlBd (r c : Int) (xs : List D5) : (if ctlOk r c xs then ctlL r.toNat xs else []).length ≤ 1048576 := by
  split
  · next h =>
    rw [ctlOk, Bool.and_eq_true] at h
    have h2 := of_decide_eq_true h.2
    have h3 : 2 * r.toNat ≤ 32 := by omega
    rw [ctlL, cellsM_len]
    have := Nat.mul_le_mul h3 h3
    omega
  · simp
end Go.Proofs.Ytphdcamihkgdiaa
