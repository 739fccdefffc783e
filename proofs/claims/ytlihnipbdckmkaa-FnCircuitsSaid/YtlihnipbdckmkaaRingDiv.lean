/- Divisibility by the square root of 2, and DivRootTwo, of the program and of the reference. -/
import Derived.Test.YtlihnipbdckmkaaRingSpec
namespace Go.Proofs.Ytlihnipbdckmkaa
open Go.RowKit

def evenB (a b c d : Int) : Bool := ((a + c).tmod 2 == 0) && ((b + d).tmod 2 == 0)
def divOk (a b c d : Int) : Bool := rOk a b c d && evenB a b c d
def divRes (a b c d : Int) : Value := .tuple #[rv (rI (divOk a b c d) ((b - d).tdiv 2)) (rI (divOk a b c d) ((a + c).tdiv 2)) (rI (divOk a b c d) ((b + d).tdiv 2)) (rI (divOk a b c d) ((c - a).tdiv 2)), .bool (divOk a b c d)]

theorem tdiv2_bd {n : Int} (h1 : -2000000000 ≤ n) (h2 : n ≤ 2000000000) : -1000000000 ≤ n.tdiv 2 ∧ n.tdiv 2 ≤ 1000000000 := by
  rcases Int.le_total 0 n with h | h
  · rw [Int.tdiv_eq_ediv_of_nonneg h]
    omega
  · have e : n.tdiv 2 = -((-n) / 2) := by
      rw [← Int.tdiv_eq_ediv_of_nonneg (by omega : 0 ≤ -n), Int.neg_tdiv, Int.neg_neg]
    rw [e]
    omega

theorem half_ok {a b c d : Int} (hx : rOk a b c d = true) : rOk ((b - d).tdiv 2) ((a + c).tdiv 2) ((b + d).tdiv 2) ((c - a).tdiv 2) = true := by
  have := rOk_iff.1 hx
  rw [rOk_iff]
  exact ⟨tdiv2_bd (by omega) (by omega), tdiv2_bd (by omega) (by omega), tdiv2_bd (by omega) (by omega), tdiv2_bd (by omega) (by omega)⟩

end Go.Proofs.Ytlihnipbdckmkaa
