/- AbsSquare and NormOf, of the program and of the reference. -/
import Derived.Test.YtlihnipbdckmkaaRingSpec
namespace Go.Proofs.Ytlihnipbdckmkaa
open Go.RowKit

def absU (a b c d : Int) : Int := a * a + b * b + c * c + d * d
def absV (a b c d : Int) : Int := a * b + b * c + c * d - d * a
def absOk (a b c d : Int) : Bool := rOk a b c d && (coefB (absU a b c d) && coefB (absV a b c d))
def absRes (a b c d : Int) : Value := .tuple #[.int .i64 (rI (absOk a b c d) (absU a b c d)), .int .i64 (rI (absOk a b c d) (absV a b c d)), .bool (absOk a b c d)]

theorem ret_ii {a b a' b' : Int} (h1 : a = a') (h2 : b = b') : Ending.returned (.tuple #[.int .i64 a, .int .i64 b]) = .returned (.tuple #[.int .i64 a', .int .i64 b']) := by rw [h1, h2]
theorem below_drewN {B : Nat} {a w : World} (h : Below B a w) (n : Nat) : Below B a (w.drewN n) := ⟨h.os, h.tape, h.output, h.size, h.block⟩

theorem mulc_bd {x y : Int} (hx : -1000000000 ≤ x ∧ x ≤ 1000000000) (hy : -1000000000 ≤ y ∧ y ≤ 1000000000) : -1000000000000000000 ≤ x * y ∧ x * y ≤ 1000000000000000000 := mul_bd hx hy

def normRes (a b c d : Int) : Value := .tuple #[.int .i64 (rI (absOk a b c d) (absU a b c d * absU a b c d - 2 * absV a b c d * absV a b c d)), .bool (absOk a b c d)]
theorem absOk_bd {a b c d : Int} (h : absOk a b c d = true) : (-1000000000 ≤ absU a b c d ∧ absU a b c d ≤ 1000000000) ∧ (-1000000000 ≤ absV a b c d ∧ absV a b c d ≤ 1000000000) := by
  simp only [absOk, Bool.and_eq_true, coefB_iff] at h
  exact h.2
theorem norm_bd {u v : Int} (hu : -1000000000 ≤ u ∧ u ≤ 1000000000) (hv : -1000000000 ≤ v ∧ v ≤ 1000000000) :
    wrap64 (wrap64 (u * u) - wrap64 (wrap64 (2 * v) * v)) = u * u - 2 * v * v := by
  have h1 := mul_bd hu hu
  have h2 := mul_bd hv hv
  have e : (2 * v) * v = 2 * (v * v) := Int.mul_assoc _ _ _
  rw [IntWalk.wrap64_in (2 * v) (by omega), e]
  simp (disch := omega) only [IntWalk.wrap64_in]

end Go.Proofs.Ytlihnipbdckmkaa
