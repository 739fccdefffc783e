/- DivRing, of the program and of the reference. -/
import Derived.Test.YtlihnipbdckmkaaRingAbs
import Derived.Test.YtlihnipbdckmkaaMem
import Derived.Laws.StructEq
import Derived.Test.YtlihnipbdckmkaaDraw
import Derived.Deep.DeepCutAuto
namespace Go.Proofs.Ytlihnipbdckmkaa
open Go.RowKit

def mulQ (x y : Q4) : Q4 := (x.1 * y.1 - x.2.1 * y.2.2.2 - x.2.2.1 * y.2.2.1 - x.2.2.2 * y.2.1, x.1 * y.2.1 + x.2.1 * y.1 - x.2.2.1 * y.2.2.2 - x.2.2.2 * y.2.2.1,
  x.1 * y.2.2.1 + x.2.1 * y.2.1 + x.2.2.1 * y.1 - x.2.2.2 * y.2.2.2, x.1 * y.2.2.2 + x.2.1 * y.2.2.1 + x.2.2.1 * y.2.1 + x.2.2.2 * y.1)
def conjQ (x : Q4) : Q4 := (x.1, -x.2.2.2, -x.2.2.1, -x.2.1)
def uQ (x : Q4) : Int := absU x.1 x.2.1 x.2.2.1 x.2.2.2
def vQ (x : Q4) : Int := absV x.1 x.2.1 x.2.2.1 x.2.2.2
def absOkQ (x : Q4) : Bool := absOk x.1 x.2.1 x.2.2.1 x.2.2.2
def nQ (x : Q4) : Int := uQ x * uQ x - 2 * vQ x * vQ x
def firstQ (x y : Q4) : Q4 := mulQ x (conjQ y)
def secondQ (x y : Q4) : Q4 := mulQ (firstQ x y) (uQ y, -vQ y, 0, vQ y)
def dvdQ (s : Q4) (n : Int) : Bool := (s.1.tmod n == 0) && (s.2.1.tmod n == 0) && (s.2.2.1.tmod n == 0) && (s.2.2.2.tmod n == 0)
def quoQ (s : Q4) (n : Int) : Q4 := (s.1.tdiv n, s.2.1.tdiv n, s.2.2.1.tdiv n, s.2.2.2.tdiv n)
def quoOk (x y : Q4) : Bool := absOkQ y && !(uQ y == 0) && (okQ x && okQ (firstQ x y)) && okQ (secondQ x y) && dvdQ (secondQ x y) (nQ y)
/-- a ring number, or nothing -/
def optRes (ok : Bool) (q : Q4) : Value := .tuple #[rv (rI ok q.1) (rI ok q.2.1) (rI ok q.2.2.1) (rI ok q.2.2.2), .bool ok]

theorem even_sq {u : Int} (h : (u * u) % 2 = 0) : u % 2 = 0 := by
  rcases Int.emod_two_eq u with h0 | h1
  · exact h0
  · exfalso
    rw [Int.mul_emod, h1] at h
    simp at h
/-- 2 has no rational square root -/
theorem root_two : ∀ (m : Nat) (u v : Int), u.natAbs ≤ m → u * u = 2 * v * v → u = 0
  | 0, u, v, h, _ => by omega
  | m + 1, u, v, h, e => by
    have e' : u * u = 2 * (v * v) := by rw [e, Int.mul_assoc]
    have hu : u % 2 = 0 := even_sq (by rw [e']; omega)
    obtain ⟨a, rfl⟩ : ∃ a, u = 2 * a := ⟨u / 2, by omega⟩
    have e2 : v * v = 2 * (a * a) := by
      have : 2 * a * (2 * a) = 4 * (a * a) := by
        rw [Int.mul_assoc, Int.mul_left_comm a 2 a, ← Int.mul_assoc]
        omega
      omega
    have hv : v % 2 = 0 := even_sq (by rw [e2]; omega)
    obtain ⟨b, rfl⟩ : ∃ b, v = 2 * b := ⟨v / 2, by omega⟩
    have e3 : a * a = 2 * b * b := by
      have : 2 * b * (2 * b) = 4 * (b * b) := by
        rw [Int.mul_assoc, Int.mul_left_comm b 2 b, ← Int.mul_assoc]
        omega
      rw [Int.mul_assoc]
      omega
    have ha : a = 0 := root_two m a b (by omega) e3
    omega
theorem nQ_ne {y : Q4} (h : uQ y ≠ 0) : nQ y ≠ 0 := by
  intro h0
  exact h (root_two _ (uQ y) (vQ y) (Nat.le_refl _) (by unfold nQ at h0; omega))
theorem sq_nonneg (a : Int) : 0 ≤ a * a := by
  rcases Int.le_total 0 a with h | h
  · exact Int.mul_nonneg h h
  · exact Int.mul_nonneg_of_nonpos_of_nonpos h h
theorem sq_zero {a : Int} (h : a * a = 0) : a = 0 := by
  rcases Int.mul_eq_zero.1 h with h | h <;> exact h
theorem uQ_zero {y : Q4} : uQ y = 0 ↔ y.1 = 0 ∧ y.2.1 = 0 ∧ y.2.2.1 = 0 ∧ y.2.2.2 = 0 := by
  obtain ⟨a, b, c, d⟩ := y
  simp only [uQ, absU]
  have h1 := sq_nonneg a
  have h2 := sq_nonneg b
  have h3 := sq_nonneg c
  have h4 := sq_nonneg d
  constructor
  · intro h
    exact ⟨sq_zero (by omega), sq_zero (by omega), sq_zero (by omega), sq_zero (by omega)⟩
  · rintro ⟨rfl, rfl, rfl, rfl⟩
    rfl

theorem tdiv_bd {x n : Int} (hx : -1000000000 ≤ x ∧ x ≤ 1000000000) : -1000000000 ≤ x.tdiv n ∧ x.tdiv n ≤ 1000000000 := by
  have h1 : (x.tdiv n).natAbs ≤ x.natAbs := by
    rw [Int.natAbs_tdiv]
    exact Nat.div_le_self _ _
  omega
theorem quoQ_ok {s : Q4} {n : Int} (h : okQ s = true) : okQ (quoQ s n) = true := by
  have := rOk_iff.1 h
  exact rOk_iff.2 ⟨tdiv_bd this.1, tdiv_bd this.2.1, tdiv_bd this.2.2.1, tdiv_bd this.2.2.2⟩

theorem Try.stoodRing : Try.prog.stoodInHeld 58 = false := by kernel_rfl
theorem Try.guardRing : Try.prog.eqGuardType Try.prog.depth 58 = false := by kernel_rfl
theorem run_eqR0 (a b c d : Int) (w : World) : (binOp .eql 58 (rv a b c d) (rv 0 0 0 0)).run Try.prog w = .ok (.bool (uQ (a, b, c, d) == 0)) w := by
  have h : (uQ (a, b, c, d) == 0) = (a == 0 && (b == 0 && (c == 0 && d == 0))) := by
    rw [Bool.eq_iff_iff]
    simp [uQ_zero]
  rw [h, run_eql_struct, run_equalIn_agg w 9999 58 _ _ (by kernel_rfl) Try.stoodRing]
  simp only [Program.fieldsOf, Try.underlying58]
  by_cases h1 : a = 0 <;> by_cases h2 : b = 0 <;> by_cases h3 : c = 0 <;> by_cases h4 : d = 0 <;> simp [go_sem, h1, h2, h3, h4]
theorem run_gdR (op : BinOp) (t : TypeId) (x y : Operand) (xs ys : Array Value) (w : World) (ht : t = 58) : (eqGuard op t x y (.agg xs) (.agg ys)).run Try.prog w = .ok () w := by
  subst ht
  exact run_eqGuard_agg w op _ x y xs ys Try.guardRing

theorem absRes_of {a b c d : Int} {ok : Bool} (h : absOkQ (a, b, c, d) = ok) : absRes a b c d = .tuple #[.int .i64 (rI ok (uQ (a, b, c, d))), .int .i64 (rI ok (vQ (a, b, c, d))), .bool ok] := by
  have h' : absOk a b c d = ok := h
  simp only [absRes, h']
  rfl
theorem absOk_r {y : Q4} (h : absOkQ y = true) : okQ y = true := by
  simp only [absOkQ, absOk, Bool.and_eq_true] at h
  exact h.1
theorem uvOk {y : Q4} (h : absOkQ y = true) : okQ (uQ y, -vQ y, 0, vQ y) = true := by
  have := absOk_bd h
  refine rOk_iff.2 ?_
  simp only [uQ, vQ]
  omega
theorem conjOk {y : Q4} (h : okQ y = true) : okQ (conjQ y) = true := by
  have := rOk_iff.1 h
  refine rOk_iff.2 ?_
  simp only [conjQ]
  omega
theorem conj_of {a b c d : Int} (h : okQ (a, b, c, d) = true) : ringRes (rOk a b c d) a (-d) (-c) (-b) = .tuple #[rv a (-d) (-c) (-b), .bool true] := by
  have h1 : rOk a b c d = true := h
  have h2 : rOk a (-d) (-c) (-b) = true := conjOk h
  simp [ringRes, h1, h2, rI_t]
theorem mul_of {a b c d a' b' c' d' : Int} {ok : Bool} (h1 : okQ (a', b', c', d') = true) (h : (okQ (a, b, c, d) && okQ (mulQ (a, b, c, d) (a', b', c', d'))) = ok) :
    ringRes (rOk a b c d && rOk a' b' c' d') (a * a' - b * d' - c * c' - d * b') (a * b' + b * a' - c * d' - d * c') (a * c' + b * b' + c * a' - d * d') (a * d' + b * c' + c * b' + d * a') =
      optRes ok (mulQ (a, b, c, d) (a', b', c', d')) := by
  have h1' : rOk a' b' c' d' = true := h1
  have h' : (rOk a b c d && rOk (a * a' - b * d' - c * c' - d * b') (a * b' + b * a' - c * d' - d * c') (a * c' + b * b' + c * a' - d * d') (a * d' + b * c' + c * b' + d * a')) = ok := h
  simp only [ringRes, h1', Bool.and_true, h']
  rfl
end Go.Proofs.Ytlihnipbdckmkaa
