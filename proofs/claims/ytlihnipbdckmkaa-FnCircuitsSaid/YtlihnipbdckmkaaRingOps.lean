/- The ring's exported functions, of the program and of the reference: each contract names the same value. -/
import Derived.Test.YtlihnipbdckmkaaRingIf
namespace Go.Proofs.Ytlihnipbdckmkaa
open Go.RowKit

theorem own_blk {w : World} {g n : Nat} {t : TypeId} (cs : List Value) (h : w.heap[g]? = some (.cells cs.toArray t (0, 0))) (hl : cs.length = n * 4) (hm : n ≤ maxLen) : w.ownsRow g t 4 (.slice (some ⟨g, 0, none⟩) n n) n cs :=
  ⟨hl, .inr ⟨g, n, cs.toArray, rfl, Nat.le_refl _, h, Nat.le_refl _, hm, by simpa using hl, by simp [← hl]⟩⟩

/-- what a ring operation hands back: the number, if something holds and it is valid -/
def ringRes (X : Bool) (a b c d : Int) : Value := .tuple #[rv (rI (X && rOk a b c d) a) (rI (X && rOk a b c d) b) (rI (X && rOk a b c d) c) (rI (X && rOk a b c d) d), .bool (X && rOk a b c d)]
theorem ringRes_eq {X : Bool} {a b c d a' b' c' d' : Int} (h : X = true → a = a' ∧ b = b' ∧ c = c' ∧ d = d') : Ending.returned (ringRes X a b c d) = .returned (ringRes X a' b' c' d') := by
  cases X with
  | false => rfl
  | true => obtain ⟨rfl, rfl, rfl, rfl⟩ := h rfl; rfl

theorem okAnd {p q : Bool} (h : (p && q) = true) : p = true ∧ q = true := by simpa using h

theorem mul_bd {x y : Int} (hx : -1000000000 ≤ x ∧ x ≤ 1000000000) (hy : -1000000000 ≤ y ∧ y ≤ 1000000000) : -1000000000000000000 ≤ x * y ∧ x * y ≤ 1000000000000000000 := by
  obtain ⟨h1, h2⟩ := hx
  obtain ⟨h3, h4⟩ := hy
  have ha : x.natAbs ≤ 1000000000 := by omega
  have hb : y.natAbs ≤ 1000000000 := by omega
  have hm : (x * y).natAbs ≤ 1000000000 * 1000000000 := by rw [Int.natAbs_mul]; exact Nat.mul_le_mul ha hb
  omega
theorem mul_bds {a b c d a' b' c' d' : Int} (hx : (-1000000000 ≤ a ∧ a ≤ 1000000000) ∧ (-1000000000 ≤ b ∧ b ≤ 1000000000) ∧ (-1000000000 ≤ c ∧ c ≤ 1000000000) ∧ (-1000000000 ≤ d ∧ d ≤ 1000000000))
    (hy : (-1000000000 ≤ a' ∧ a' ≤ 1000000000) ∧ (-1000000000 ≤ b' ∧ b' ≤ 1000000000) ∧ (-1000000000 ≤ c' ∧ c' ≤ 1000000000) ∧ (-1000000000 ≤ d' ∧ d' ≤ 1000000000)) :
    (-1000000000000000000 ≤ a * a' ∧ a * a' ≤ 1000000000000000000) ∧ (-1000000000000000000 ≤ a * b' ∧ a * b' ≤ 1000000000000000000) ∧ (-1000000000000000000 ≤ a * c' ∧ a * c' ≤ 1000000000000000000) ∧ (-1000000000000000000 ≤ a * d' ∧ a * d' ≤ 1000000000000000000) ∧
    (-1000000000000000000 ≤ b * a' ∧ b * a' ≤ 1000000000000000000) ∧ (-1000000000000000000 ≤ b * b' ∧ b * b' ≤ 1000000000000000000) ∧ (-1000000000000000000 ≤ b * c' ∧ b * c' ≤ 1000000000000000000) ∧ (-1000000000000000000 ≤ b * d' ∧ b * d' ≤ 1000000000000000000) ∧
    (-1000000000000000000 ≤ c * a' ∧ c * a' ≤ 1000000000000000000) ∧ (-1000000000000000000 ≤ c * b' ∧ c * b' ≤ 1000000000000000000) ∧ (-1000000000000000000 ≤ c * c' ∧ c * c' ≤ 1000000000000000000) ∧ (-1000000000000000000 ≤ c * d' ∧ c * d' ≤ 1000000000000000000) ∧
    (-1000000000000000000 ≤ d * a' ∧ d * a' ≤ 1000000000000000000) ∧ (-1000000000000000000 ≤ d * b' ∧ d * b' ≤ 1000000000000000000) ∧ (-1000000000000000000 ≤ d * c' ∧ d * c' ≤ 1000000000000000000) ∧ (-1000000000000000000 ≤ d * d' ∧ d * d' ≤ 1000000000000000000) := by
  obtain ⟨h0, h1, h2, h3⟩ := hx
  obtain ⟨k0, k1, k2, k3⟩ := hy
  exact ⟨mul_bd h0 k0, mul_bd h0 k1, mul_bd h0 k2, mul_bd h0 k3, mul_bd h1 k0, mul_bd h1 k1, mul_bd h1 k2, mul_bd h1 k3, mul_bd h2 k0, mul_bd h2 k1, mul_bd h2 k2, mul_bd h2 k3, mul_bd h3 k0, mul_bd h3 k1, mul_bd h3 k2, mul_bd h3 k3⟩
theorem rOk_neg {a b c d : Int} (h : rOk a b c d = true) : rOk (-a) (-b) (-c) (-d) = true := by
  have := rOk_iff.1 h
  rw [rOk_iff]
  omega


end Go.Proofs.Ytlihnipbdckmkaa
