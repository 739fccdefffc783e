/- Plain laws of the ring: products, conjugations, norms. -/
import Derived.Test.YtcmkkjdleihjfaaRingQuo
import Derived.Test.YtcmkkjdleihjfaaRingDiv
namespace Go.Proofs.Ytcmkkjdleihjfaa
open Go.RowKit

def addQ (x y : Q4) : Q4 := (x.1 + y.1, x.2.1 + y.2.1, x.2.2.1 + y.2.2.1, x.2.2.2 + y.2.2.2)
def bulQ (x : Q4) : Q4 := (x.1, -x.2.1, x.2.2.1, -x.2.2.2)
def rootQ (x : Q4) : Q4 := (x.2.1 - x.2.2.2, x.1 + x.2.2.1, x.2.1 + x.2.2.2, x.2.2.1 - x.1)
theorem q_ext {a b c d a' b' c' d' : Int} (h1 : a = a') (h2 : b = b') (h3 : c = c') (h4 : d = d') : ((a, b, c, d) : Q4) = (a', b', c', d') := by rw [h1, h2, h3, h4]
theorem mulQ_comm (x y : Q4) : mulQ y x = mulQ x y := by
  obtain ⟨a, b, c, d⟩ := x
  obtain ⟨a', b', c', d'⟩ := y
  refine q_ext ?_ ?_ ?_ ?_ <;> simp only <;> grind
theorem mulQ_add (x y z : Q4) : mulQ x (addQ y z) = addQ (mulQ x y) (mulQ x z) := by
  obtain ⟨a, b, c, d⟩ := x
  obtain ⟨a', b', c', d'⟩ := y
  obtain ⟨a2, b2, c2, d2⟩ := z
  refine q_ext ?_ ?_ ?_ ?_ <;> simp only [addQ, mulQ] <;> grind
theorem mulQ_conj (x y : Q4) : mulQ (conjQ x) (conjQ y) = conjQ (mulQ x y) := by
  obtain ⟨a, b, c, d⟩ := x
  obtain ⟨a', b', c', d'⟩ := y
  refine q_ext ?_ ?_ ?_ ?_ <;> simp only [conjQ, mulQ] <;> grind
theorem mulQ_bul (x y : Q4) : mulQ (bulQ x) (bulQ y) = bulQ (mulQ x y) := by
  obtain ⟨a, b, c, d⟩ := x
  obtain ⟨a', b', c', d'⟩ := y
  refine q_ext ?_ ?_ ?_ ?_ <;> simp only [bulQ, mulQ] <;> grind
theorem absU_mul (x y : Q4) : uQ (mulQ x y) = uQ x * uQ y + 2 * vQ x * vQ y := by
  obtain ⟨a, b, c, d⟩ := x
  obtain ⟨a', b', c', d'⟩ := y
  simp only [uQ, vQ, absU, absV, mulQ]
  grind
theorem absV_mul (x y : Q4) : vQ (mulQ x y) = uQ x * vQ y + vQ x * uQ y := by
  obtain ⟨a, b, c, d⟩ := x
  obtain ⟨a', b', c', d'⟩ := y
  simp only [uQ, vQ, absU, absV, mulQ]
  grind
theorem nQ_nonneg (x : Q4) : 0 ≤ nQ x := by
  obtain ⟨a, b, c, d⟩ := x
  have e : nQ (a, b, c, d) = ((a * a + c * c) - (b * b + d * d)) * ((a * a + c * c) - (b * b + d * d)) + 2 * ((b * (c - a) - d * (a + c)) * (b * (c - a) - d * (a + c))) := by
    simp only [nQ, uQ, vQ, absU, absV]
    grind
  rw [e]
  have h1 := sq_nonneg ((a * a + c * c) - (b * b + d * d))
  have h2 := sq_nonneg (b * (c - a) - d * (a + c))
  omega
def sclQ (n : Int) (x : Q4) : Q4 := (x.1 * n, x.2.1 * n, x.2.2.1 * n, x.2.2.2 * n)
theorem second_mul (x y : Q4) : secondQ (mulQ x y) y = sclQ (nQ y) x := by
  obtain ⟨a, b, c, d⟩ := x
  obtain ⟨a', b', c', d'⟩ := y
  refine q_ext ?_ ?_ ?_ ?_ <;> simp only [firstQ, conjQ, mulQ, nQ, uQ, vQ, absU, absV] <;> grind
theorem quo_scl {n : Int} (hn : n ≠ 0) (x : Q4) : quoQ (sclQ n x) n = x := by
  obtain ⟨a, b, c, d⟩ := x
  refine q_ext ?_ ?_ ?_ ?_ <;> exact Int.mul_tdiv_cancel _ hn
theorem rOk_bul {x : Q4} (h : okQ x = true) : okQ (bulQ x) = true := by
  obtain ⟨a, b, c, d⟩ := x
  have := (rOk_iff (a := a) (b := b) (c := c) (d := d)).1 h
  exact (rOk_iff (a := a) (b := -b) (c := c) (d := -d)).2 (by omega)
theorem rOk_conj {x : Q4} (h : okQ x = true) : okQ (conjQ x) = true := by
  obtain ⟨a, b, c, d⟩ := x
  have := (rOk_iff (a := a) (b := b) (c := c) (d := d)).1 h
  exact (rOk_iff (a := a) (b := -d) (c := -c) (d := -b)).2 (by omega)
theorem half_root (x : Q4) : evenB (rootQ x).1 (rootQ x).2.1 (rootQ x).2.2.1 (rootQ x).2.2.2 = true ∧ ((rootQ x).2.1 - (rootQ x).2.2.2).tdiv 2 = x.1 ∧ ((rootQ x).1 + (rootQ x).2.2.1).tdiv 2 = x.2.1 ∧ ((rootQ x).2.1 + (rootQ x).2.2.2).tdiv 2 = x.2.2.1 ∧ ((rootQ x).2.2.1 - (rootQ x).1).tdiv 2 = x.2.2.2 := by
  obtain ⟨a, b, c, d⟩ := x
  have e : ∀ p q : Int, p = q * 2 → p.tdiv 2 = q := fun p q h => by rw [h]; exact Int.mul_tdiv_cancel _ (by decide)
  have m : ∀ p q : Int, p = q * 2 → (p.tmod 2 == 0) = true := fun p q h => by rw [h, Int.mul_tmod_left]; rfl
  simp only [rootQ, evenB]
  refine ⟨?_, e _ _ (by omega), e _ _ (by omega), e _ _ (by omega), e _ _ (by omega)⟩
  rw [m (b - d + (b + d)) b (by omega), m (a + c + (c - a)) c (by omega)]
  rfl
end Go.Proofs.Ytcmkkjdleihjfaa
