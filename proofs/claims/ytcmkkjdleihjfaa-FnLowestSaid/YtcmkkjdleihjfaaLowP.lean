/- The lowest form: the plain law: going back up gives the number again; the lowest form of the negative. -/
import Derived.Test.YtcmkkjdleihjfaaLow
import Derived.Test.YtcmkkjdleihjfaaRgP
namespace Go.Proofs.Ytcmkkjdleihjfaa
open Go.RowKit

theorem tmod2_zero (n : Int) : n.tmod 2 = 0 ↔ n % 2 = 0 := by
  rw [← Int.dvd_iff_tmod_eq_zero, Int.dvd_iff_emod_eq_zero]
theorem tdiv2_even {n : Int} (h : n % 2 = 0) : n.tdiv 2 = n / 2 := Int.tdiv_eq_ediv_of_dvd (Int.dvd_of_emod_eq_zero h)
theorem even_iff {a b c d : Int} : evenQ (a, b, c, d) = true ↔ (a + c) % 2 = 0 ∧ (b + d) % 2 = 0 := by
  have h : ∀ n : Int, (n.tmod 2 == 0) = decide (n % 2 = 0) := fun n => by
    rw [Bool.eq_iff_iff, beq_iff_eq, decide_eq_true_eq]
    exact tmod2_zero n
  simp only [evenQ, evenB, h, Bool.and_eq_true, decide_eq_true_eq]
theorem root_half {x : Q4} (h : evenQ x = true) : rootQ (halfQ x) = x := by
  obtain ⟨a, b, c, d⟩ := x
  have h := even_iff.1 h
  have e1 := tdiv2_even (n := b - d) (by omega)
  have e2 := tdiv2_even (n := a + c) (by omega)
  have e3 := tdiv2_even (n := b + d) (by omega)
  have e4 := tdiv2_even (n := c - a) (by omega)
  refine q_ext ?_ ?_ ?_ ?_ <;> simp only [halfQ] <;> omega
def halfI : Nat → Q4 → Q4
  | 0, x => x
  | n + 1, x => halfI n (halfQ x)
theorem halfI_succ : ∀ (n : Nat) (x : Q4), halfI (n + 1) x = halfQ (halfI n x)
  | 0, _ => rfl
  | n + 1, x => halfI_succ n (halfQ x)
theorem halfI_ok : ∀ (n : Nat) (x : Q4), okQ x = true → okQ (halfI n x) = true
  | 0, _, h => h
  | n + 1, _, h => halfI_ok n _ (halfQ_ok h)
theorem lowN_halfI : ∀ (e : Nat) (x : Q4), (lowN e x).1 = halfI (e - (lowN e x).2) x ∧ ∀ j, j < e - (lowN e x).2 → evenQ (halfI j x) = true
  | 0, _ => ⟨rfl, fun j hj => by omega⟩
  | e + 1, x => by
    unfold lowN
    by_cases h : evenQ x = true
    · rw [if_pos h]
      obtain ⟨h1, h2⟩ := lowN_halfI e (halfQ x)
      have hle := lowN_le e (halfQ x)
      have es : e + 1 - (lowN e (halfQ x)).2 = (e - (lowN e (halfQ x)).2) + 1 := by omega
      rw [es]
      refine ⟨h1, fun j hj => ?_⟩
      match j, hj with
      | 0, _ => exact h
      | j + 1, hj => exact h2 j (by omega)
    · rw [if_neg h]
      refine ⟨?_, fun j hj => ?_⟩
      · simp only [Nat.sub_self]; rfl
      · simp only [Nat.sub_self] at hj
        omega
/-- one step up -/
theorem low_up {n e : Nat} {x : Q4} (h1 : (lowN n x).2 ≤ e) (h2 : e < n) : rootQ (halfI (n - e) x) = halfI (n - (e + 1)) x := by
  have es : n - e = (n - (e + 1)) + 1 := by omega
  rw [es, halfI_succ, root_half ((lowN_halfI n x).2 _ (by omega))]
def negQ (x : Q4) : Q4 := (-x.1, -x.2.1, -x.2.2.1, -x.2.2.2)
theorem even_neg (x : Q4) : evenQ (negQ x) = evenQ x := by
  obtain ⟨a, b, c, d⟩ := x
  rw [Bool.eq_iff_iff, negQ, even_iff, even_iff]
  simp only
  omega
theorem half_neg (x : Q4) : halfQ (negQ x) = negQ (halfQ x) := by
  obtain ⟨a, b, c, d⟩ := x
  have e : ∀ p q : Int, p = -q → p.tdiv 2 = -(q.tdiv 2) := fun p q h => by rw [h, Int.neg_tdiv]
  exact q_ext (e (-b - -d) (b - d) (by omega)) (e (-a + -c) (a + c) (by omega)) (e (-b + -d) (b + d) (by omega)) (e (-c - -a) (c - a) (by omega))
theorem lowN_neg : ∀ (e : Nat) (x : Q4), lowN e (negQ x) = (negQ (lowN e x).1, (lowN e x).2)
  | 0, _ => rfl
  | e + 1, x => by
    unfold lowN
    rw [even_neg]
    by_cases h : evenQ x = true
    · rw [if_pos h, if_pos h, half_neg]
      exact lowN_neg e _
    · rw [if_neg h, if_neg h]
end Go.Proofs.Ytcmkkjdleihjfaa
