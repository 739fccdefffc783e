/- MulDyadic, of the reference and of the program. -/
import Derived.Test.YtphdcamihkgdiaaL2C
namespace Go.Proofs.Ytphdcamihkgdiaa
open Go.RowKit

theorem dOk_e {a b c d e : Int} (h : dOk a b c d e = true) : 0 ≤ e ∧ e ≤ 60 := by
  simp only [dOk, Bool.and_eq_true] at h
  exact inB_t.1 h.1.2
def mulRes (x y : D5) : Value := dyRes (dOkD x && dOkD y && mulOk x y) (mulC x y)
theorem mulRes_f1 {x y : D5} (h : dOkD x = false) : mulRes x y = .tuple #[dv 0 0 0 0 0, .bool false] := by simp [mulRes, dyRes, h, rI_f]
theorem mulRes_f2 {x y : D5} (h : dOkD y = false) : mulRes x y = .tuple #[dv 0 0 0 0 0, .bool false] := by simp [mulRes, dyRes, h, rI_f]
theorem mulRes_f3 {x y : D5} (h : mulOk x y = false) : mulRes x y = .tuple #[dv 0 0 0 0 0, .bool false] := by simp [mulRes, dyRes, h, rI_f]
theorem mulRes_t {x y : D5} (h1 : dOkD x = true) (h2 : dOkD y = true) (h3 : mulOk x y = true) : mulRes x y = .tuple #[dvD (mulC x y), .bool true] := by simp [mulRes, dyRes, h1, h2, h3, rI_t]

theorem ringRes_shape (X : Bool) (a b c d : Int) : ∃ (p0 p1 p2 p3 : Int) (o : Bool), ringRes X a b c d = .tuple #[rv p0 p1 p2 p3, .bool o] := ⟨_, _, _, _, _, rfl⟩
theorem lowRes_f {a b c d e : Int} (h : lowOk a b c d e = false) : lowRes a b c d e = .tuple #[dv 0 0 0 0 0, .bool false] := by simp [lowRes, h, rI_f]
theorem lowRes_t {a b c d e : Int} (h : lowOk a b c d e = true) : lowRes a b c d e = .tuple #[dvD (lowD e (a, b, c, d)), .bool true] := by simp [lowRes, h, rI_t, lowD]
theorem ringRes_f {X : Bool} {a b c d : Int} (h : (X && rOk a b c d) = false) : ringRes X a b c d = .tuple #[rv 0 0 0 0, .bool false] := by simp [ringRes, h, rI_f]
theorem ringRes_t {X : Bool} {a b c d : Int} (h : (X && rOk a b c d) = true) : ringRes X a b c d = .tuple #[rv a b c d, .bool true] := by simp [ringRes, h, rI_t]

theorem tmod2_iff (n : Int) : n.tmod 2 = 0 ↔ n % 2 = 0 := by
  rw [← Int.dvd_iff_tmod_eq_zero]
  omega
theorem conj_dOk {a b c d e : Int} (h : dOk a b c d e = true) : dOk a (-d) (-c) (-b) e = true := by
  have hr := dOk_r h
  have h4 := rOk_iff.1 hr
  simp only [dOk, Bool.and_eq_true] at h ⊢
  refine ⟨⟨by rw [rOk_iff]; omega, h.1.2⟩, ?_⟩
  have h2 := h.2
  have he : evenB a (-d) (-c) (-b) = evenB a b c d := by
    unfold evenB
    have e1 : ∀ x y : Int, ((x - y).tmod 2 == 0) = ((x + y).tmod 2 == 0) := by
      intro x y
      rw [Bool.eq_iff_iff, beq_iff_eq, beq_iff_eq, tmod2_iff, tmod2_iff]
      omega
    have e2 : ((-d + -b).tmod 2 == 0) = ((b + d).tmod 2 == 0) := by
      rw [Bool.eq_iff_iff, beq_iff_eq, beq_iff_eq, tmod2_iff, tmod2_iff]
      omega
    rw [show a + -c = a - c from rfl, e1, e2]
  rw [he]
  exact h2
def conjD (x : D5) : D5 := (conjQ x.1, x.2)
def normSqRes (x : D5) : Value := mulRes x (conjD x)

end Go.Proofs.Ytphdcamihkgdiaa
