/- Norms and quotients of the program, each contract in one form. -/
import Derived.Test.YtcmkkjdleihjfaaRgC
import Derived.Test.YtcmkkjdleihjfaaRingQuo2
namespace Go.Proofs.Ytcmkkjdleihjfaa
open Go.RowKit

/-- a call hands back two integers and a bool -/
def IOut (w : World) (ok : Bool) (u v : Int) (e : Ending) (w' : World) : Prop :=
  ∃ (o : Bool) (p q : Int), e = .returned (.tuple #[.int .i64 p, .int .i64 q, .bool o]) ∧ (o = ok ∧ p = rI ok u ∧ q = rI ok v) ∧ Below w.heap.size w w'
/-- .. one integer and a bool -/
def NOut (w : World) (ok : Bool) (u : Int) (e : Ending) (w' : World) : Prop :=
  ∃ (o : Bool) (p : Int), e = .returned (.tuple #[.int .i64 p, .bool o]) ∧ (o = ok ∧ p = rI ok u) ∧ Below w.heap.size w w'
theorem implAbsX (x : Q4) (w : World) : Calls Try.prog 29 #[rv x.1 x.2.1 x.2.2.1 x.2.2.2] w fun e w' => IOut w (absOkQ x) (uQ x) (vQ x) e w' :=
  (implAbs_any _ _ _ _ w).mono fun _ _ ⟨h1, h2⟩ => ⟨_, _, _, h1, ⟨rfl, rfl, rfl⟩, h2⟩
theorem implNormX (x : Q4) (w : World) : Calls Try.prog 34 #[rv x.1 x.2.1 x.2.2.1 x.2.2.2] w fun e w' => NOut w (absOkQ x) (nQ x) e w' :=
  (implNorm_any _ _ _ _ w).mono fun _ _ ⟨h1, h2⟩ => ⟨_, _, h1, ⟨rfl, rfl⟩, h2⟩
theorem specNormX (x : Q4) (w : World) : Calls Try.prog 35 #[rv x.1 x.2.1 x.2.2.1 x.2.2.2] w fun e w' => NOut w (absOkQ x) (nQ x) e w' :=
  (specNorm_any _ _ _ _ w).mono fun _ _ ⟨h1, h2⟩ => ⟨_, _, h1, ⟨rfl, rfl⟩, h2⟩
theorem implQuoX (x y : Q4) (w : World) : Calls Try.prog 30 #[rv x.1 x.2.1 x.2.2.1 x.2.2.2, rv y.1 y.2.1 y.2.2.1 y.2.2.2] w fun e w' => ROut w (quoOk x y) (quoQ (secondQ x y) (nQ y)) e w' :=
  (implQuo_any _ _ _ _ _ _ _ _ w).mono fun _ _ ⟨h1, h2⟩ => ⟨_, _, _, _, _, h1, ⟨rfl, zQ_mk _ _ _ _ _⟩, h2⟩
def halfOk (x : Q4) : Bool := divOk x.1 x.2.1 x.2.2.1 x.2.2.2
def halvQ (x : Q4) : Q4 := ((x.2.1 - x.2.2.2).tdiv 2, (x.1 + x.2.2.1).tdiv 2, (x.2.1 + x.2.2.2).tdiv 2, (x.2.2.1 - x.1).tdiv 2)
theorem implHalfX (x : Q4) (w : World) : Calls Try.prog 33 #[rv x.1 x.2.1 x.2.2.1 x.2.2.2] w fun e w' => ROut w (halfOk x) (halvQ x) e w' :=
  (implDiv2_any _ _ _ _ w).mono fun _ _ ⟨h1, h2⟩ => ⟨_, _, _, _, _, h1, ⟨rfl, zQ_mk _ _ _ _ _⟩, h2⟩
theorem halv_root {x y : Q4} (h : y = rootQ x) (hy : okQ y = true) : halfOk y = true ∧ halvQ y = x := by
  subst h
  obtain ⟨h1, h2, h3, h4, h5⟩ := half_root x
  constructor
  · unfold halfOk divOk
    rw [h1, Bool.and_true]
    exact hy
  · obtain ⟨a, b, c, d⟩ := x
    exact q_ext h2 h3 h4 h5
theorem quo_back {x y z p : Q4} (hp : p = mulQ x y) (ho : quoOk p y = true) (hz : z = quoQ (secondQ p y) (nQ y)) : z = x := by
  subst hp hz
  rw [second_mul]
  refine quo_scl (nQ_ne ?_) x
  intro h0
  simp [quoOk, h0] at ho
theorem coef_of {x : Q4} (h : absOkQ x = true) : (-1000000000 ≤ uQ x ∧ uQ x ≤ 1000000000) ∧ (-1000000000 ≤ vQ x ∧ vQ x ≤ 1000000000) := by
  unfold absOkQ absOk at h
  rw [Bool.and_eq_true, Bool.and_eq_true] at h
  exact ⟨coefB_iff.1 h.2.1, coefB_iff.1 h.2.2⟩
/-- absolute squares of a product: the sums do not wrap -/
theorem norm_wraps {u v p q r s : Int} (hu : -1000000000 ≤ u ∧ u ≤ 1000000000) (hv : -1000000000 ≤ v ∧ v ≤ 1000000000) (hp : -1000000000 ≤ p ∧ p ≤ 1000000000) (hq : -1000000000 ≤ q ∧ q ≤ 1000000000)
    (hr : r = u * p + 2 * v * q) (hs : s = u * q + v * p) :
    RowKit.wrap64 (u * p) = u * p ∧ RowKit.wrap64 (2 * v) = 2 * v ∧ RowKit.wrap64 (2 * v * q) = 2 * v * q ∧ RowKit.wrap64 (u * p + 2 * v * q) = r ∧ RowKit.wrap64 (u * q) = u * q ∧ RowKit.wrap64 (v * p) = v * p ∧ RowKit.wrap64 (u * q + v * p) = s := by
  have h1 := mul_bd hu hp
  have h2 := mul_bd hv hq
  have h3 := mul_bd hu hq
  have h4 := mul_bd hv hp
  have h5 : 2 * v * q = 2 * (v * q) := Int.mul_assoc 2 v q
  refine ⟨IntWalk.wrap64_in _ (by omega), IntWalk.wrap64_in _ (by omega), IntWalk.wrap64_in _ (by omega), ?_, IntWalk.wrap64_in _ (by omega), IntWalk.wrap64_in _ (by omega), ?_⟩
  · rw [hr]; exact IntWalk.wrap64_in _ (by omega)
  · rw [hs]; exact IntWalk.wrap64_in _ (by omega)
theorem norm_nonneg {o ok : Bool} {n : Int} {x : Q4} (h : o = ok ∧ n = rI ok (nQ x)) : 0 ≤ n := by
  rw [h.2]
  cases ok with
  | false => exact Int.le_refl _
  | true => exact nQ_nonneg x
theorem i_out {o ok : Bool} {p u : Int} (h : o = ok) (hp : p = rI ok u) (ho : o = true) : p = u := by
  rw [hp, ← h, ho]
  rfl
end Go.Proofs.Ytcmkkjdleihjfaa
