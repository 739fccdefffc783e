/- The ring's operations of the program, each contract in one form: some number, and what it is. -/
import Derived.Test.YtcmkkjdleihjfaaRgP
import Derived.Test.YtcmkkjdleihjfaaRingSub
namespace Go.Proofs.Ytcmkkjdleihjfaa
open Go.RowKit

/-- the number if something holds, else zero -/
def zQ (ok : Bool) (q : Q4) : Q4 := if ok then q else (0, 0, 0, 0)
theorem zQ_mk (ok : Bool) (a b c d : Int) : ((rI ok a, rI ok b, rI ok c, rI ok d) : Q4) = zQ ok (a, b, c, d) := by cases ok <;> rfl
/-- a call hands back a number and a bool -/
def ROut (w : World) (ok : Bool) (m : Q4) (e : Ending) (w' : World) : Prop :=
  ∃ (o : Bool) (p0 p1 p2 p3 : Int), e = .returned (.tuple #[rv p0 p1 p2 p3, .bool o]) ∧ (o = ok ∧ ((p0, p1, p2, p3) : Q4) = zQ ok m) ∧ Below w.heap.size w w'
theorem ROut.of {w w' : World} {e : Ending} {X : Bool} {a b c d : Int} (h : e = .returned (ringRes X a b c d) ∧ Below w.heap.size w w') : ROut w (X && rOk a b c d) (a, b, c, d) e w' :=
  ⟨_, _, _, _, _, h.1, ⟨rfl, zQ_mk _ _ _ _ _⟩, h.2⟩
def mulOkQ (x y : Q4) : Bool := okQ x && okQ y && okQ (mulQ x y)
def addOkQ (x y : Q4) : Bool := okQ x && okQ y && okQ (addQ x y)
theorem implMulX (x y : Q4) (w : World) : Calls Try.prog 23 #[rv x.1 x.2.1 x.2.2.1 x.2.2.2, rv y.1 y.2.1 y.2.2.1 y.2.2.2] w fun e w' => ROut w (mulOkQ x y) (mulQ x y) e w' :=
  (implMul_any _ _ _ _ _ _ _ _ w).mono fun _ _ h => ROut.of h
theorem specMulX (x y : Q4) (w : World) : Calls Try.prog 24 #[rv x.1 x.2.1 x.2.2.1 x.2.2.2, rv y.1 y.2.1 y.2.2.1 y.2.2.2] w fun e w' => ROut w (mulOkQ x y) (mulQ x y) e w' :=
  (specMul_any _ _ _ _ _ _ _ _ w).mono fun _ _ h => ROut.of h
theorem implAddX (x y : Q4) (w : World) : Calls Try.prog 25 #[rv x.1 x.2.1 x.2.2.1 x.2.2.2, rv y.1 y.2.1 y.2.2.1 y.2.2.2] w fun e w' => ROut w (addOkQ x y) (addQ x y) e w' :=
  (implAdd_any _ _ _ _ _ _ _ _ w).mono fun _ _ h => ROut.of h
theorem implConjX (x : Q4) (w : World) : Calls Try.prog 26 #[rv x.1 x.2.1 x.2.2.1 x.2.2.2] w fun e w' => ROut w (okQ x && okQ (conjQ x)) (conjQ x) e w' :=
  (implConj_any _ _ _ _ w).mono fun _ _ h => ROut.of h
theorem implBulX (x : Q4) (w : World) : Calls Try.prog 27 #[rv x.1 x.2.1 x.2.2.1 x.2.2.2] w fun e w' => ROut w (okQ x && okQ (bulQ x)) (bulQ x) e w' :=
  (implBul_any _ _ _ _ w).mono fun _ _ h => ROut.of h
theorem implRootX (x : Q4) (w : World) : Calls Try.prog 32 #[rv x.1 x.2.1 x.2.2.1 x.2.2.2] w fun e w' => ROut w (okQ x && okQ (rootQ x)) (rootQ x) e w' :=
  (implRoot_any _ _ _ _ w).mono fun _ _ h => ROut.of h
theorem zQ_t {q : Q4} : zQ true q = q := rfl
theorem mulOkQ_comm (x y : Q4) : mulOkQ y x = mulOkQ x y := by unfold mulOkQ; rw [mulQ_comm, Bool.and_comm (okQ y)]
theorem q4_inj {a b c d a' b' c' d' : Int} (h : ((a, b, c, d) : Q4) = (a', b', c', d')) : a = a' ∧ b = b' ∧ c = c' ∧ d = d' := by
  simp only [Prod.mk.injEq] at h
  exact ⟨h.1, h.2.1, h.2.2.1, h.2.2.2⟩
/-- two results that come to one -/
theorem same_out {o o' ok ok' : Bool} {q q' m m' : Q4} (h : o = ok ∧ q = zQ ok m) (h' : o' = ok' ∧ q' = zQ ok' m') (e1 : ok' = ok) (e2 : ok = true → m' = m) : o' = o ∧ q' = q := by
  subst e1
  refine ⟨h'.1.trans h.1.symm, ?_⟩
  rw [h'.2, h.2]
  cases ok' with
  | false => rfl
  | true => rw [e2 rfl]
theorem out_t {o ok : Bool} {q m : Q4} (h : o = ok ∧ q = zQ ok m) (ho : o = true) : q = m := by
  rw [h.2, ← h.1, ho]
  rfl
theorem mulOkQ_parts {x y : Q4} (h : mulOkQ x y = true) : okQ x = true ∧ okQ y = true ∧ okQ (mulQ x y) = true := by
  unfold mulOkQ at h
  rw [Bool.and_eq_true, Bool.and_eq_true] at h
  exact ⟨h.1.1, h.1.2, h.2⟩
theorem mulOkQ_mk {x y : Q4} (h1 : okQ x = true) (h2 : okQ y = true) (h3 : okQ (mulQ x y) = true) : mulOkQ x y = true := by
  unfold mulOkQ
  rw [h1, h2, h3]
  rfl
end Go.Proofs.Ytcmkkjdleihjfaa
