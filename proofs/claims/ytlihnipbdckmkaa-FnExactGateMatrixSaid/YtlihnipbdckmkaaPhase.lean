/- PhaseOf, of the program and of the reference. -/
import Derived.Test.YtlihnipbdckmkaaLow
import Derived.Laws.StructEq
namespace Go.Proofs.Ytlihnipbdckmkaa
open Go.RowKit

/-- what '==' gives at two dyadic numbers -/
def dEq (a b c d e a' b' c' d' e' : Int) : Bool := (a == a' && (b == b' && (c == c' && d == d'))) && e == e'

theorem Try.stoodD : Try.prog.stoodInHeld 60 = false := by kernel_rfl
theorem Try.stoodR : Try.prog.stoodInHeld 58 = false := by kernel_rfl
theorem Try.guardD : Try.prog.eqGuardType Try.prog.depth 60 = false := by kernel_rfl
theorem Try.guardR : Try.prog.eqGuardType Try.prog.depth 58 = false := by kernel_rfl

theorem run_eqD (a b c d e a' b' c' d' e' : Int) (w : World) : (binOp .eql 60 (dv a b c d e) (dv a' b' c' d' e')).run Try.prog w = .ok (.bool (dEq a b c d e a' b' c' d' e')) w := by
  rw [run_eql_struct, run_equalIn_agg w 9999 60 _ _ (by kernel_rfl) Try.stoodD]
  simp only [Program.fieldsOf, Try.underlying60]
  by_cases h1 : a = a' <;> by_cases h2 : b = b' <;> by_cases h3 : c = c' <;> by_cases h4 : d = d' <;> by_cases h5 : e = e' <;> simp [go_sem, dEq, h1, h2, h3, h4, h5]
theorem run_gdD (op : BinOp) (t : TypeId) (x y : Operand) (xs ys : Array Value) (w : World) (ht : t = 60) : (eqGuard op t x y (.agg xs) (.agg ys)).run Try.prog w = .ok () w := by
  subst ht
  exact run_eqGuard_agg w op _ x y xs ys Try.guardD

def powQ (k : Nat) : Q4 := turnN k (1, 0, 0, 0)
def isPow (k : Nat) (a b c d e : Int) : Bool := dEq a b c d e (powQ k).1 (powQ k).2.1 (powQ k).2.2.1 (powQ k).2.2.2 0
/-- the search from k on, n tries -/
def phGo (a b c d e : Int) : Nat → Nat → Int × Bool
  | 0, _ => (0, false)
  | n + 1, k => if isPow k a b c d e then ((k : Int), true) else phGo a b c d e n (k + 1)
theorem phGo_yes {a b c d e : Int} {k : Nat} (hk : k < 8) (h : isPow k a b c d e = true) : phGo a b c d e (8 - k) k = ((k : Int), true) := by
  rw [show 8 - k = (7 - k) + 1 from by omega]
  simp [phGo, h]
theorem phGo_no {a b c d e : Int} {k : Nat} (hk : k < 8) (h : isPow k a b c d e = false) : phGo a b c d e (8 - k) k = phGo a b c d e (8 - (k + 1)) (k + 1) := by
  rw [show 8 - k = (8 - (k + 1)) + 1 from by omega]
  simp [phGo, h]
theorem omN_small {k : Nat} (hk : k < 8) : omN (k : Int) = k := by
  unfold omN
  rw [Int.tmod_eq_emod_of_nonneg (by omega)]
  omega
def phRes (a b c d e : Int) : Value := .tuple #[.int .i64 (phGo a b c d e 8 0).1, .bool (phGo a b c d e 8 0).2]

set_option maxHeartbeats 1000000 in
theorem l2Power_any (k : Nat) (w : World) (hk : k < 8) :
    Calls Try.prog 72 #[.int .i64 (k : Int)] w fun r w' => r = .returned (dv (powQ k).1 (powQ k).2.1 (powQ k).2.2.1 (powQ k).2.2.2 0) ∧ Below w.heap.size w w' := by
  have Hom := Lib.hid (omN_small hk)
  have H : Hid (∀ W, Calls Try.prog 78 #[rv 1 0 0 0, .int .i64 (k : Int)] W fun r w' => r = .returned (rv (powQ k).1 (powQ k).2.1 (powQ k).2.2.1 (powQ k).2.2.2) ∧ Below W.heap.size W w') := by
    intro W
    have := l1Turn_any 1 0 0 0 (k : Int) W (by decide)
    rw [Hom.out] at this
    exact this
  go_enter Try.func72, Try.ntmps72
  go_wp2_with fail
  refine (H.out _).mono ?_
  rintro e w1 ⟨rfl, b1⟩
  obtain ⟨b1c, b1f⟩ := bcell b1
  have z1 := b1.size
  try simp only [World.size_alloc] at z1
  have B1 : Below w.heap.size w w1 := Below.chain (Below.refl _ _) (by go_grown) b1 (by go_size)
  have y10 : w.heap.size < w1.heap.size := by omega
  go_wp2
  refine bodyPost_ret (by simp [results, Try.results72, go_sem, b1c]) rfl ⟨rfl, ?_⟩
  go_grown

set_option maxHeartbeats 1000000 in
theorem phase_any (k : Nat) (w : World) (hk : k < 8) :
    Calls Try.prog 30 #[.int .i64 (k : Int)] w fun r w' => r = .returned (dv (powQ k).1 (powQ k).2.1 (powQ k).2.2.1 (powQ k).2.2.2 0) ∧ Below w.heap.size w w' := by
  have Hom := Lib.hid (omN_small hk)
  have H : Hid (∀ W, Calls Try.prog 62 #[rv 1 0 0 0, .int .i64 (k : Int)] W fun r w' => r = .returned (.tuple #[rv (powQ k).1 (powQ k).2.1 (powQ k).2.2.1 (powQ k).2.2.2, .bool true]) ∧ Below W.heap.size W w') := by
    intro W
    have h := implOm_any 1 0 0 0 (k : Int) W
    have e : omRes 1 0 0 0 (k : Int) = .tuple #[rv (powQ k).1 (powQ k).2.1 (powQ k).2.2.1 (powQ k).2.2.2, .bool true] := by
      have h1 : omOk 1 0 0 0 (k : Int) = true := by
        have : inB (k : Int) (-1000) 1000 = true := inB_t.2 (by omega)
        simp [omOk, this]
        decide
      simp only [omRes, h1, rI_t, Hom.out]
      rfl
    rw [e] at h
    exact h
  go_enter Try.func30, Try.ntmps30
  go_wp2_with fail
  refine (H.out _).mono ?_
  rintro e w1 ⟨rfl, b1⟩
  obtain ⟨b1c, b1f⟩ := bcell b1
  have z1 := b1.size
  try simp only [World.size_alloc] at z1
  have B1 : Below w.heap.size w w1 := Below.chain (Below.refl _ _) (by go_grown) b1 (by go_size)
  have y10 : w.heap.size < w1.heap.size := by omega
  go_wp2
  refine bodyPost_ret (by simp [results, Try.results30, go_sem, b1c, y10]) rfl ⟨rfl, ?_⟩
  go_grown

end Go.Proofs.Ytlihnipbdckmkaa
