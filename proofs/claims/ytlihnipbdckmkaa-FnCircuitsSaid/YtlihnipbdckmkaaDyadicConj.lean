/- ConjDyadic, of the program and of the reference; eqDyadic. -/
import Derived.Test.YtlihnipbdckmkaaDyadic
import Derived.Test.YtlihnipbdckmkaaRingOps
import Derived.Deep.DeepCutAuto
namespace Go.Proofs.Ytlihnipbdckmkaa
open Go.RowKit

def conjRes (a b c d e : Int) : Value := .tuple #[dv (rI (dOk a b c d e) a) (rI (dOk a b c d e) (-d)) (rI (dOk a b c d e) (-c)) (rI (dOk a b c d e) (-b)) (rI (dOk a b c d e) e), .bool (dOk a b c d e)]
theorem dOk_r {a b c d e : Int} (h : dOk a b c d e = true) : rOk a b c d = true := by
  simp only [dOk, Bool.and_eq_true] at h
  exact h.1.1

set_option maxHeartbeats 1000000 in
theorem eqDyadic_any (a b c d e a' b' c' d' e' : Int) (w : World) :
    Calls Try.prog 64 #[dv a b c d e, dv a' b' c' d' e'] w fun r w' => r = .returned (.bool ((a == a' && b == b' && c == c' && d == d') && e == e')) ∧ Below w.heap.size w w' := by
  rcases h : (a == a' && b == b' && c == c' && d == d') with _ | _
  · go_enter Try.func64, Try.ntmps64
    go_wp2_with fail
    refine (eqRing_any _ _ _ _ _ _ _ _ _).mono ?_
    rintro e w1 ⟨rfl, b1⟩
    obtain ⟨b1c, b1f⟩ := bcell b1
    have z1 := b1.size
    try simp only [World.size_alloc] at z1
    have B1 : Below w.heap.size w w1 := Below.chain (Below.refl _ _) (by go_grown) b1 (by go_size)
    have y10 : w.heap.size < w1.heap.size := by omega
    go_wp2
    go_ret
    refine ⟨rfl, ?_⟩
    go_grown
  · by_cases he : e = e'
    · subst he
      go_enter Try.func64, Try.ntmps64
      go_wp2_with fail
      refine (eqRing_any _ _ _ _ _ _ _ _ _).mono ?_
      rintro e w1 ⟨rfl, b1⟩
      obtain ⟨b1c, b1f⟩ := bcell b1
      have z1 := b1.size
      try simp only [World.size_alloc] at z1
      have B1 : Below w.heap.size w w1 := Below.chain (Below.refl _ _) (by go_grown) b1 (by go_size)
      have y10 : w.heap.size < w1.heap.size := by omega
      go_wp2
      go_ret
      refine ⟨ret_bool (by simp), ?_⟩
      go_grown
    · go_enter Try.func64, Try.ntmps64
      go_wp2_with fail
      refine (eqRing_any _ _ _ _ _ _ _ _ _).mono ?_
      rintro e w1 ⟨rfl, b1⟩
      obtain ⟨b1c, b1f⟩ := bcell b1
      have z1 := b1.size
      try simp only [World.size_alloc] at z1
      have B1 : Below w.heap.size w w1 := Below.chain (Below.refl _ _) (by go_grown) b1 (by go_size)
      have y10 : w.heap.size < w1.heap.size := by omega
      go_wp2
      go_ret
      refine ⟨ret_bool (by simp [he]), ?_⟩
      go_grown

end Go.Proofs.Ytlihnipbdckmkaa
