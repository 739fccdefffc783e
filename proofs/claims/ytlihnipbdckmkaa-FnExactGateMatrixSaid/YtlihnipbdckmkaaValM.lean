/- Validity of matrices, of the program and of the reference. -/
import Derived.Test.YtlihnipbdckmkaaMx
import Derived.Test.YtlihnipbdckmkaaL2C
import Derived.Test.YtlihnipbdckmkaaHasI
namespace Go.Proofs.Ytlihnipbdckmkaa
open Go.RowKit

def dimB (n : Int) : Bool := [1, 2, 4, 8, 16, 32].contains n
theorem dimB_iff {n : Int} : dimB n = true ↔ n = 1 ∨ n = 2 ∨ n = 4 ∨ n = 8 ∨ n = 16 ∨ n = 32 := by simp [dimB]

theorem dim_bits : ∀ m : Fin 32, (bits .and .i64 ((m.val : Int) + 1) (m.val : Int) == 0) = dimB ((m.val : Int) + 1) := by decide +kernel
theorem dim_bits' {n : Int} (h : inB n 1 32 = true) : (bits .and .i64 n (RowKit.wrap64 (n - 1)) == 0) = dimB n := by
  obtain ⟨h1, h2⟩ := inB_t.1 h
  rw [IntWalk.wrap64_in _ (by omega)]
  have := dim_bits ⟨(n - 1).toNat, by omega⟩
  have e1 : (((n - 1).toNat : Nat) : Int) = n - 1 := by omega
  simp only [e1] at this
  rw [show n - 1 + 1 = n from by omega] at this
  exact this

set_option maxHeartbeats 1000000 in
theorem isDim_any (n : Int) (w : World) :
    Calls Try.prog 61 #[.int .i64 n] w fun e w' => e = .returned (.bool (dimB n)) ∧ w = w' := by
  rcases hn : inB n 1 32 with _ | _
  · have hd : dimB n = false := by
      rw [Bool.eq_false_iff]
      intro h
      have := dimB_iff.1 h
      have := inB_f.1 hn
      omega
    go_enter Try.func61, Try.ntmps61
    go_wp2_with fail
    refine (within_any _ _ _ _).mono ?_
    rintro e w' ⟨rfl, rfl⟩
    go_wp2
    go_ret
    exact ⟨ret_bool hd.symm, rfl⟩
  · go_enter Try.func61, Try.ntmps61
    go_wp2_with fail
    refine (within_any _ _ _ _).mono ?_
    rintro e w' ⟨rfl, rfl⟩
    go_wp2
    go_ret
    exact ⟨ret_bool (dim_bits' hn), rfl⟩
end Go.Proofs.Ytlihnipbdckmkaa
