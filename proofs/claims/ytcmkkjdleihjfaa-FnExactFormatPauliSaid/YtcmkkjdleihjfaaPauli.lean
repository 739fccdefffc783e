/- Pauli operators: validity, the laws' conversions. -/
import Derived.Test.YtcmkkjdleihjfaaNum
namespace Go.Proofs.Ytcmkkjdleihjfaa
open Go.RowKit

abbrev pv (a b c : Int) : Value := .agg #[.int .i64 a, .int .i64 b, .int .i64 c]
def pauliB (n p x z : Int) : Bool := inB n 1 5 && inB p 0 3 && inB x 0 (2 ^ n.toNat - 1) && inB z 0 (2 ^ n.toNat - 1)
theorem pow_bd {n : Int} (h1 : 1 ≤ n) (h2 : n ≤ 5) : (2 : Int) ≤ 2 ^ n.toNat ∧ (2 : Int) ^ n.toNat ≤ 32 := by
  obtain ⟨m, rfl⟩ := Int.eq_ofNat_of_zero_le (by omega : 0 ≤ n)
  simp only [Int.toNat_natCast]
  have : m = 1 ∨ m = 2 ∨ m = 3 ∨ m = 4 ∨ m = 5 := by omega
  rcases this with rfl | rfl | rfl | rfl | rfl <;> decide

theorem within_q (n lo hi : Int) (w : World) :
    Calls Try.prog 79 #[.int .i64 n, .int .i64 lo, .int .i64 hi] w fun e w' => e = .returned (.bool (inB n lo hi)) ∧ w' = w := (within_any n lo hi w).mono fun _ _ h => ⟨h.1, h.2.symm⟩
theorem below_drewN' {B : Nat} {a w : World} (h : Below B a w) (n : Nat) : Below B a (w.drewN n) := ⟨h.os, h.tape, h.output, h.size, h.block⟩

set_option maxHeartbeats 400000 in
theorem toPauli_any (a b c : Int) (w : World) :
    Calls Try.prog 13 #[pv a b c] w fun e w' => e = .returned (pv a b c) ∧ Below w.heap.size w w' := by
  go_enter Try.func13, Try.ntmps13
  go_wp2
  go_returns
  refine ⟨rfl, ?_⟩
  go_grown

set_option maxHeartbeats 2000000 in
theorem l7Valid_any (n p x z : Int) (w : World) :
    Calls Try.prog 55 #[.int .i64 n, pv p x z] w fun e w' => e = .returned (.bool (pauliB n p x z)) ∧ Below w.heap.size w w' := by
  rcases hn : inB n 1 5 with _ | _
  · go_enter Try.func55, Try.ntmps55
    go_wp2_with fail
    refine (l1In_any _ _ _ _).mono ?_
    rintro e w' ⟨rfl, rfl⟩
    go_wp2
    go_ret
    refine ⟨ret_bool (by simp [pauliB, hn]), ?_⟩
    go_grown
  obtain ⟨hn1, hn2⟩ := inB_t.1 hn
  obtain ⟨hP1, hP2⟩ := pow_bd hn1 hn2
  have Hp : Hid (∀ P, (2 : Int) ^ n.toNat = P → pauliB n p x z = (inB p 0 3 && inB x 0 (P - 1) && inB z 0 (P - 1))) := by
    intro P h
    subst h
    simp [pauliB, hn]
  obtain ⟨P, hP⟩ : ∃ P, (2 : Int) ^ n.toNat = P := ⟨_, rfl⟩
  have HP := Lib.hid (Hp.out P hP)
  rw [hP] at hP1 hP2
  clear Hp
  go_enter Try.func55, Try.ntmps55
  go_wp2_with (go_at_call 80; refine (l1In_any _ _ _ _).mono ?_; rintro e w' ⟨rfl, rfl⟩)
  all_goals
    go_ret
    refine ⟨ret_bool ?_, ?_⟩
    · rw [HP.out]
      simp [*]
    · go_grown

set_option maxHeartbeats 2000000 in
theorem implValidPauli_any (n p x z : Int) (w : World) :
    Calls Try.prog 57 #[.int .i64 n, pv p x z] w fun e w' => e = .returned (.bool (pauliB n p x z)) ∧ Below w.heap.size w w' := by
  rcases hn : inB n 1 5 with _ | _
  · go_enter Try.func57, Try.ntmps57
    go_wp2_with fail
    go_quiet ((go_at_call 79; exact Calls.quiet_of_same (within_q _ _ _ _)))
    go_wp2
    go_ret
    refine ⟨ret_bool (by simp [pauliB, hn]), ?_⟩
    exact below_drewN' (by go_grown) _
  obtain ⟨hn1, hn2⟩ := inB_t.1 hn
  obtain ⟨hP1, hP2⟩ := pow_bd hn1 hn2
  have Hp : Hid (∀ P, (2 : Int) ^ n.toNat = P → pauliB n p x z = (inB p 0 3 && inB x 0 (P - 1) && inB z 0 (P - 1))) := by
    intro P h
    subst h
    simp [pauliB, hn]
  obtain ⟨P, hP⟩ : ∃ P, (2 : Int) ^ n.toNat = P := ⟨_, rfl⟩
  have HP := Lib.hid (Hp.out P hP)
  rw [hP] at hP1 hP2
  clear Hp
  have hw1 : IntKind.i64.wrap P = P := IntWalk.i64_in _ (by omega)
  have hw2 : IntKind.i64.wrap (P - 1) = P - 1 := IntWalk.i64_in _ (by omega)
  have hn0 : 0 ≤ n := by omega
  rcases h3 : inB p 0 3 with _ | _
  · go_enter Try.func57, Try.ntmps57
    go_wp2_with fail
    go_quiet ((go_at_call 79; exact Calls.quiet_of_same (within_q _ _ _ _)))
    go_wp2
    go_ret
    refine ⟨ret_bool (by rw [HP.out]; simp [h3]), ?_⟩
    exact below_drewN' (by go_grown) _
  rcases hx : inB x 0 (P - 1) with _ | _
  · go_enter Try.func57, Try.ntmps57
    go_wp2_with fail
    go_quiet ((go_at_call 79; exact Calls.quiet_of_same (within_q _ _ _ _)))
    go_wp2
    go_ret
    refine ⟨ret_bool (by rw [HP.out]; simp [hx]), ?_⟩
    exact below_drewN' (by go_grown) _
  · go_enter Try.func57, Try.ntmps57
    go_wp2_with fail
    go_quiet ((go_at_call 79; exact Calls.quiet_of_same (within_q _ _ _ _)))
    go_wp2
    go_ret
    refine ⟨ret_bool (by rw [HP.out]; simp [h3, hx]), ?_⟩
    exact below_drewN' (by go_grown) _
end Go.Proofs.Ytcmkkjdleihjfaa
