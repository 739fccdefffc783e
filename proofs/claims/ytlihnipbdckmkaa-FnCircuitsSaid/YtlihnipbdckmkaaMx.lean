/- Matrices by value: the laws' conversions, comparison of equals, marks. -/
import Derived.Test.YtlihnipbdckmkaaDs
namespace Go.Proofs.Ytlihnipbdckmkaa
open Go.RowKit

abbrev mv (r c : Int) (A : Option Addr) (n cap : Nat) : Value := .agg #[.int .i64 r, .int .i64 c, .slice A n cap]

set_option maxRecDepth 100000 in
set_option maxHeartbeats 2000000 in
theorem heldDyadicS_any (A : Option Addr) (cap n k0 : Nat) (w : World) (hn : n ≤ 1048576) (hk0 : k0 ≤ 1000000000) (hx : Hid (FlatAt w A (marks k0 (n * 5)))) :
    Calls Try.prog 39 #[.slice A n cap, .int .i64 (k0 : Int)] w fun e w' => e = .returned (.int .i64 ((k0 + n * 5 : Nat) : Int)) ∧ w' = w := by
  go_enter Try.func39, Try.ntmps39
  go_wp2_with fail
  go_loop [1, 5] (fun m i => ∃ k : Nat, i = .int .i64 k ∧ k ≤ n ∧ m = .int .i64 ((k0 + k * 5 : Nat) : Int)) (fun _ i => n - (intOf i).toNat)
  case atStart => exact ⟨0, rfl, Nat.zero_le _, rfl⟩
  case round =>
    obtain ⟨k, rfl, hk, rfl⟩ := hrel
    by_cases hlt : k < n
    · obtain ⟨b, off, rfl, _, _⟩ := hx.out (k * 5) _ (marks_at (by omega))
      have d0 := hx.out.cell (marks_at (k := k0) (show k * 5 < n * 5 by omega))
      have d1 := hx.out.cell (marks_at (k := k0) (show k * 5 + 1 < n * 5 by omega))
      have d2 := hx.out.cell (marks_at (k := k0) (show k * 5 + 2 < n * 5 by omega))
      have d3 := hx.out.cell (marks_at (k := k0) (show k * 5 + 3 < n * 5 by omega))
      have d4 := hx.out.cell (marks_at (k := k0) (show k * 5 + 4 < n * 5 by omega))
      rw [show off + (k * 5 + 1) = off + k * 5 + 1 from rfl, show ((k0 + (k * 5 + 1) : Nat) : Int) = ((k0 + k * 5 : Nat) : Int) + 1 from by omega] at d1
      rw [show off + (k * 5 + 2) = off + k * 5 + 2 from rfl, show ((k0 + (k * 5 + 2) : Nat) : Int) = ((k0 + k * 5 : Nat) : Int) + 1 + 1 from by omega] at d2
      rw [show off + (k * 5 + 3) = off + k * 5 + 3 from rfl, show ((k0 + (k * 5 + 3) : Nat) : Int) = ((k0 + k * 5 : Nat) : Int) + 1 + 1 + 1 from by omega] at d3
      rw [show off + (k * 5 + 4) = off + k * 5 + 4 from rfl, show ((k0 + (k * 5 + 4) : Nat) : Int) = ((k0 + k * 5 : Nat) : Int) + 1 + 1 + 1 + 1 from by omega] at d4
      go_wp2
      go_round
      case rel => exact ⟨k + 1, by go_num, by omega, by go_num⟩
      case measure => simp [intOf]; omega
    · go_wp2
      go_ret
      have hkn : k = n := by omega
      subst hkn
      exact ⟨rfl, rfl⟩

set_option maxHeartbeats 1000000 in
theorem eqMatrix_same (r c : Int) (A A' : Option Addr) (cap cap' : Nat) (xs : List D5) (w : World) (hn : xs.length ≤ 9223372036854775807) (hx : Hid (FlatAt w A (flatD xs))) (hy : Hid (FlatAt w A' (flatD xs))) :
    Calls Try.prog 8 #[mv r c A xs.length cap, mv r c A' xs.length cap'] w fun e w' => e = .returned (.bool true) ∧ Below w.heap.size w w' := by
  go_enter Try.func8, Try.ntmps8
  go_wp2_with fail
  refine (eqDyadicS_same _ _ _ _ xs _ hn (by refine hx.out.below ?_; go_grown) (by refine hy.out.below ?_; go_grown)).mono ?_
  rintro e w1 ⟨rfl, b1⟩
  have B1 : Below w.heap.size w w1 := Below.chain (Below.refl _ _) (by go_grown) b1 (by go_size)
  go_wp2
  go_ret
  refine ⟨rfl, ?_⟩
  go_grown

set_option maxHeartbeats 1000000 in
theorem markMatrix_any (r c : Int) (A : Option Addr) (cap n k0 : Nat) (zs0 : List Int) (lo hi : Nat) (w : World) (hn : n ≤ 1048576) (hk0 : k0 ≤ 1000000000) (hl0 : zs0.length = n * 5) (hx : Hid (FlatIn w A zs0 lo hi)) :
    Calls Try.prog 9 #[mv r c A n cap, .int .i64 (k0 : Int)] w fun e w' => e = .returned (.int .i64 ((k0 + n * 5 : Nat) : Int)) ∧ FlatIn w' A (marks k0 (n * 5)) lo hi ∧ Touch lo hi w w' := by
  go_enter Try.func9, Try.ntmps9
  go_wp2_with fail
  refine (markDyadicS_any _ _ _ _ zs0 lo hi _ hn hk0 hl0 (hx.out.alloc _)).mono ?_
  rintro e w1 ⟨rfl, hf, ht⟩
  go_wp2
  go_ret
  exact ⟨rfl, hf, Touch.trans (Touch.alloc (Touch.refl _ _ _) _) ht⟩

set_option maxHeartbeats 1000000 in
theorem heldMatrix_any (r c : Int) (A : Option Addr) (cap n k0 : Nat) (w : World) (hn : n ≤ 1048576) (hk0 : k0 ≤ 1000000000) (hx : Hid (FlatAt w A (marks k0 (n * 5)))) :
    Calls Try.prog 10 #[mv r c A n cap, .int .i64 (k0 : Int)] w fun e w' => e = .returned (.int .i64 ((k0 + n * 5 : Nat) : Int)) ∧ Below w.heap.size w w' := by
  go_enter Try.func10, Try.ntmps10
  go_wp2_with fail
  refine (heldDyadicS_any _ _ _ _ _ hn hk0 (hx.out.alloc _)).mono ?_
  rintro e w1 ⟨rfl, rfl⟩
  go_wp2
  go_ret
  refine ⟨rfl, ?_⟩
  go_grown
end Go.Proofs.Ytlihnipbdckmkaa
