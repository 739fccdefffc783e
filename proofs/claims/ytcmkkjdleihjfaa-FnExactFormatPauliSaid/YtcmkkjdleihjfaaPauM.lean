/- Products of Pauli operators: the smallest functions. -/
import Derived.Test.YtcmkkjdleihjfaaPauS
import Derived.Test.YtcmkkjdleihjfaaSign
namespace Go.Proofs.Ytcmkkjdleihjfaa
open Go.RowKit

theorem bit_at : ∀ x : Fin 32, ∀ q : Fin 5, bits .and .i64 ((x.val : Int) / 2 ^ q.val) 1 = ((bt x.val q.val : Nat) : Int) := by decide +kernel

set_option maxHeartbeats 2000000 in
theorem l7Letter_any (p : Int) (x z q : Nat) (w : World) (hx : x < 32) (hz : z < 32) (hq : q < 5) :
    Calls Try.prog 107 #[pv p (x : Int) (z : Int), .int .i64 (q : Int)] w fun e w' => e = .returned (.int .i64 ((letN x z q : Nat) : Int)) ∧ Below w.heap.size w w' := by
  have h1 := Lib.hid (bit_at ⟨x, hx⟩ ⟨q, hq⟩)
  have h2 := Lib.hid (bit_at ⟨z, hz⟩ ⟨q, hq⟩)
  have l1 := Lib.hid (bt_lt x q)
  have l2 := Lib.hid (bt_lt z q)
  go_enter Try.func107, Try.ntmps107
  go_wp2
  go_ret
  refine ⟨ret_int ?_, ?_⟩
  · have e1 := h1.out
    have e2 := h2.out
    have e3 := l1.out
    have e4 := l2.out
    have f1 : RowKit.wrap64 (2 * ((bt z q : Nat) : Int)) = 2 * ((bt z q : Nat) : Int) := IntWalk.wrap64_in _ (by omega)
    have f2 : RowKit.wrap64 (((bt x q : Nat) : Int) + 2 * ((bt z q : Nat) : Int)) = ((bt x q : Nat) : Int) + 2 * ((bt z q : Nat) : Int) := IntWalk.wrap64_in _ (by omega)
    rw [e1, e2, f1, f2]
    unfold letN
    omega
  · go_grown

set_option maxHeartbeats 8000000 in
theorem ones64_any (n : Nat) (w : World) (hn : n < 32) :
    Calls Try.prog 131 #[.int .u64 (n : Int)] w fun e w' => e = .returned (.int .i64 ((pop n : Nat) : Int)) ∧ w = w' := by
  have hc : n = 0 ∨ n = 1 ∨ n = 2 ∨ n = 3 ∨ n = 4 ∨ n = 5 ∨ n = 6 ∨ n = 7 ∨ n = 8 ∨ n = 9 ∨ n = 10 ∨ n = 11 ∨ n = 12 ∨ n = 13 ∨ n = 14 ∨ n = 15 ∨ n = 16 ∨ n = 17 ∨ n = 18 ∨ n = 19 ∨ n = 20 ∨ n = 21 ∨ n = 22 ∨ n = 23 ∨ n = 24 ∨ n = 25 ∨ n = 26 ∨ n = 27 ∨ n = 28 ∨ n = 29 ∨ n = 30 ∨ n = 31 := by omega
  rcases hc with rfl | rfl | rfl | rfl | rfl | rfl | rfl | rfl | rfl | rfl | rfl | rfl | rfl | rfl | rfl | rfl | rfl | rfl | rfl | rfl | rfl | rfl | rfl | rfl | rfl | rfl | rfl | rfl | rfl | rfl | rfl | rfl
  · go_enter Try.func131, Try.ntmps131
    go_wp2
    go_ret
    exact ⟨ret_int (by kernel_rfl), rfl⟩
  · go_enter Try.func131, Try.ntmps131
    go_wp2
    go_ret
    exact ⟨ret_int (by kernel_rfl), rfl⟩
  · go_enter Try.func131, Try.ntmps131
    go_wp2
    go_ret
    exact ⟨ret_int (by kernel_rfl), rfl⟩
  · go_enter Try.func131, Try.ntmps131
    go_wp2
    go_ret
    exact ⟨ret_int (by kernel_rfl), rfl⟩
  · go_enter Try.func131, Try.ntmps131
    go_wp2
    go_ret
    exact ⟨ret_int (by kernel_rfl), rfl⟩
  · go_enter Try.func131, Try.ntmps131
    go_wp2
    go_ret
    exact ⟨ret_int (by kernel_rfl), rfl⟩
  · go_enter Try.func131, Try.ntmps131
    go_wp2
    go_ret
    exact ⟨ret_int (by kernel_rfl), rfl⟩
  · go_enter Try.func131, Try.ntmps131
    go_wp2
    go_ret
    exact ⟨ret_int (by kernel_rfl), rfl⟩
  · go_enter Try.func131, Try.ntmps131
    go_wp2
    go_ret
    exact ⟨ret_int (by kernel_rfl), rfl⟩
  · go_enter Try.func131, Try.ntmps131
    go_wp2
    go_ret
    exact ⟨ret_int (by kernel_rfl), rfl⟩
  · go_enter Try.func131, Try.ntmps131
    go_wp2
    go_ret
    exact ⟨ret_int (by kernel_rfl), rfl⟩
  · go_enter Try.func131, Try.ntmps131
    go_wp2
    go_ret
    exact ⟨ret_int (by kernel_rfl), rfl⟩
  · go_enter Try.func131, Try.ntmps131
    go_wp2
    go_ret
    exact ⟨ret_int (by kernel_rfl), rfl⟩
  · go_enter Try.func131, Try.ntmps131
    go_wp2
    go_ret
    exact ⟨ret_int (by kernel_rfl), rfl⟩
  · go_enter Try.func131, Try.ntmps131
    go_wp2
    go_ret
    exact ⟨ret_int (by kernel_rfl), rfl⟩
  · go_enter Try.func131, Try.ntmps131
    go_wp2
    go_ret
    exact ⟨ret_int (by kernel_rfl), rfl⟩
  · go_enter Try.func131, Try.ntmps131
    go_wp2
    go_ret
    exact ⟨ret_int (by kernel_rfl), rfl⟩
  · go_enter Try.func131, Try.ntmps131
    go_wp2
    go_ret
    exact ⟨ret_int (by kernel_rfl), rfl⟩
  · go_enter Try.func131, Try.ntmps131
    go_wp2
    go_ret
    exact ⟨ret_int (by kernel_rfl), rfl⟩
  · go_enter Try.func131, Try.ntmps131
    go_wp2
    go_ret
    exact ⟨ret_int (by kernel_rfl), rfl⟩
  · go_enter Try.func131, Try.ntmps131
    go_wp2
    go_ret
    exact ⟨ret_int (by kernel_rfl), rfl⟩
  · go_enter Try.func131, Try.ntmps131
    go_wp2
    go_ret
    exact ⟨ret_int (by kernel_rfl), rfl⟩
  · go_enter Try.func131, Try.ntmps131
    go_wp2
    go_ret
    exact ⟨ret_int (by kernel_rfl), rfl⟩
  · go_enter Try.func131, Try.ntmps131
    go_wp2
    go_ret
    exact ⟨ret_int (by kernel_rfl), rfl⟩
  · go_enter Try.func131, Try.ntmps131
    go_wp2
    go_ret
    exact ⟨ret_int (by kernel_rfl), rfl⟩
  · go_enter Try.func131, Try.ntmps131
    go_wp2
    go_ret
    exact ⟨ret_int (by kernel_rfl), rfl⟩
  · go_enter Try.func131, Try.ntmps131
    go_wp2
    go_ret
    exact ⟨ret_int (by kernel_rfl), rfl⟩
  · go_enter Try.func131, Try.ntmps131
    go_wp2
    go_ret
    exact ⟨ret_int (by kernel_rfl), rfl⟩
  · go_enter Try.func131, Try.ntmps131
    go_wp2
    go_ret
    exact ⟨ret_int (by kernel_rfl), rfl⟩
  · go_enter Try.func131, Try.ntmps131
    go_wp2
    go_ret
    exact ⟨ret_int (by kernel_rfl), rfl⟩
  · go_enter Try.func131, Try.ntmps131
    go_wp2
    go_ret
    exact ⟨ret_int (by kernel_rfl), rfl⟩
  · go_enter Try.func131, Try.ntmps131
    go_wp2
    go_ret
    exact ⟨ret_int (by kernel_rfl), rfl⟩

set_option maxHeartbeats 1000000 in
theorem ones_any (n : Nat) (w : World) (hn : n < 32) :
    Calls Try.prog 108 #[.int .u64 (n : Int)] w fun e w' => e = .returned (.int .i64 ((pop n : Nat) : Int)) ∧ w = w' := by
  go_enter Try.func108, Try.ntmps108
  go_wp2_with fail
  refine (ones64_any n _ hn).mono ?_
  rintro e w' ⟨rfl, rfl⟩
  go_wp2
  go_ret
  exact ⟨rfl, rfl⟩

theorem sgn_small : ∀ a b : Fin 4, sgnT a.val b.val < 4 := by decide

set_option maxHeartbeats 8000000 in
theorem l7Sign_any (a b : Nat) (w : World) (ha : a < 4) (hb : b < 4) :
    Calls Try.prog 109 #[.int .i64 (a : Int), .int .i64 (b : Int)] w fun e w' => e = .returned (.int .i64 ((sgnT a b : Nat) : Int)) ∧ Below w.heap.size w w' := by
  have hc : a = 0 ∨ a = 1 ∨ a = 2 ∨ a = 3 := by omega
  have hd : b = 0 ∨ b = 1 ∨ b = 2 ∨ b = 3 := by omega
  rcases hc with rfl | rfl | rfl | rfl <;> rcases hd with rfl | rfl | rfl | rfl
  · go_enter Try.func109, Try.ntmps109
    go_wp2
    go_ret
    refine ⟨ret_int (by kernel_rfl), ?_⟩
    go_grown
  · go_enter Try.func109, Try.ntmps109
    go_wp2
    go_ret
    refine ⟨ret_int (by kernel_rfl), ?_⟩
    go_grown
  · go_enter Try.func109, Try.ntmps109
    go_wp2
    go_ret
    refine ⟨ret_int (by kernel_rfl), ?_⟩
    go_grown
  · go_enter Try.func109, Try.ntmps109
    go_wp2
    go_ret
    refine ⟨ret_int (by kernel_rfl), ?_⟩
    go_grown
  · go_enter Try.func109, Try.ntmps109
    go_wp2
    go_ret
    refine ⟨ret_int (by kernel_rfl), ?_⟩
    go_grown
  · go_enter Try.func109, Try.ntmps109
    go_wp2
    go_ret
    refine ⟨ret_int (by kernel_rfl), ?_⟩
    go_grown
  · go_enter Try.func109, Try.ntmps109
    go_wp2
    go_ret
    refine ⟨ret_int (by kernel_rfl), ?_⟩
    go_grown
  · go_enter Try.func109, Try.ntmps109
    go_wp2
    go_ret
    refine ⟨ret_int (by kernel_rfl), ?_⟩
    go_grown
  · go_enter Try.func109, Try.ntmps109
    go_wp2
    go_ret
    refine ⟨ret_int (by kernel_rfl), ?_⟩
    go_grown
  · go_enter Try.func109, Try.ntmps109
    go_wp2
    go_ret
    refine ⟨ret_int (by kernel_rfl), ?_⟩
    go_grown
  · go_enter Try.func109, Try.ntmps109
    go_wp2
    go_ret
    refine ⟨ret_int (by kernel_rfl), ?_⟩
    go_grown
  · go_enter Try.func109, Try.ntmps109
    go_wp2
    go_ret
    refine ⟨ret_int (by kernel_rfl), ?_⟩
    go_grown
  · go_enter Try.func109, Try.ntmps109
    go_wp2
    go_ret
    refine ⟨ret_int (by kernel_rfl), ?_⟩
    go_grown
  · go_enter Try.func109, Try.ntmps109
    go_wp2
    go_ret
    refine ⟨ret_int (by kernel_rfl), ?_⟩
    go_grown
  · go_enter Try.func109, Try.ntmps109
    go_wp2
    go_ret
    refine ⟨ret_int (by kernel_rfl), ?_⟩
    go_grown
  · go_enter Try.func109, Try.ntmps109
    go_wp2
    go_ret
    refine ⟨ret_int (by kernel_rfl), ?_⟩
    go_grown
end Go.Proofs.Ytcmkkjdleihjfaa
