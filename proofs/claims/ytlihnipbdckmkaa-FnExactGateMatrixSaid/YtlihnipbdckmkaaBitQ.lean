/- Bits of an index of a state: the program's bitOf and flipped, the reference's l6Bit. -/
import Derived.Test.YtlihnipbdckmkaaNum
namespace Go.Proofs.Ytlihnipbdckmkaa
open Go.RowKit

/-- a bit of a number -/
def btq (n s : Nat) : Nat := n / 2 ^ s % 2
/-- a number with one bit turned -/
def flq (n s : Nat) : Nat := n ^^^ 2 ^ s
theorem btq_lt (n s : Nat) : btq n s < 2 := Nat.mod_lt _ (by omega)
theorem flq_lt : ∀ i : Fin 32, ∀ s : Fin 5, flq i.val s.val < 32 := by decide +kernel
theorem btq_at : ∀ x : Fin 32, ∀ q : Fin 5, bits .and .i64 ((x.val : Int) / 2 ^ q.val) 1 = ((btq x.val q.val : Nat) : Int) := by decide +kernel
theorem flq_at : ∀ x : Fin 32, ∀ q : Fin 5, bits .xor .i64 (x.val : Int) (RowKit.wrap64 (2 ^ q.val)) = ((flq x.val q.val : Nat) : Int) := by decide +kernel

set_option maxHeartbeats 1000000 in
theorem bitOf_any (n i q s : Nat) (w : World) (hn : n ≤ 5) (hs : s < 5) (hi : i < 32) (he : (n : Int) - 1 - (q : Int) = (s : Int)) :
    Calls Try.prog 34 #[.int .i64 (n : Int), .int .i64 (i : Int), .int .i64 (q : Int)] w fun e w' => e = .returned (.int .i64 ((btq i s : Nat) : Int)) ∧ w = w' := by
  have h1 := Lib.hid (btq_at ⟨i, hi⟩ ⟨s, hs⟩)
  go_enter Try.func34, Try.ntmps34
  go_wp2
  go_ret
  exact ⟨congrArg (fun x => Ending.returned (.int .i64 x)) h1.out, rfl⟩

set_option maxHeartbeats 1000000 in
theorem flipped_any (n i q s : Nat) (w : World) (hn : n ≤ 5) (hs : s < 5) (hi : i < 32) (he : (n : Int) - 1 - (q : Int) = (s : Int)) :
    Calls Try.prog 35 #[.int .i64 (n : Int), .int .i64 (i : Int), .int .i64 (q : Int)] w fun e w' => e = .returned (.int .i64 ((flq i s : Nat) : Int)) ∧ w = w' := by
  have h1 := Lib.hid (flq_at ⟨i, hi⟩ ⟨s, hs⟩)
  go_enter Try.func35, Try.ntmps35
  go_wp2
  go_ret
  exact ⟨congrArg (fun x => Ending.returned (.int .i64 x)) h1.out, rfl⟩

set_option maxHeartbeats 1000000 in
theorem l6Bit_any (n i q s : Nat) (w : World) (hn : n ≤ 5) (hs : s < 5) (hi : i < 32) (he : (n : Int) - 1 - (q : Int) = (s : Int)) :
    Calls Try.prog 73 #[.int .i64 (n : Int), .int .i64 (i : Int), .int .i64 (q : Int)] w fun e w' => e = .returned (.int .i64 ((btq i s : Nat) : Int)) ∧ w = w' := by
  have h1 := Lib.hid (btq_at ⟨i, hi⟩ ⟨s, hs⟩)
  go_enter Try.func73, Try.ntmps73
  go_wp2
  go_ret
  exact ⟨congrArg (fun x => Ending.returned (.int .i64 x)) h1.out, rfl⟩

theorem small_any (b : Bool) (w : World) :
    Calls Try.prog 33 #[.bool b] w fun e w' => e = .returned (.int .i64 (if b then 1 else 0)) ∧ w = w' := by
  cases b
  · go_enter Try.func33, Try.ntmps33
    go_wp2
    go_ret
    exact ⟨rfl, rfl⟩
  · go_enter Try.func33, Try.ntmps33
    go_wp2
    go_ret
    exact ⟨rfl, rfl⟩
end Go.Proofs.Ytlihnipbdckmkaa
