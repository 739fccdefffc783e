/- LeastExp, of the program and of the reference. -/
import Derived.Test.YtogafcnaombpaaaGoodM
namespace Go.Proofs.Ytogafcnaombpaaa
open Go.RowKit

def expMax (xs : List D5) : Int := xs.foldl (fun m x => if m > x.2 then m else x.2) 0
theorem expMax_step {xs : List D5} {k : Nat} {x : D5} (h : xs[k]? = some x) : expMax (xs.take (k + 1)) = if expMax (xs.take k) > x.2 then expMax (xs.take k) else x.2 := by
  obtain ⟨hk, rfl⟩ := List.getElem?_eq_some_iff.1 h
  unfold expMax
  rw [List.take_succ_eq_append_getElem hk, List.foldl_append]
  rfl
def leastRes (r c : Int) (xs : List D5) : Value := .tuple #[.int .i64 (rI (mOk r c xs) (expMax xs)), .bool (mOk r c xs)]

set_option maxHeartbeats 400000 in
theorem l1Most_any (a b : Int) (w : World) :
    Calls Try.prog 107 #[.int .i64 a, .int .i64 b] w fun e w' => e = .returned (.int .i64 (if a > b then a else b)) ∧ w = w' := by
  by_cases h : b < a
  · rw [if_pos h]
    go_enter Try.func107, Try.ntmps107
    go_wp2
    go_ret
    exact ⟨rfl, rfl⟩
  · rw [if_neg h]
    go_enter Try.func107, Try.ntmps107
    go_wp2
    go_ret
    exact ⟨rfl, rfl⟩

set_option maxHeartbeats 2000000 in
theorem l3Exp_any (r c : Int) (A : Option Addr) (cap : Nat) (xs : List D5) (w : World) (hn : xs.length ≤ 1048576) (hx : Hid (FlatAt w A (flatD xs))) :
    Calls Try.prog 77 #[mv r c A xs.length cap] w fun e w' => e = .returned (.int .i64 (expMax xs)) ∧ Below w.heap.size w w' := by
  go_enter Try.func77, Try.ntmps77
  go_wp2_with fail
  go_loopw [3, 9] (fun m i wr => ∃ k : Nat, i = .int .i64 k ∧ k ≤ xs.length ∧ m = .int .i64 (expMax (xs.take k)) ∧ Below w.heap.size w wr) (fun _ i _ => xs.length - (intOf i).toNat)
  case atStart => exact ⟨0, rfl, Nat.zero_le _, rfl, by go_grown⟩
  case round =>
    obtain ⟨k, rfl, hk, rfl, hb⟩ := hrel
    have zb := hb.size
    by_cases hlt : k < xs.length
    · obtain ⟨x, hkx⟩ : ∃ x, xs[k]? = some x := ⟨_, List.getElem?_eq_getElem hlt⟩
      obtain ⟨b, off, rfl, hbl, hcx⟩ := hx.out.five hkx
      have Hst := Lib.hid (expMax_step hkx)
      clear hkx
      obtain ⟨c0, c1, c2, c3, c4⟩ := hcx.below hb hbl
      clear hcx
      go_wp2_with fail
      refine (l1Most_any _ _ _).mono ?_
      rintro e w' ⟨rfl, rfl⟩
      go_wp2
      go_roundw
      case rel => exact ⟨k + 1, by go_num, by omega, by rw [Hst.out], by go_grown⟩
      case measure => simp [intOf]; omega
    · go_wp2
      go_ret
      have hfin : expMax (xs.take k) = expMax xs := by rw [List.take_of_length_le (by omega)]
      rw [← hfin]
      exact ⟨rfl, hb⟩

set_option maxHeartbeats 2000000 in
theorem specLeast_any (r c : Int) (A : Option Addr) (cap : Nat) (xs : List D5) (w : World) (hn : xs.length ≤ 1048576) (hx : Hid (FlatAt w A (flatD xs))) :
    Calls Try.prog 36 #[mv r c A xs.length cap] w fun e w' => e = .returned (leastRes r c xs) ∧ Below w.heap.size w w' := by
  rcases hok : mOk r c xs with _ | _
  · have Hr : Hid (leastRes r c xs = .tuple #[.int .i64 0, .bool false]) := by show leastRes r c xs = _; simp [leastRes, hok, rI_f]
    go_enter Try.func36, Try.ntmps36
    go_wp2_with fail
    refine (l3Good_any r c A cap xs _ (hx.out.alloc _)).mono ?_
    rintro e w1 ⟨rfl, b1⟩
    have B1 : Below w.heap.size w w1 := Below.chain (Below.refl _ _) (by go_grown) b1 (by go_size)
    rw [hok]
    go_wp2
    rw [Hr.out]
    go_returns
    exact ⟨rfl, B1⟩
  · have Hr : Hid (leastRes r c xs = .tuple #[.int .i64 (expMax xs), .bool true]) := by show leastRes r c xs = _; simp [leastRes, hok, rI_t]
    go_enter Try.func36, Try.ntmps36
    go_wp2_with fail
    refine (l3Good_any r c A cap xs _ (hx.out.alloc _)).mono ?_
    rintro e w1 ⟨rfl, b1⟩
    have B1 : Below w.heap.size w w1 := Below.chain (Below.refl _ _) (by go_grown) b1 (by go_size)
    obtain ⟨b1c, b1f⟩ := bcell b1
    rw [hok]
    go_wp2_with fail
    refine (l3Exp_any r c A cap xs _ hn (by refine hx.out.below B1)).mono ?_
    rintro e w2 ⟨rfl, b2⟩
    go_wp2
    rw [Hr.out]
    go_returns
    exact ⟨rfl, B1.trans (b2.mono B1.size)⟩

set_option maxHeartbeats 2000000 in
theorem implLeast_any (r c : Int) (A : Option Addr) (cap : Nat) (xs : List D5) (w : World) (hn : xs.length ≤ 1048576) (hx : Hid (FlatAt w A (flatD xs))) :
    Calls Try.prog 37 #[mv r c A xs.length cap] w fun e w' => e = .returned (leastRes r c xs) ∧ Below w.heap.size w w' := by
  rcases hok : mOk r c xs with _ | _
  · have Hr : Hid (leastRes r c xs = .tuple #[.int .i64 0, .bool false]) := by show leastRes r c xs = _; simp [leastRes, hok, rI_f]
    go_enter Try.func37, Try.ntmps37
    go_wp2_with fail
    refine (implValidM_any r c A cap xs _ hn (hx.out.alloc _)).mono ?_
    rintro e w1 ⟨rfl, b1⟩
    have B1 : Below w.heap.size w w1 := Below.chain (Below.refl _ _) (by go_grown) b1 (by go_size)
    rw [hok]
    go_wp2
    rw [Hr.out]
    go_returns
    exact ⟨rfl, B1⟩
  · have Hr : Hid (leastRes r c xs = .tuple #[.int .i64 (expMax xs), .bool true]) := by show leastRes r c xs = _; simp [leastRes, hok, rI_t]
    go_enter Try.func37, Try.ntmps37
    go_wp2_with fail
    refine (implValidM_any r c A cap xs _ hn (hx.out.alloc _)).mono ?_
    rintro e w1 ⟨rfl, b1⟩
    have B1 : Below w.heap.size w w1 := Below.chain (Below.refl _ _) (by go_grown) b1 (by go_size)
    obtain ⟨b1c, b1f⟩ := bcell b1
    rw [hok]
    go_wp2_with fail
    go_loopw [4, 13] (fun m i wr => ∃ k : Nat, i = .int .i64 k ∧ k ≤ xs.length ∧ m = .int .i64 (expMax (xs.take k)) ∧ Below w.heap.size w wr) (fun _ i _ => xs.length - (intOf i).toNat)
    case atStart => exact ⟨0, rfl, Nat.zero_le _, rfl, B1⟩
    case round =>
      obtain ⟨k, rfl, hk, rfl, hb⟩ := hrel
      have zb := hb.size
      by_cases hlt : k < xs.length
      · obtain ⟨x, hkx⟩ : ∃ x, xs[k]? = some x := ⟨_, List.getElem?_eq_getElem hlt⟩
        obtain ⟨b, off, rfl, hbl, hcx⟩ := hx.out.five hkx
        have Hst := Lib.hid (expMax_step hkx)
        clear hkx
        obtain ⟨c0, c1, c2, c3, c4⟩ := hcx.below hb hbl
        clear hcx
        go_wp2
        go_roundw
        case rel => exact ⟨k + 1, by go_num, by omega, by rw [Hst.out]; congr 1; split <;> split <;> omega, by go_grown⟩
        case measure => simp [intOf]; omega
      · go_wp2
        have hfin : expMax (xs.take k) = expMax xs := by rw [List.take_of_length_le (by omega)]
        rw [Hr.out, ← hfin]
        go_returns
        exact ⟨rfl, hb⟩
end Go.Proofs.Ytogafcnaombpaaa
