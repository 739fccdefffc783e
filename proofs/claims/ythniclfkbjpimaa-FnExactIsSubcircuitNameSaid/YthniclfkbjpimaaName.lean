/- Names of subcircuits: spec.l5Name, IsSubcircuitName. -/
import Derived.Test.YthniclfkbjpimaaNum
namespace Go.Proofs.Ythniclfkbjpimaa
open Go.RowKit

def letB (c : UInt8) : Bool := decide (97 ≤ (c.toNat : Int)) && decide ((c.toNat : Int) ≤ 122)
def nameB (s : ByteArray) : Bool := s.data.toList.all letB && inB s.size 1 8

theorem letB_step (s : ByteArray) (k : Nat) (h : k < s.size) : (s.data.toList.take (k + 1)).all letB = ((s.data.toList.take k).all letB && letB s[k]) := by
  rw [List.take_succ_eq_append_getElem (by simpa using h), List.all_append]
  simp; rfl
theorem letB_bad (s : ByteArray) (k : Nat) (h : k < s.size) (hb : letB s[k] = false) : nameB s = false := by
  have : s.data.toList.all letB = false := by
    rw [List.all_eq_false]
    exact ⟨s.data.toList[k]'(by simpa using h), List.getElem_mem _, by rw [Bool.not_eq_true]; exact hb⟩
  simp [nameB, this]

set_option maxHeartbeats 1000000 in
theorem l5Name_any (s : ByteArray) (w : World) (hs : s.size ≤ maxLen) :
    Calls Try.prog 48 #[.string s] w fun e w' => e = .returned (.bool (nameB s)) ∧ w = w' := by
  unfold maxLen at hs
  go_enter Try.func48, Try.ntmps48
  go_wp2
  go_loop [3] (fun i => ∃ k : Nat, k ≤ s.size ∧ i = .int .i64 k ∧ (s.data.toList.take k).all letB = true) (fun i => s.size - (intOf i).toNat)
  case atStart => exact ⟨0, Nat.zero_le _, rfl, rfl⟩
  case round =>
    obtain ⟨k, hk, rfl, hall⟩ := hrel
    have Hall := Lib.hid hall
    clear hall
    by_cases hlt : k < s.size
    · have Hst := Lib.hid (letB_step s k hlt)
      have Hbad := Lib.hid (letB_bad s k hlt)
      have Hdef := Lib.hid (show letB s[k] = (decide (97 ≤ (s[k].toNat : Int)) && decide ((s[k].toNat : Int) ≤ 122)) from rfl)
      by_cases h1 : (s[k].toNat : Int) < 97
      · go_wp2
        go_ret
        exact ⟨ret_bool (Hbad.out (by rw [Hdef.out]; simp; omega)).symm, rfl⟩
      · by_cases h2 : (122 : Int) < (s[k].toNat : Int)
        · go_wp2
          go_ret
          exact ⟨ret_bool (Hbad.out (by rw [Hdef.out]; simp; omega)).symm, rfl⟩
        · go_wp2
          go_round
          case rel => exact ⟨k + 1, by omega, by go_num, by rw [Hst.out, Hall.out, Hdef.out]; simp; omega⟩
          case measure => simp [intOf]; omega
    · have hk2 : k = s.size := by omega
      have H2 : Hid (nameB s = inB s.size 1 8) := by
        have := Hall.out
        rw [List.take_of_length_le (by simp; omega)] at this
        show nameB s = inB s.size 1 8
        simp [nameB, this]
      clear hk2
      go_wp2_with (go_at_call 49; refine (l1In_any _ _ _ _).mono ?_; rintro e w' ⟨rfl, rfl⟩)
      go_ret
      exact ⟨ret_bool (by rw [H2.out]), rfl⟩

set_option maxHeartbeats 1000000 in
theorem implName_any (s : ByteArray) (w : World) (hs : s.size ≤ maxLen) :
    Calls Try.prog 19 #[.string s] w fun e w' => e = .returned (.bool (nameB s)) ∧ w = w' := by
  unfold maxLen at hs
  go_enter Try.func19, Try.ntmps19
  go_wp2
  go_loop [3] (fun i => ∃ k : Nat, k ≤ s.size ∧ i = .int .i64 k ∧ (s.data.toList.take k).all letB = true) (fun i => s.size - (intOf i).toNat)
  case atStart => exact ⟨0, Nat.zero_le _, rfl, rfl⟩
  case round =>
    obtain ⟨k, hk, rfl, hall⟩ := hrel
    have Hall := Lib.hid hall
    clear hall
    by_cases hlt : k < s.size
    · have Hst := Lib.hid (letB_step s k hlt)
      have Hbad := Lib.hid (letB_bad s k hlt)
      have Hdef := Lib.hid (show letB s[k] = (decide (97 ≤ (s[k].toNat : Int)) && decide ((s[k].toNat : Int) ≤ 122)) from rfl)
      by_cases h1 : (s[k].toNat : Int) < 97
      · go_wp2
        go_ret
        exact ⟨ret_bool (Hbad.out (by rw [Hdef.out]; simp; omega)).symm, rfl⟩
      · by_cases h2 : (122 : Int) < (s[k].toNat : Int)
        · go_wp2
          go_ret
          exact ⟨ret_bool (Hbad.out (by rw [Hdef.out]; simp; omega)).symm, rfl⟩
        · go_wp2
          go_round
          case rel => exact ⟨k + 1, by omega, by go_num, by rw [Hst.out, Hall.out, Hdef.out]; simp; omega⟩
          case measure => simp [intOf]; omega
    · have hk2 : k = s.size := by omega
      have H2 : Hid (nameB s = inB s.size 1 8) := by
        have := Hall.out
        rw [List.take_of_length_le (by simp; omega)] at this
        show nameB s = inB s.size 1 8
        simp [nameB, this]
      clear hk2
      go_wp2_with (go_at_call 47; refine (within_any _ _ _ _).mono ?_; rintro e w' ⟨rfl, rfl⟩)
      go_ret
      exact ⟨ret_bool (by rw [H2.out]), rfl⟩

theorem specName_any (s : ByteArray) (w : World) (hs : s.size ≤ maxLen) :
    Calls Try.prog 18 #[.string s] w fun e w' => e = .returned (.bool (nameB s)) ∧ w = w' := by
  have Hs := Lib.hid hs
  clear hs
  go_enter Try.func18, Try.ntmps18
  go_wp2_with fail
  refine (l5Name_any _ _ Hs.out).mono ?_
  rintro e w' ⟨rfl, rfl⟩
  go_wp2
  go_ret
  exact ⟨rfl, rfl⟩
end Go.Proofs.Ythniclfkbjpimaa
