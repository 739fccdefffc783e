/- Parsing, of the reference: signed numbers and numbers below a million. -/
import Derived.Test.YtgpocbhlcmohmaaGreatDoorParS
namespace Go.Proofs.YtgpocbhlcmohmaaGreatDoor
open Go.RowKit

theorem sgF_lt : ∀ (k : Nat) (l : List UInt8), l.length = k → sgF 0 l < 10 ^ k
  | 0, l, h => by
    rw [List.length_eq_zero_iff] at h
    subst h
    decide
  | k + 1, l, h => by
    obtain ⟨t, b, rfl⟩ : ∃ t b, l = t ++ [b] := ⟨l.dropLast, l.getLast (by intro e; simp [e] at h), (List.dropLast_concat_getLast _).symm⟩
    have ih := sgF_lt k t (by simpa using h)
    rw [sgF_snoc, Nat.pow_succ]
    split
    · rename_i hd
      have : 48 ≤ b.toNat ∧ b.toNat ≤ 57 := by simpa [isD] using hd
      omega
    · omega
theorem sgF_12 {l : List UInt8} (h : l.length ≤ 12) : sgF 0 l < 1000000000000 :=
  Nat.lt_of_lt_of_le (sgF_lt l.length l rfl) (Nat.le_trans (Nat.pow_le_pow_right (by omega) h) (by decide))
theorem sgF_step {l : List UInt8} {k : Nat} {b : UInt8} (h : l[k]? = some b) : sgF 0 (l.take (k + 1)) = if isD b then 10 * sgF 0 (l.take k) + (b.toNat - 48) else sgF 0 (l.take k) := by
  obtain ⟨hk, rfl⟩ := List.getElem?_eq_some_iff.1 h
  rw [List.take_succ_eq_append_getElem hk, sgF_snoc]
theorem at_list {s : ByteArray} {i : Nat} (h : i < s.size) : s.data.toList[i]? = some s[i] := by
  rw [List.getElem?_eq_getElem (by simpa using h)]
  rfl
theorem signB_neg {s : ByteArray} (h1 : 1 < s.size) (h : s[0].toNat = 45) : signB s.data.toList = -(sgF 0 ((s.data.toList.take 12).drop 1) : Int) := by
  have e0 := at_list (s := s) (i := 0) (by omega)
  have hl : s.data.toList.length = s.size := by simp
  rcases hs : s.data.toList with _ | ⟨b, _ | ⟨c, r⟩⟩
  · rw [hs] at hl; simp at hl; omega
  · rw [hs] at hl; simp at hl; omega
  · rw [hs] at e0
    simp at e0
    rw [signB, if_pos (by rw [e0]; exact h)]
    rfl
theorem signB_pos {s : ByteArray} (h : ∀ h1 : 1 < s.size, ¬ s[0].toNat = 45) : signB s.data.toList = (sgF 0 ((s.data.toList.take 12).drop 0) : Int) := by
  have hl : s.data.toList.length = s.size := by simp
  rcases hs : s.data.toList with _ | ⟨b, _ | ⟨c, r⟩⟩
  · rfl
  · rfl
  · have h1 : 1 < s.size := by rw [hs] at hl; simp at hl; omega
    have e0 := at_list (s := s) (i := 0) (by omega)
    rw [hs] at e0
    simp at e0
    rw [signB, if_neg (by rw [e0]; exact h h1)]
    rfl
theorem cut_at {s : ByteArray} {a k : Nat} (h : a + k < s.size) (h2 : a + k < 12) : ((s.data.toList.take 12).drop a)[k]? = some s[a + k] := by
  rw [List.getElem?_drop, List.getElem?_take, if_pos h2, at_list h]
theorem cut_len (s : ByteArray) (a : Nat) : ((s.data.toList.take 12).drop a).length = min 12 s.size - a := by
  rw [List.length_drop, List.length_take]
  simp
theorem cut_all {s : ByteArray} {a k : Nat} (h : s.size ≤ a + k ∨ 12 ≤ a + k) : ((s.data.toList.take 12).drop a).take k = (s.data.toList.take 12).drop a := List.take_of_length_le (by rw [cut_len]; omega)
theorem isD_iff {b : UInt8} : isD b = true ↔ (48 ≤ b.toNat ∧ b.toNat ≤ 57) := by simp [isD]

end Go.Proofs.YtgpocbhlcmohmaaGreatDoor
