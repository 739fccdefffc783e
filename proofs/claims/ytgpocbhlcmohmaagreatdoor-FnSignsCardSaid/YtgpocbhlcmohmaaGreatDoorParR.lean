/- Parsing, of the reference: numbers below a million. -/
import Derived.Test.YtgpocbhlcmohmaaGreatDoorParI
namespace Go.Proofs.YtgpocbhlcmohmaaGreatDoor
open Go.RowKit

theorem head_at {s : ByteArray} (h : 0 < s.size) : s.data.toList.head? = some s[0] := by
  rw [List.head?_eq_getElem?, at_list h]
theorem readB_out {s : ByteArray} (h : s.size = 0 ∨ 6 < s.size) : readB s.data.toList = -1 := by
  have hl : s.data.toList.length = s.size := by simp
  rw [readB, if_pos (by omega)]
theorem readB_zero {s : ByteArray} (h1 : 1 < s.size) (h : s[0].toNat = 48) : readB s.data.toList = -1 := by
  have hl : s.data.toList.length = s.size := by simp
  rw [readB, if_pos (Or.inr (Or.inr ⟨by rw [head_at (by omega)]; exact congrArg some (UInt8.toNat_inj.1 h), by omega⟩))]
theorem readB_in {s : ByteArray} (h0 : 0 < s.size) (h6 : s.size ≤ 6) (h : ¬ (s[0].toNat = 48 ∧ 1 < s.size)) : readB s.data.toList = if s.data.toList.all isD then (sgF 0 s.data.toList : Int) else -1 := by
  have hl : s.data.toList.length = s.size := by simp
  rw [readB, if_neg]
  rintro (h1 | h1 | ⟨h1, h2⟩)
  · omega
  · omega
  · rw [head_at h0] at h1
    exact h ⟨by rw [Option.some.inj h1]; rfl, by omega⟩
theorem isD_step {s : ByteArray} {k : Nat} (h : k < s.size) : (s.data.toList.take (k + 1)).all isD = ((s.data.toList.take k).all isD && isD s[k]) := by
  rw [List.take_succ_eq_append_getElem (by simpa using h), List.all_append]
  simp; rfl
theorem isD_bad {s : ByteArray} {k : Nat} (h : k < s.size) (hb : isD s[k] = false) : s.data.toList.all isD = false := by
  rw [List.all_eq_false]
  exact ⟨s.data.toList[k]'(by simpa using h), List.getElem_mem _, by rw [Bool.not_eq_true]; exact hb⟩

end Go.Proofs.YtgpocbhlcmohmaaGreatDoor
