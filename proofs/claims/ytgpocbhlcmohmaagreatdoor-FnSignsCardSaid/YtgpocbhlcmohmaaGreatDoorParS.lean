/- Parsing, of the reference: splitting at a byte. -/
import Derived.Test.YtgpocbhlcmohmaaGreatDoorJoinI
import Derived.Test.YtgpocbhlcmohmaaGreatDoorTxtP
namespace Go.Proofs.YtgpocbhlcmohmaaGreatDoor
open Go.RowKit

/-- the pieces of a text between the bytes c -/
def pcsB (c : UInt8) (s : ByteArray) : List ByteArray := (pcs c [] s.data.toList).map fun l => ⟨l.toArray⟩
theorem pcsB_ne (c : UInt8) (s : ByteArray) : pcsB c s ≠ [] := by
  unfold pcsB
  intro h
  exact pcs_ne s.data.toList [] (List.map_eq_nil_iff.1 h)
/-- the head of a round: ps are the pieces so far, the present one began at f -/
def SplitAt (c : UInt8) (s : ByteArray) (ps : List ByteArray) (f i : Nat) : Prop :=
  pcs c [] s.data.toList = ps.map (·.data.toList) ++ pcs c ((s.data.toList.drop f).take (i - f)) (s.data.toList.drop i)
theorem SplitAt.start (c : UInt8) (s : ByteArray) : SplitAt c s [] 0 0 := by simp [SplitAt]
theorem drop_at {s : ByteArray} {i : Nat} (h : i < s.size) : s.data.toList.drop i = s[i] :: s.data.toList.drop (i + 1) := by
  rw [List.drop_eq_getElem_cons (by simpa using h)]
  rfl
theorem cur_data (s : ByteArray) (f i : Nat) : (s.extract f i).data.toList = (s.data.toList.drop f).take (i - f) := by
  rw [Lib.extract_data]
theorem SplitAt.hit {c : UInt8} {s : ByteArray} {ps : List ByteArray} {f i : Nat} (h : SplitAt c s ps f i) (hi : i < s.size) (hb : s[i] = c) : SplitAt c s (ps ++ [s.extract f i]) (i + 1) (i + 1) := by
  unfold SplitAt at h ⊢
  rw [h, drop_at hi, pcs, if_pos hb, List.map_append, List.map_cons, List.map_nil, cur_data, Nat.sub_self, List.take_zero, List.append_assoc]
  rfl
theorem SplitAt.miss {c : UInt8} {s : ByteArray} {ps : List ByteArray} {f i : Nat} (h : SplitAt c s ps f i) (hf : f ≤ i) (hi : i < s.size) (hb : ¬ s[i] = c) : SplitAt c s ps f (i + 1) := by
  unfold SplitAt at h ⊢
  rw [h, drop_at hi, pcs, if_neg hb]
  congr 2
  rw [show i + 1 - f = (i - f) + 1 by omega, List.take_succ_eq_append_getElem (by simp; omega), List.getElem_drop]
  congr 2
  have e : f + (i - f) = i := by omega
  simp only [e]
  rfl
theorem SplitAt.done {c : UInt8} {s : ByteArray} {ps : List ByteArray} {f : Nat} (h : SplitAt c s ps f s.size) : pcsB c s = ps ++ [s.extract f s.size] := by
  unfold SplitAt at h
  have e : s.data.toList.drop s.size = [] := List.drop_eq_nil_of_le (by simp)
  rw [e, pcs] at h
  unfold pcsB
  rw [h, List.map_append, List.map_cons, List.map_nil, ← cur_data]
  congr 1
  rw [List.map_map]
  conv => rhs; rw [← List.map_id ps]
  rfl

end Go.Proofs.YtgpocbhlcmohmaaGreatDoor
