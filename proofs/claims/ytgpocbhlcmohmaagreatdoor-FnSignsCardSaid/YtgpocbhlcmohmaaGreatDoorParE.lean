/- ParseDyadic, of the reference. -/
import Derived.Test.YtgpocbhlcmohmaaGreatDoorParD
namespace Go.Proofs.YtgpocbhlcmohmaaGreatDoor
open Go.RowKit

/-- what ParseRing returns, part by part -/
def prQ (s : ByteArray) : Int × Int × Int × Int × Bool := match prV s with
  | some (o0, o1, o2, o3) => (rI (okR o0 o1 o2 o3) (o0.getD 0), rI (okR o0 o1 o2 o3) (o1.getD 0), rI (okR o0 o1 o2 o3) (o2.getD 0), rI (okR o0 o1 o2 o3) (o3.getD 0), okR o0 o1 o2 o3)
  | none => (0, 0, 0, 0, false)
theorem prRes_Q (s : ByteArray) : prRes s = .tuple #[rv (prQ s).1 (prQ s).2.1 (prQ s).2.2.1 (prQ s).2.2.2.1, .bool (prQ s).2.2.2.2] := by
  rw [prRes, prQ]
  rcases prV s with _ | ⟨o0, o1, o2, o3⟩ <;> rfl
theorem prQ_of {s : ByteArray} {a b c d : Int} {ok : Bool} (h : prRes s = .tuple #[rv a b c d, .bool ok]) : prQ s = (a, b, c, d, ok) := by
  rw [prRes_Q] at h
  rcases hq : prQ s with ⟨a', b', c', d', ok'⟩
  rw [hq] at h
  simp [rv] at h
  obtain ⟨⟨rfl, rfl, rfl, rfl⟩, rfl⟩ := h
  rfl
def pdOf (q : Int × Int × Int × Int × Bool) (l : List UInt8) : Value := pdTup (q.2.2.2.2 && dOk q.1 q.2.1 q.2.2.1 q.2.2.2.1 (readB l)) q.1 q.2.1 q.2.2.1 q.2.2.2.1 (readB l)
/-- what ParseDyadic returns -/
def pdRes (s : ByteArray) : Value := match pcsB 47 s with
  | [x0, x1] => pdOf (prQ x0) x1.data.toList
  | _ => .tuple #[dv 0 0 0 0 0, .bool false]
theorem two_or (s : ByteArray) : (∃ x0 x1, pcsB 47 s = [x0, x1]) ∨ (pcsB 47 s).length ≠ 2 := by
  rcases pcsB 47 s with _ | ⟨x0, _ | ⟨x1, _ | ⟨x2, r⟩⟩⟩
  · exact .inr (by simp)
  · exact .inr (by simp)
  · exact .inl ⟨x0, x1, rfl⟩
  · exact .inr (by simp)
theorem pdRes_two {s x0 x1 : ByteArray} {a b c d : Int} {ok : Bool} (h : pcsB 47 s = [x0, x1]) (hf : prRes x0 = .tuple #[rv a b c d, .bool ok]) : pdRes s = pdTup (ok && dOk a b c d (readB x1.data.toList)) a b c d (readB x1.data.toList) := by
  rw [pdRes, h]
  simp only
  rw [prQ_of hf]
  rfl
theorem pdRes_len {s : ByteArray} (h : (pcsB 47 s).length ≠ 2) : pdRes s = .tuple #[dv 0 0 0 0 0, .bool false] := by
  unfold pdRes
  split
  · rename_i h'
    rw [h'] at h
    exact absurd rfl h
  · rfl
theorem dOk_exp' {a b c d e : Int} (h : dOk a b c d e = true) : 0 ≤ e ∧ e ≤ 60 := dOk_exp h
/-- the two readings of the exponent -/
theorem same_exp (a b c d : Int) (l : List UInt8) (ok : Bool) : pdTup (ok && (parN l).isSome && dOk a b c d ((parN l).getD 0)) a b c d ((parN l).getD 0) = pdTup (ok && dOk a b c d (readB l)) a b c d (readB l) := by
  rcases ok with _ | _
  · simp [pdTup_f]
  simp only [Bool.true_and]
  by_cases hg : dOk a b c d (readB l) = true
  · have h1 := dOk_exp hg
    have h2 := readB_nonneg h1.1
    have h3 : parN l = some (readB l) := by
      have h4 := parN_itoa (n := readB l) (by omega) (by omega)
      rw [h2] at h4
      exact h4
    rw [h3]
    rfl
  · have hg' : dOk a b c d (readB l) = false := by simpa using hg
    rw [hg', pdTup_f]
    rcases hp : parN l with _ | n
    · exact pdTup_f _ _ _ _ _
    · by_cases hn : dOk a b c d n = true
      · exfalso
        apply hg
        have h1 := dOk_exp hn
        have h2 := parN_some hp
        obtain ⟨u, rfl⟩ := Int.eq_ofNat_of_zero_le h1.1
        rw [h2, itoa_pos, readB_dec (by omega)]
        exact hn
      · have hn' : dOk a b c d n = false := by simpa using hn
        simp only [Option.isSome_some, Option.getD_some, Bool.true_and]
        rw [hn', pdTup_f]

theorem implParD_any (s : ByteArray) (w : World) (hs : s.size ≤ 2000000) (hM : Hid (MaxL w)) (hv : Hid (ParV w)) :
    Calls Tryz.prog 10 #[.string s] w fun e w' => e = .returned (pdRes s) ∧ Below w.heap.size w w' := by
  obtain ⟨a, b, c, d, ok, hf⟩ := prRes_form (cutH 47 s)
  have hc := implParD_gen s a b c d ok _ w hs hf rfl hM hv
  rcases two_or s with ⟨x0, x1, h⟩ | h
  · obtain ⟨e0, e1⟩ := cut_two h
    rw [e0] at hf
    rw [pdRes_two h hf, ← same_exp]
    rw [e1] at hc
    exact hc
  · rw [pdRes_len h]
    rw [cut_other h] at hc
    simp only [Option.isSome_none, Bool.and_false, Bool.false_and] at hc
    rw [pdTup_f] at hc
    exact hc

theorem pdRes_form (s : ByteArray) : ∃ (a b c d e : Int) (ok : Bool), pdRes s = .tuple #[dv a b c d e, .bool ok] := by
  rcases two_or s with ⟨x0, x1, h⟩ | h
  · obtain ⟨a, b, c, d, ok, hf⟩ := prRes_form x0
    exact ⟨_, _, _, _, _, _, pdRes_two h hf⟩
  · exact ⟨_, _, _, _, _, _, pdRes_len h⟩
end Go.Proofs.YtgpocbhlcmohmaaGreatDoor
