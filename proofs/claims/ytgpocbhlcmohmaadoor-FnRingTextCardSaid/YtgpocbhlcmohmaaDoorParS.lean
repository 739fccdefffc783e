/- Parsing, of the reference: splitting at a byte. -/
import Derived.Test.YtgpocbhlcmohmaaDoorJoinI
import Derived.Test.YtgpocbhlcmohmaaDoorTxtP
namespace Go.Proofs.YtgpocbhlcmohmaaDoor
open Go.RowKit

/-- the pieces of a text between the bytes c -/
def pcsB (c : UInt8) (s : ByteArray) : List ByteArray := (pcs c [] s.data.toList).map fun l => ⟨l.toArray⟩
theorem pcsB_ne (c : UInt8) (s : ByteArray) : pcsB c s ≠ [] := by
  unfold pcsB
  intro h
  exact pcs_ne s.data.toList [] (List.map_eq_nil_iff.1 h)
/-- the head of a round: ps are the pieces so far, the present one began at f -/
def SplitAt (c : UInt8) (s : ByteArray) (ps : List ByteArray) (f i : Nat) : Prop :=
  pcs c [] s.data.toList = ps.map (·.data.toList) ++ pcs c ((s.data.toList.drop f).take (i - f)) (s.data.toList.drop i)
theorem SplitAt.start (c : UInt8) (s : ByteArray) : SplitAt c s [] 0 0 := by simp [SplitAt]
theorem drop_at {s : ByteArray} {i : Nat} (h : i < s.size) : s.data.toList.drop i = s[i] :: s.data.toList.drop (i + 1) := by
  rw [List.drop_eq_getElem_cons (by simpa using h)]
  rfl
theorem cur_data (s : ByteArray) (f i : Nat) : (s.extract f i).data.toList = (s.data.toList.drop f).take (i - f) := by
  rw [Lib.extract_data]
theorem SplitAt.hit {c : UInt8} {s : ByteArray} {ps : List ByteArray} {f i : Nat} (h : SplitAt c s ps f i) (hi : i < s.size) (hb : s[i] = c) : SplitAt c s (ps ++ [s.extract f i]) (i + 1) (i + 1) := by
  unfold SplitAt at h ⊢
  rw [h, drop_at hi, pcs, if_pos hb, List.map_append, List.map_cons, List.map_nil, cur_data, Nat.sub_self, List.take_zero, List.append_assoc]
  rfl
theorem SplitAt.miss {c : UInt8} {s : ByteArray} {ps : List ByteArray} {f i : Nat} (h : SplitAt c s ps f i) (hf : f ≤ i) (hi : i < s.size) (hb : ¬ s[i] = c) : SplitAt c s ps f (i + 1) := by
  unfold SplitAt at h ⊢
  rw [h, drop_at hi, pcs, if_neg hb]
  congr 2
  rw [show i + 1 - f = (i - f) + 1 by omega, List.take_succ_eq_append_getElem (by simp; omega), List.getElem_drop]
  congr 2
  have e : f + (i - f) = i := by omega
  simp only [e]
  rfl
theorem SplitAt.done {c : UInt8} {s : ByteArray} {ps : List ByteArray} {f : Nat} (h : SplitAt c s ps f s.size) : pcsB c s = ps ++ [s.extract f s.size] := by
  unfold SplitAt at h
  have e : s.data.toList.drop s.size = [] := List.drop_eq_nil_of_le (by simp)
  rw [e, pcs] at h
  unfold pcsB
  rw [h, List.map_append, List.map_cons, List.map_nil, ← cur_data]
  congr 1
  rw [List.map_map]
  conv => rhs; rw [← List.map_id ps]
  rfl

set_option maxRecDepth 100000 in
set_option maxHeartbeats 2000000 in
theorem l1Split_any (s : ByteArray) (c : UInt8) (w : World) (hs : s.size ≤ 2097152) :
    Calls Tryd.prog 36 #[.string s, .int .u8 (c.toNat : Int)] w fun e w' => ∃ v, e = .returned v ∧ OwnT w' w.heap.size v (pcsB c s) ∧ Below w.heap.size w w' := by
  obtain ⟨i0, hi, hz0, hz1, hz2⟩ := info_parts Tryd.infoStr
  go_enter Tryd.func36, Tryd.ntmps36
  go_wp2_with fail
  go_loopg [5, 6, 7] s.size (fun gk v f i wr => ∃ (F I : Nat) (ps : List ByteArray), f = .int .i64 F ∧ i = .int .i64 I ∧ F ≤ I ∧ I + gk = s.size ∧ ps.length ≤ I ∧ SplitAt c s ps F I ∧ OwnT wr w.heap.size v ps ∧ Below w.heap.size w wr)
  case atStart => exact ⟨0, 0, [], rfl, rfl, Nat.le_refl _, by omega, Nat.le_refl _, SplitAt.start c s, ⟨none, 0, rfl, World.ownsRow_nil _ _ _ _⟩, Below.refl _ _⟩
  case round =>
    obtain ⟨F, I, ps, rfl, rfl, hFI, hIg, hpl, hsp, ho, hb⟩ := hrel
    have zb := hb.size
    obtain ⟨A', cap', rfl, hown⟩ := ho
    have Hown := Lib.hid hown
    have Hsp := Lib.hid hsp
    have HIg := Lib.hid hIg
    have hIs : I ≤ s.size := by omega
    clear hown hsp hIg
    by_cases hlt : I < s.size
    · by_cases hc : s[I] = c
      · have hci : (s[I].toNat : Int) = (c.toNat : Int) := by rw [hc]
        obtain ⟨x, hx⟩ : ∃ x, x = s.extract F I := ⟨_, rfl⟩
        have Hx := Lib.hid hx
        have hFi : (F : Int) ≤ (I : Int) := by omega
        have hIi : (I : Int) ≤ (s.size : Int) := by omega
        have hs1 : ∀ W, (Instr.slice 9 (.string s) (some (.int .i64 (F : Int))) (some (.int .i64 (I : Int))) none).run Tryd.prog W = .ok (.string x) W := fun W => by rw [hx]; simp [Instr.slice, run_underlying Tryd.underlying9, Instr.sliceBounds, run_sliceBound, hFi, hIi]
        clear hx
        go_wp2_with (at_builtin; refine wpList_append_lies _ rfl _ _ 64 rfl w.heap.size 9 i0 (.string ByteArray.empty) 1 16 Tryd.underlying64 hi hz0 hz1 hz2 rfl (by decide) (.slice A' ps.length cap') ps.length (ps.map Value.string) rfl (Hown.out.alloc _) _ 1 1 [.string x] rfl rfl (World.news_of_block (heap_top _ _ (by simp))) (by intro u hu; simp at hu; subst hu; rfl) (by decide) (by unfold maxLen; omega) (by omega) (by simp; omega) _ rfl ?_; refine Hid.out ?_)
        refine Lib.hid ?_
        intro g cap2 w3 hown' hgrow hat hltg
        have Hown3 := Lib.hid hown'
        have B3 := Lib.hid (Below.grown ((Below.refl _ _).alloc (Nat.le_refl _) (.cells #[.string x] 9) |> fun h => hb.trans (h.mono zb)) hgrow (by simp; omega) (fun q hq => (Hown.out.lt q hq).1))
        clear hown' hgrow hat
        go_wp2
        go_roundg (s.size - (I + 1))
        case measure => have := HIg.out; omega
        case rel =>
          have hlk : (ps ++ [x]).length = ps.length + 1 := by simp
          refine ⟨I + 1, I + 1, ps ++ [x], by go_num, by go_num, Nat.le_refl _, by have := HIg.out; omega, by omega, by rw [Hx.out]; exact Hsp.out.hit hlt hc, ⟨some ⟨g, 0, none⟩, cap2, by rw [hlk], ?_⟩, B3.out⟩
          rw [hlk, List.map_append]
          exact Hown3.out
      · have hci : ¬ (s[I].toNat : Int) = (c.toNat : Int) := fun h => hc (UInt8.toNat_inj.1 (by omega))
        go_wp2
        go_roundg (s.size - (I + 1))
        case measure => have := HIg.out; omega
        case rel => exact ⟨F, I + 1, ps, rfl, by go_num, by omega, by have := HIg.out; omega, by omega, Hsp.out.miss hFI hlt hc, ⟨A', cap', rfl, Hown.out⟩, hb⟩
    · have hIe : I = s.size := by omega
      obtain ⟨x, hx⟩ : ∃ x, x = s.extract F s.size := ⟨_, rfl⟩
      have Hd : Hid (pcsB c s = ps ++ [x]) := by rw [hx]; exact Lib.hid (SplitAt.done (by rw [← hIe]; exact Hsp.out))
      have hFi : (F : Int) ≤ (s.size : Int) := by omega
      have hs1 : ∀ W, (Instr.slice 9 (.string s) (some (.int .i64 (F : Int))) none none).run Tryd.prog W = .ok (.string x) W := fun W => by rw [hx]; simp [Instr.slice, run_underlying Tryd.underlying9, Instr.sliceBounds, run_sliceBound, hFi]
      clear hx hIe
      go_wp2_with (at_builtin; refine wpList_append_lies _ rfl _ _ 64 rfl w.heap.size 9 i0 (.string ByteArray.empty) 1 16 Tryd.underlying64 hi hz0 hz1 hz2 rfl (by decide) (.slice A' ps.length cap') ps.length (ps.map Value.string) rfl (Hown.out.alloc _) _ 1 1 [.string x] rfl rfl (World.news_of_block (heap_top _ _ (by simp))) (by intro u hu; simp at hu; subst hu; rfl) (by decide) (by unfold maxLen; omega) (by omega) (by simp; omega) _ rfl ?_; refine Hid.out ?_)
      refine Lib.hid ?_
      intro g cap2 w3 hown' hgrow hat hltg
      have Hown3 := Lib.hid hown'
      have B3 := Lib.hid (Below.grown ((Below.refl _ _).alloc (Nat.le_refl _) (.cells #[.string x] 9) |> fun h => hb.trans (h.mono zb)) hgrow (by simp; omega) (fun q hq => (Hown.out.lt q hq).1))
      clear hown' hgrow hat
      go_wp2
      go_ret
      have hlk : (ps ++ [x]).length = ps.length + 1 := by simp
      refine ⟨.slice (some ⟨g, 0, none⟩) (ps.length + 1) cap2, rfl, ?_, B3.out⟩
      rw [Hd.out]
      refine ⟨some ⟨g, 0, none⟩, cap2, (by rw [hlk]), ?_⟩
      rw [hlk, List.map_append]
      exact Hown3.out
end Go.Proofs.YtgpocbhlcmohmaaDoor
