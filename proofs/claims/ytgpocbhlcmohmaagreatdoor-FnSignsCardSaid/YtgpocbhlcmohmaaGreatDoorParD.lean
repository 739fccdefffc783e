/- ParseDyadic, of the program and of the reference. -/
import Derived.Test.YtgpocbhlcmohmaaGreatDoorParL
import Derived.Test.YtgpocbhlcmohmaaGreatDoorParR
import Derived.Test.YtgpocbhlcmohmaaGreatDoorFmtD
namespace Go.Proofs.YtgpocbhlcmohmaaGreatDoor
open Go.RowKit

/-- the text ahead of the first c, and behind it -/
def cutH (c : UInt8) (s : ByteArray) : ByteArray := ⟨(Lib.cut s.data.toList [c]).1.toArray⟩
def cutT (c : UInt8) (s : ByteArray) : ByteArray := ⟨(Lib.cut s.data.toList [c]).2.1.toArray⟩
theorem below_drewN {B : Nat} {a w : World} (h : Below B a w) (n : Nat) : Below B a (w.drewN n) := ⟨h.os, h.tape, h.output, h.size, h.block⟩
theorem cutW_any (s : ByteArray) (c : UInt8) (w : World) (hs : s.size ≤ 2000000) (hM : MaxL w) :
    Calls Tryz.prog 22 #[.string s, .string ⟨#[c]⟩] w fun e w' => ∃ f : Bool, e = .returned (.tuple #[.string (cutH c s), .string (cutT c s), .bool f]) ∧ Below w.heap.size w w' := by
  obtain ⟨m, hm⟩ := hM
  refine (Any.strings_Cut { Tryz.laysM145 with } s ⟨#[c]⟩ m w (by omega) hm).mono ?_
  rintro e w' ⟨rfl, n, rfl⟩
  exact ⟨_, rfl, below_drewN (Below.refl _ _) n⟩
theorem cut_cases (c : UInt8) (l : List UInt8) : (c ∉ l ∧ Lib.cut l [c] = (l, [], false)) ∨ (∃ a b, l = a ++ c :: b ∧ c ∉ a ∧ Lib.cut l [c] = (a, b, true)) := by
  have e1 := Lib.index_one l c
  by_cases hm : Lib.index l [c] = -1
  · refine .inl ⟨fun hin => ?_, ?_⟩
    · obtain ⟨i, hi⟩ := List.mem_iff_getElem?.1 hin
      exact Lib.indexByte_none (e1.symm.trans hm) i hi
    · rw [Lib.cut, if_neg (by omega)]
  · have hge := Lib.index_ge l [c]
    obtain ⟨i, hi⟩ : ∃ i : Nat, Lib.index l [c] = i := ⟨(Lib.index l [c]).toNat, by omega⟩
    obtain ⟨hat, hbef⟩ := Lib.indexByte_some (e1.symm.trans hi)
    have hs : l = l.take i ++ c :: l.drop (i + 1) := by
      have h1 := (List.getElem?_eq_some_iff.1 hat).2
      rw [← h1, List.getElem_cons_drop, List.take_append_drop]
    refine .inr ⟨l.take i, l.drop (i + 1), hs, fun hin => ?_, ?_⟩
    · obtain ⟨j, hj⟩ := List.mem_iff_getElem?.1 hin
      have hji : j < i := by
        have := (List.getElem?_eq_some_iff.1 hj).1
        rw [List.length_take] at this
        omega
      rw [List.getElem?_take_of_lt hji] at hj
      exact hbef j hji hj
    · rw [Lib.cut, if_pos (by omega), hi]
      rfl
theorem pcs_two {c : UInt8} {l : List UInt8} (h : c ∈ l) : 2 ≤ (pcs c [] l).length := by
  rcases cut_cases c l with ⟨hn, _⟩ | ⟨a, b, rfl, ha, _⟩
  · exact absurd h hn
  · rw [pcs_app a [] b ha]
    have := List.length_pos_iff.2 (pcs_ne (c := c) b [])
    simp only [List.length_cons]
    omega
/-- two pieces are what Cut gives; otherwise what lies behind is no number -/
theorem cut_two {s x0 x1 : ByteArray} (h : pcsB 47 s = [x0, x1]) : cutH 47 s = x0 ∧ cutT 47 s = x1 := by
  unfold pcsB at h
  rcases cut_cases 47 s.data.toList with ⟨hn, _⟩ | ⟨a, b, hs, ha, hc⟩
  · rw [pcs_none _ _ hn] at h
    simp at h
  · rw [hs, pcs_app a [] b ha] at h
    simp only [List.nil_append, List.map_cons, List.cons.injEq] at h
    obtain ⟨h0, h1⟩ := h
    by_cases hb : (47 : UInt8) ∈ b
    · have h2 := pcs_two hb
      have h3 := congrArg List.length h1
      simp at h3
      omega
    · rw [pcs_none _ _ hb] at h1
      simp only [List.nil_append, List.map_cons, List.map_nil, List.cons.injEq, and_true] at h1
      rw [cutH, cutT, hc]
      exact ⟨h0, h1⟩
theorem cut_other {s : ByteArray} (h : (pcsB 47 s).length ≠ 2) : parN (cutT 47 s).data.toList = none := by
  rcases hp : parN (cutT 47 s).data.toList with _ | n
  · rfl
  · exfalso
    have hi := parN_some hp
    unfold pcsB at h
    rcases cut_cases 47 s.data.toList with ⟨hn, hc⟩ | ⟨a, b, hs, ha, hc⟩
    · rw [cutT, hc] at hp
      have : parN ([] : List UInt8) = none := rfl
      rw [show (⟨#[]⟩ : ByteArray).data.toList = [] from rfl] at hp
      rw [this] at hp
      cases hp
    · rw [cutT, hc] at hi
      have hb : (47 : UInt8) ∉ b := by
        have e : b = Lib.itoa n := hi
        rw [e]
        exact itoa_free (.inr rfl) n
      apply h
      rw [hs, pcs_app a [] b ha, pcs_none _ _ hb]
      rfl
theorem cutH_size (c : UInt8) (s : ByteArray) : (cutH c s).size ≤ s.size ∧ (cutT c s).size ≤ s.size := by
  have hl : s.data.toList.length = s.size := by simp
  rcases cut_cases c s.data.toList with ⟨hn, hc⟩ | ⟨a, b, hs, ha, hc⟩
  · rw [cutH, cutT, hc]
    show s.data.toList.toArray.size ≤ _ ∧ ([] : List UInt8).toArray.size ≤ _
    simp
  · rw [cutH, cutT, hc]
    rw [hs] at hl
    show a.toArray.size ≤ _ ∧ b.toArray.size ≤ _
    simp at hl ⊢
    omega
def pdTup (g : Bool) (a b c d e : Int) : Value := .tuple #[dv (rI g a) (rI g b) (rI g c) (rI g d) (rI g e), .bool g]
theorem pdTup_f (a b c d e : Int) : pdTup false a b c d e = .tuple #[dv 0 0 0 0 0, .bool false] := rfl

set_option maxRecDepth 100000 in
set_option maxHeartbeats 8000000 in
theorem implParD_gen (s : ByteArray) (a b c d : Int) (ok : Bool) (o : Option Int) (w : World) (hs : s.size ≤ 2000000) (hf : prRes (cutH 47 s) = .tuple #[rv a b c d, .bool ok]) (ho : parN (cutT 47 s).data.toList = o) (hM : Hid (MaxL w)) (hv : Hid (ParV w)) :
    Calls Tryz.prog 10 #[.string s] w fun e w' => e = .returned (pdTup (ok && o.isSome && dOk a b c d (o.getD 0)) a b c d (o.getD 0)) ∧ Below w.heap.size w w' := by
  obtain ⟨z0, z1⟩ := cutH_size 47 s
  have DC : Hid (∀ W, MaxL W → Calls Tryz.prog 22 #[.string s, .string ⟨#[47]⟩] W fun e w' => ∃ f : Bool, e = .returned (.tuple #[.string (cutH 47 s), .string (cutT 47 s), .bool f]) ∧ Below W.heap.size W w') := fun W hW => cutW_any s 47 W hs hW
  have DR : Hid (∀ W, MaxL W → ParV W → Calls Tryz.prog 23 #[.string (cutH 47 s)] W fun e w' => e = .returned (.tuple #[rv a b c d, .bool ok]) ∧ Below W.heap.size W w') := fun W hW hV => by rw [← hf]; exact implParR_any _ W (by omega) hW hV
  have DY : Hid (∀ v, o = some v → ∀ W, ParV W → Calls Tryz.prog 24 #[.string (cutT 47 s)] W fun e w' => e = .returned (.tuple #[.int .i64 v, .bool true]) ∧ Below W.heap.size W w') := fun v hv W hV => parseInt_yes _ v W (by omega) hV (ho.trans hv)
  have DN : Hid (o = none → ∀ W, ParV W → Calls Tryz.prog 24 #[.string (cutT 47 s)] W fun e w' => NoN e ∧ Below W.heap.size W w') := fun hv W hV => parseInt_no _ W (by omega) hV (ho.trans hv)
  clear hf ho z0 z1 hs
  generalize cutH 47 s = hd at DC DR
  generalize cutT 47 s = tl at DC DY DN
  have HM := Lib.hid (hM.out.below ((Below.refl _ _).alloc (Nat.le_refl _) (.cells #[.int .i64 0, .int .i64 0, .int .i64 0, .int .i64 0, .int .i64 0] 31)))
  go_enter Tryz.func10, Tryz.ntmps10
  go_wp2_with fail
  refine (DC.out _ HM.out).mono ?_
  rintro e w1 ⟨f, rfl, b1⟩
  have R1 : w1.heap[w.heap.size]? = some (.cells #[.int .i64 0, .int .i64 0, .int .i64 0, .int .i64 0, .int .i64 0] 31 (0, 0)) := (b1.block w.heap.size (by go_size)).trans (heap_top _ _ rfl)
  have z1 := b1.size
  simp only [World.size_alloc] at z1
  have B1 : Below w.heap.size w w1 := Below.chain (Below.refl _ _) (by go_grown) b1 (by go_size)
  have y1 : w.heap.size < w1.heap.size := by omega
  clear b1 DC HM
  go_wp2_with fail
  refine (DR.out _ (hM.out.below B1) (hv.out.below B1)).mono ?_
  rintro e w2 ⟨rfl, b2⟩
  have R2 := (b2.block w.heap.size y1).trans R1
  have z2 := b2.size
  have B2 : Below w.heap.size w w2 := B1.trans (b2.mono B1.size)
  have y2 : w.heap.size < w2.heap.size := by omega
  clear b2 DR R1
  go_upto_region 3 with fail
  generalize hW2 : w2.alloc (.cells #[.int .i64 a, .int .i64 b, .int .i64 c, .int .i64 d] 29) = W2
  have R3 : W2.heap[w.heap.size]? = some (.cells #[.int .i64 0, .int .i64 0, .int .i64 0, .int .i64 0, .int .i64 0] 31 (0, 0)) := by rw [← hW2]; exact (Below.heap_alloc _ _ _ y2).trans R2
  have Q3 : W2.heap[w2.heap.size]? = some (.cells #[.int .i64 a, .int .i64 b, .int .i64 c, .int .i64 d] 29 (0, 0)) := by rw [← hW2]; exact heap_top _ _ rfl
  have B3 : Below w.heap.size w W2 := by rw [← hW2]; exact Below.alloc B2 (by omega) _
  have y3 : w2.heap.size < W2.heap.size := by rw [← hW2]; go_size
  clear hW2 R2
  obtain ho | ⟨v, ho⟩ : o = none ∨ ∃ v, o = some v := by rcases o with _ | v; exact .inl rfl; exact .inr ⟨v, rfl⟩
  · have Hno : Hid ((.tuple #[dv 0 0 0 0 0, .bool false] : Value) = pdTup (ok && o.isSome && dOk a b c d (o.getD 0)) a b c d (o.getD 0)) := by show _ = _; rw [ho]; simp [pdTup_f]
    have HP := Lib.hid (DN.out ho)
    clear DN DY ho
    go_wp2_with fail
    refine (HP.out _ (hv.out.below B3)).mono ?_
    rintro e w4 ⟨⟨n, rfl⟩, b4⟩
    have R4 := (b4.block w.heap.size (by omega)).trans R3
    have Q4 := (b4.block w2.heap.size y3).trans Q3
    have z4 := b4.size
    have B4 : Below w.heap.size w w4 := B3.trans (b4.mono B3.size)
    have y40 : w.heap.size < w4.heap.size := by omega
    have q4 := fun o => cell_of_row w4 w2.heap.size o _ _ _ Q4
    have y42 : w2.heap.size < w4.heap.size := by omega
    have c4 := fun o => cell_of_row w4 w.heap.size o _ _ _ R4
    have f4 := fun o => frozen_of_row w4 w.heap.size o _ _ R4
    clear b4 R4 Q4 R3 Q3
    rcases ok with _ | _
    · go_wp2
      refine bodyPost_ret (by simp [results, Tryz.results10, go_sem, c4, y40]) rfl ⟨congrArg Ending.returned Hno.out, ?_⟩
      go_grown
    · go_wp2
      refine bodyPost_ret (by simp [results, Tryz.results10, go_sem, c4, y40]) rfl ⟨congrArg Ending.returned Hno.out, ?_⟩
      go_grown
  · have HP := Lib.hid (DY.out v ho)
    have Ho := Lib.hid ho
    clear DN DY ho
    go_wp2_with fail
    refine (HP.out _ (hv.out.below B3)).mono ?_
    rintro e w4 ⟨rfl, b4⟩
    have R4 := (b4.block w.heap.size (by omega)).trans R3
    have Q4 := (b4.block w2.heap.size y3).trans Q3
    have z4 := b4.size
    have B4 : Below w.heap.size w w4 := B3.trans (b4.mono B3.size)
    have y40 : w.heap.size < w4.heap.size := by omega
    have q4 := fun o => cell_of_row w4 w2.heap.size o _ _ _ Q4
    have y42 : w2.heap.size < w4.heap.size := by omega
    clear b4 Q4 R3 Q3
    rcases ok with _ | _
    · have Hno : Hid ((.tuple #[dv 0 0 0 0 0, .bool false] : Value) = pdTup (false && o.isSome && dOk a b c d (o.getD 0)) a b c d (o.getD 0)) := by show _ = _; simp [pdTup_f]
      have c4 := fun o => cell_of_row w4 w.heap.size o _ _ _ R4
      have f4 := fun o => frozen_of_row w4 w.heap.size o _ _ R4
      clear R4
      go_wp2
      refine bodyPost_ret (by simp [results, Tryz.results10, go_sem, c4, y40]) rfl ⟨congrArg Ending.returned Hno.out, ?_⟩
      go_grown
    · go_upto_region 5 with fail
      generalize hW5 : w4.alloc (.cells #[.int .i64 a, .int .i64 b, .int .i64 c, .int .i64 d, .int .i64 v] 31) = W5
      have R5 : W5.heap[w.heap.size]? = some (.cells #[.int .i64 0, .int .i64 0, .int .i64 0, .int .i64 0, .int .i64 0] 31 (0, 0)) := by rw [← hW5]; exact (Below.heap_alloc _ _ _ y40).trans R4
      have Q5 : W5.heap[w4.heap.size]? = some (.cells #[.int .i64 a, .int .i64 b, .int .i64 c, .int .i64 d, .int .i64 v] 31 (0, 0)) := by rw [← hW5]; exact heap_top _ _ rfl
      have B5 : Below w.heap.size w W5 := by rw [← hW5]; exact Below.alloc B4 (by omega) _
      have y5 : w4.heap.size < W5.heap.size := by rw [← hW5]; go_size
      clear hW5 R4 q4 y42
      have q5 := fun o => cell_of_row W5 w4.heap.size o _ _ _ Q5
      go_wp2_with fail
      refine (implValidDyadic_any a b c d v _).mono ?_
      rintro e w6 ⟨rfl, b6⟩
      have R6 := (b6.block w.heap.size (by omega)).trans R5
      have Q6 := (b6.block w4.heap.size y5).trans Q5
      have z6 := b6.size
      have B6 : Below w.heap.size w w6 := B5.trans (b6.mono B5.size)
      have y60 : w.heap.size < w6.heap.size := by omega
      have y64 : w4.heap.size < w6.heap.size := by omega
      have c6 := fun o => cell_of_row w6 w.heap.size o _ _ _ R6
      have f6 := fun o => frozen_of_row w6 w.heap.size o _ _ R6
      have q6 := fun o => cell_of_row w6 w4.heap.size o _ _ _ Q6
      clear b6 R6 Q6 R5 Q5 q5
      rcases hd : dOk a b c d v with _ | _
      · have Hno : Hid ((.tuple #[dv 0 0 0 0 0, .bool false] : Value) = pdTup (true && o.isSome && dOk a b c d (o.getD 0)) a b c d (o.getD 0)) := by show _ = _; rw [Ho.out]; simp [hd, pdTup_f]
        go_wp2
        refine bodyPost_ret (by simp [results, Tryz.results10, go_sem, c6]) rfl ⟨congrArg Ending.returned Hno.out, ?_⟩
        go_grown
      · have Hno : Hid ((.tuple #[dv a b c d v, .bool true] : Value) = pdTup (true && o.isSome && dOk a b c d (o.getD 0)) a b c d (o.getD 0)) := by show _ = _; rw [Ho.out]; simp [hd, pdTup, rI_t]
        go_wp2
        refine bodyPost_ret (by simp [results, Tryz.results10, go_sem, c6]) rfl ⟨congrArg Ending.returned Hno.out, ?_⟩
        go_grown
end Go.Proofs.YtgpocbhlcmohmaaGreatDoor
