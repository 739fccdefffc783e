/- ParseRing: program and reference give the same. -/
import Derived.Test.YtgpocbhlcmohmaaGreatDoorParU
namespace Go.Proofs.YtgpocbhlcmohmaaGreatDoor
open Go.RowKit

theorem map_data (l : List (List UInt8)) : (l.map fun x => (⟨x.toArray⟩ : ByteArray)).map (·.data.toList) = l := by
  rw [List.map_map]
  conv => rhs; rw [← List.map_id l]
  rfl
theorem pcsB_join (c : UInt8) (s : ByteArray) : Lib.join ((pcsB c s).map (·.data.toList)) [c] = s.data.toList := by
  rw [pcsB, map_data, join_pcs]
  rfl
theorem bytes_ext {a b : ByteArray} (h : a.data.toList = b.data.toList) : a = b := ByteArray.ext (Array.toList_inj.1 h)
theorem pcsB_of_join {c : UInt8} {s : ByteArray} {ws : List (List UInt8)} (hs : s.data.toList = Lib.join ws [c]) (hne : ws ≠ []) (hf : ∀ w, w ∈ ws → c ∉ w) : pcsB c s = ws.map fun l => ⟨l.toArray⟩ := by
  rw [pcsB, hs, pcs_join ws hne hf]
theorem pcsB_txt4 (a b c d : Int) : pcsB 32 (txt4 a b c d) = [itB a, itB b, itB c, itB d] := by
  rw [pcsB_of_join (txt4_list a b c d) (by simp) (fun w hw => ?_)]
  · rfl
  · simp only [List.mem_cons, List.not_mem_nil, or_false] at hw
    rcases hw with rfl | rfl | rfl | rfl <;> exact itoa_free (.inl rfl) _
theorem join_len_piece : ∀ (ws : List (List UInt8)) (sep w : List UInt8), w ∈ ws → w.length ≤ (Lib.join ws sep).length
  | [], _, _, h => by cases h
  | [x], sep, w, h => by
    rw [List.mem_singleton] at h
    rw [Lib.join_one, h]
    exact Nat.le_refl _
  | x :: y :: r, sep, w, h => by
    rw [join_two, List.length_append, List.length_append]
    rcases List.mem_cons.1 h with rfl | h
    · omega
    · have := join_len_piece (y :: r) sep w h
      omega
theorem pcsB_size {c : UInt8} {s x : ByteArray} (h : x ∈ pcsB c s) : x.size ≤ s.size := by
  have h1 := join_len_piece ((pcsB c s).map (·.data.toList)) [c] x.data.toList (List.mem_map_of_mem h)
  rw [pcsB_join] at h1
  simpa using h1
/-- the four readings of a text -/
def prV (s : ByteArray) : Option (Option Int × Option Int × Option Int × Option Int) := match pcsB 32 s with
  | [x0, x1, x2, x3] => some (parN x0.data.toList, parN x1.data.toList, parN x2.data.toList, parN x3.data.toList)
  | _ => none
/-- what ParseRing returns -/
def prRes (s : ByteArray) : Value := match prV s with
  | some (o0, o1, o2, o3) => .tuple #[rv (rI (okR o0 o1 o2 o3) (o0.getD 0)) (rI (okR o0 o1 o2 o3) (o1.getD 0)) (rI (okR o0 o1 o2 o3) (o2.getD 0)) (rI (okR o0 o1 o2 o3) (o3.getD 0)), .bool (okR o0 o1 o2 o3)]
  | none => .tuple #[rv 0 0 0 0, .bool false]
theorem four_or (s : ByteArray) : (∃ x0 x1 x2 x3, pcsB 32 s = [x0, x1, x2, x3]) ∨ (pcsB 32 s).length ≠ 4 := by
  rcases pcsB 32 s with _ | ⟨x0, _ | ⟨x1, _ | ⟨x2, _ | ⟨x3, _ | ⟨x4, r⟩⟩⟩⟩⟩
  · exact .inr (by simp)
  · exact .inr (by simp)
  · exact .inr (by simp)
  · exact .inr (by simp)
  · exact .inl ⟨x0, x1, x2, x3, rfl⟩
  · exact .inr (by simp)
theorem prRes_len {s : ByteArray} (h : (pcsB 32 s).length ≠ 4) : prRes s = .tuple #[rv 0 0 0 0, .bool false] := by
  have : prV s = none := by
    unfold prV
    split
    · rename_i h'
      rw [h'] at h
      exact absurd rfl h
    · rfl
  rw [prRes, this]
theorem prRes_four {s x0 x1 x2 x3 : ByteArray} (h : pcsB 32 s = [x0, x1, x2, x3]) : prRes s = .tuple #[rv (rI (okR (parN x0.data.toList) (parN x1.data.toList) (parN x2.data.toList) (parN x3.data.toList)) ((parN x0.data.toList).getD 0)) (rI (okR (parN x0.data.toList) (parN x1.data.toList) (parN x2.data.toList) (parN x3.data.toList)) ((parN x1.data.toList).getD 0)) (rI (okR (parN x0.data.toList) (parN x1.data.toList) (parN x2.data.toList) (parN x3.data.toList)) ((parN x2.data.toList).getD 0)) (rI (okR (parN x0.data.toList) (parN x1.data.toList) (parN x2.data.toList) (parN x3.data.toList)) ((parN x3.data.toList).getD 0)), .bool (okR (parN x0.data.toList) (parN x1.data.toList) (parN x2.data.toList) (parN x3.data.toList))] := by
  have : prV s = some (parN x0.data.toList, parN x1.data.toList, parN x2.data.toList, parN x3.data.toList) := by
    unfold prV
    rw [h]
  rw [prRes, this]
theorem prRes_form (s : ByteArray) : ∃ (a b c d : Int) (ok : Bool), prRes s = .tuple #[rv a b c d, .bool ok] := by
  unfold prRes
  split
  · exact ⟨_, _, _, _, _, rfl⟩
  · exact ⟨_, _, _, _, _, rfl⟩
theorem okR_some {o0 o1 o2 o3 : Option Int} (h : okR o0 o1 o2 o3 = true) : ∃ a b c d, o0 = some a ∧ o1 = some b ∧ o2 = some c ∧ o3 = some d ∧ rOk a b c d = true := by
  unfold okR at h
  simp only [Bool.and_eq_true] at h
  obtain ⟨⟨⟨⟨h0, h1⟩, h2⟩, h3⟩, h4⟩ := h
  obtain ⟨a, rfl⟩ := Option.isSome_iff_exists.1 h0
  obtain ⟨b, rfl⟩ := Option.isSome_iff_exists.1 h1
  obtain ⟨c, rfl⟩ := Option.isSome_iff_exists.1 h2
  obtain ⟨d, rfl⟩ := Option.isSome_iff_exists.1 h3
  exact ⟨a, b, c, d, rfl, rfl, rfl, rfl, h4⟩
/-- four readings that are all good: the text is the numbers' text -/
theorem txt4_of {s x0 x1 x2 x3 : ByteArray} {a b c d : Int} (h : pcsB 32 s = [x0, x1, x2, x3]) (h0 : parN x0.data.toList = some a) (h1 : parN x1.data.toList = some b) (h2 : parN x2.data.toList = some c) (h3 : parN x3.data.toList = some d) : txt4 a b c d = s := by
  have hj := pcsB_join 32 s
  rw [h] at hj
  simp only [List.map_cons, List.map_nil] at hj
  rw [parN_some h0, parN_some h1, parN_some h2, parN_some h3] at hj
  exact bytes_ext ((txt4_list a b c d).trans hj)
theorem par_itB {x : ByteArray} {n : Int} (h : x = itB n) (hb : -1000000000 ≤ n ∧ n ≤ 1000000000) : parN x.data.toList = some n := by
  rw [h]
  exact parN_itoa (by omega) (by omega)
/-- the reference's readings of a text that it accepts are the program's -/
theorem same_ok {s x0 x1 x2 x3 : ByteArray} (h : pcsB 32 s = [x0, x1, x2, x3]) :
    (rOk (signB x0.data.toList) (signB x1.data.toList) (signB x2.data.toList) (signB x3.data.toList) && decide (txt4 (signB x0.data.toList) (signB x1.data.toList) (signB x2.data.toList) (signB x3.data.toList) = s))
      = okR (parN x0.data.toList) (parN x1.data.toList) (parN x2.data.toList) (parN x3.data.toList)
    ∧ (okR (parN x0.data.toList) (parN x1.data.toList) (parN x2.data.toList) (parN x3.data.toList) = true →
      (parN x0.data.toList).getD 0 = signB x0.data.toList ∧ (parN x1.data.toList).getD 0 = signB x1.data.toList ∧ (parN x2.data.toList).getD 0 = signB x2.data.toList ∧ (parN x3.data.toList).getD 0 = signB x3.data.toList) := by
  have key : okR (parN x0.data.toList) (parN x1.data.toList) (parN x2.data.toList) (parN x3.data.toList) = true →
      ∃ a b c d, rOk a b c d = true ∧ signB x0.data.toList = a ∧ signB x1.data.toList = b ∧ signB x2.data.toList = c ∧ signB x3.data.toList = d ∧ (parN x0.data.toList).getD 0 = a ∧ (parN x1.data.toList).getD 0 = b ∧ (parN x2.data.toList).getD 0 = c ∧ (parN x3.data.toList).getD 0 = d ∧ txt4 a b c d = s := by
    intro hk
    obtain ⟨a, b, c, d, h0, h1, h2, h3, hr⟩ := okR_some hk
    have hb := rOk_bd hr
    refine ⟨a, b, c, d, hr, ?_, ?_, ?_, ?_, by rw [h0]; rfl, by rw [h1]; rfl, by rw [h2]; rfl, by rw [h3]; rfl, txt4_of h h0 h1 h2 h3⟩
    · rw [parN_some h0]; exact signB_itoa (by omega) (by omega)
    · rw [parN_some h1]; exact signB_itoa (by omega) (by omega)
    · rw [parN_some h2]; exact signB_itoa (by omega) (by omega)
    · rw [parN_some h3]; exact signB_itoa (by omega) (by omega)
  constructor
  · rw [Bool.eq_iff_iff]
    constructor
    · intro hl
      rw [Bool.and_eq_true, decide_eq_true_iff] at hl
      obtain ⟨hr, ht⟩ := hl
      have hb := rOk_bd hr
      have hp := pcsB_txt4 (signB x0.data.toList) (signB x1.data.toList) (signB x2.data.toList) (signB x3.data.toList)
      rw [ht, h] at hp
      simp only [List.cons.injEq, and_true] at hp
      obtain ⟨e0, e1, e2, e3⟩ := hp
      have p0 : parN x0.data.toList = some (signB x0.data.toList) := par_itB e0 (by omega)
      have p1 : parN x1.data.toList = some (signB x1.data.toList) := par_itB e1 (by omega)
      have p2 : parN x2.data.toList = some (signB x2.data.toList) := par_itB e2 (by omega)
      have p3 : parN x3.data.toList = some (signB x3.data.toList) := par_itB e3 (by omega)
      rw [p0, p1, p2, p3]
      simp [okR, hr]
    · intro hk
      obtain ⟨a, b, c, d, hr, s0, s1, s2, s3, _, _, _, _, ht⟩ := key hk
      rw [s0, s1, s2, s3, hr, decide_eq_true ht]
      rfl
  · intro hk
    obtain ⟨a, b, c, d, _, s0, s1, s2, s3, q0, q1, q2, q3, _⟩ := key hk
    exact ⟨q0.trans s0.symm, q1.trans s1.symm, q2.trans s2.symm, q3.trans s3.symm⟩

theorem implParR_any (s : ByteArray) (w : World) (hs : s.size ≤ 2000000) (hM : Hid (MaxL w)) (hv : Hid (ParV w)) :
    Calls Tryz.prog 23 #[.string s] w fun e w' => e = .returned (prRes s) ∧ Below w.heap.size w w' := by
  rcases four_or s with ⟨x0, x1, x2, x3, h⟩ | h
  · have hz : ∀ x, x ∈ pcsB 32 s → x.size ≤ 2000000 := fun x hx => Nat.le_trans (pcsB_size hx) hs
    rw [h] at hz
    rw [prRes_four h]
    exact implParR_four s x0 x1 x2 x3 _ _ _ _ w hs h ⟨hz _ (by simp), hz _ (by simp), hz _ (by simp), hz _ (by simp)⟩ rfl rfl rfl rfl hM hv
  · rw [prRes_len h]
    exact implParR_len s w hs hM h

end Go.Proofs.YtgpocbhlcmohmaaGreatDoor
