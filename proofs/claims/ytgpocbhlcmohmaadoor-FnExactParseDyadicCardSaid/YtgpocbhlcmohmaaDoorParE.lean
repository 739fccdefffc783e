/- ParseDyadic, of the reference. -/
import Derived.Test.YtgpocbhlcmohmaaDoorParD
namespace Go.Proofs.YtgpocbhlcmohmaaDoor
open Go.RowKit

set_option maxRecDepth 100000 in
set_option maxHeartbeats 2000000 in
theorem specParD_len (s : ByteArray) (w : World) (hs : s.size ≤ 2000000) (hl : (pcsB 47 s).length ≠ 2) :
    Calls Tryd.prog 11 #[.string s] w fun e w' => e = .returned (.tuple #[dv 0 0 0 0 0, .bool false]) ∧ Below w.heap.size w w' := by
  have hne := pcsB_ne 47 s
  have hlen := pcsB_len 47 s
  have DS : Hid (∀ W, Calls Tryd.prog 36 #[.string s, .int .u8 47] W fun e w' => ∃ v, e = .returned v ∧ OwnT w' W.heap.size v (pcsB 47 s) ∧ Below W.heap.size W w') := fun W => l1Split_any s 47 W (by omega)
  generalize pcsB 47 s = ps at hl hne DS hlen
  have hli : ¬ (ps.length : Int) = 2 := by omega
  go_enter Tryd.func11, Tryd.ntmps11
  go_wp2_with fail
  refine (DS.out _).mono ?_
  rintro e w1 ⟨v, rfl, ho, b1⟩
  obtain ⟨g, cap, rfl, _⟩ := ho.cell hne
  obtain ⟨b1c, b1f⟩ := bcell b1
  have z1 := b1.size
  simp only [World.size_alloc] at z1
  have B1 : Below w.heap.size w w1 := Below.chain (Below.refl _ _) (by go_grown) b1 (by go_size)
  have y10 : w.heap.size < w1.heap.size := by omega
  clear ho
  go_wp2
  refine bodyPost_ret (by simp [results, Tryd.results11, go_sem, b1c]) rfl ⟨rfl, ?_⟩
  go_grown

set_option maxRecDepth 100000 in
set_option maxHeartbeats 4000000 in
theorem specParD_two (s x0 x1 : ByteArray) (a b c d : Int) (ok : Bool) (v : Int) (w : World) (hs : s.size ≤ 2000000) (hp : pcsB 47 s = [x0, x1]) (hz : x0.size ≤ 2000000 ∧ x1.size ≤ 2000000)
    (hf : prRes x0 = .tuple #[rv a b c d, .bool ok]) (hv : readB x1.data.toList = v) :
    Calls Tryd.prog 11 #[.string s] w fun e w' => e = .returned (pdTup (ok && dOk a b c d v) a b c d v) ∧ Below w.heap.size w w' := by
  have DS : Hid (∀ W, Calls Tryd.prog 36 #[.string s, .int .u8 47] W fun e w' => ∃ v, e = .returned v ∧ OwnT w' W.heap.size v [x0, x1] ∧ Below W.heap.size W w') := fun W => by rw [← hp]; exact l1Split_any s 47 W (by omega)
  have DR : Hid (∀ W, Calls Tryd.prog 19 #[.string x0] W fun e w' => e = .returned (.tuple #[rv a b c d, .bool ok]) ∧ Below W.heap.size W w') := fun W => by rw [← hf]; exact specParR_any _ W (by omega)
  have DV : Hid (∀ W, Calls Tryd.prog 37 #[.string x1] W fun e w' => e = .returned (.int .i64 v) ∧ Below W.heap.size W w') := fun W => by rw [← hv]; exact (l1Read_any x1 W (by omega)).mono fun _ _ ⟨h1, h2⟩ => ⟨h1, by rw [← h2]; exact Below.refl _ _⟩
  clear hp hs hz hf hv
  go_enter Tryd.func11, Tryd.ntmps11
  go_wp2_with fail
  refine (DS.out _).mono ?_
  rintro e w1 ⟨vv, rfl, ho, b1⟩
  obtain ⟨g, cap, rfl, hg1, hg2, hcap, hc⟩ := ho.cell (by simp)
  have q0 := hc 0 x0 rfl
  have q1 := hc 1 x1 rfl
  have z1 := b1.size
  simp only [World.size_alloc] at z1 hg1
  have B1 : Below w.heap.size w w1 := Below.chain (Below.refl _ _) (by go_grown) b1 (by go_size)
  have R1 : w1.heap[w.heap.size]? = some (.cells #[.int .i64 0, .int .i64 0, .int .i64 0, .int .i64 0, .int .i64 0] 25 (0, 0)) := (b1.block w.heap.size (by go_size)).trans (heap_top _ _ rfl)
  have y10 : w.heap.size < w1.heap.size := by omega
  clear ho hc hcap b1 DS
  simp only [List.length_cons, List.length_nil]
  go_wp2_with fail
  refine (DR.out _).mono ?_
  rintro e w2 ⟨rfl, b2⟩
  have R2 := (b2.block w.heap.size y10).trans R1
  have z2 := b2.size
  have B2 : Below w.heap.size w w2 := B1.trans (b2.mono B1.size)
  have y2 : w.heap.size < w2.heap.size := by omega
  have p1 := (b2.cell (p := ⟨g, 1, none⟩) hg2).trans q1
  have hg3 : g < w2.heap.size := by omega
  clear b2 DR R1 q0 q1
  go_upto_region 5 with fail
  generalize hW2 : w2.alloc (.cells #[.int .i64 a, .int .i64 b, .int .i64 c, .int .i64 d] 23) = W2
  have R3 : W2.heap[w.heap.size]? = some (.cells #[.int .i64 0, .int .i64 0, .int .i64 0, .int .i64 0, .int .i64 0] 25 (0, 0)) := by rw [← hW2]; exact (Below.heap_alloc _ _ _ y2).trans R2
  have Q3 : W2.heap[w2.heap.size]? = some (.cells #[.int .i64 a, .int .i64 b, .int .i64 c, .int .i64 d] 23 (0, 0)) := by rw [← hW2]; exact heap_top _ _ rfl
  have B3 : Below w.heap.size w W2 := by rw [← hW2]; exact Below.alloc B2 (by omega) _
  have y3 : w2.heap.size < W2.heap.size := by rw [← hW2]; go_size
  have p3 : W2.cell? ⟨g, 1, none⟩ = some (.string x1) := by rw [← hW2]; exact ((Below.alloc (Below.refl w2.heap.size w2) (Nat.le_refl _) _).cell (p := ⟨g, 1, none⟩) hg3).trans p1
  have hg4 : g < W2.heap.size := by omega
  have z3 : w.heap.size < W2.heap.size := by omega
  have q30 : W2.cell? ⟨w2.heap.size, 0, none⟩ = some (.int .i64 a) := cell_of_row W2 w2.heap.size 0 _ _ _ Q3
  have q31 : W2.cell? ⟨w2.heap.size, 1, none⟩ = some (.int .i64 b) := cell_of_row W2 w2.heap.size 1 _ _ _ Q3
  have q32 : W2.cell? ⟨w2.heap.size, 2, none⟩ = some (.int .i64 c) := cell_of_row W2 w2.heap.size 2 _ _ _ Q3
  have q33 : W2.cell? ⟨w2.heap.size, 3, none⟩ = some (.int .i64 d) := cell_of_row W2 w2.heap.size 3 _ _ _ Q3
  clear hW2 R2 p1 Q3
  go_cut [7] (fun sA wx => ∃ G : Nat, sA = .pointer (some ⟨G, 0, none⟩) ∧ W2.heap.size ≤ G ∧ G < wx.heap.size ∧ wx.cell? ⟨G, 0, none⟩ = some (.int .i64 a) ∧ wx.cell? ⟨G, 1, none⟩ = some (.int .i64 b) ∧ wx.cell? ⟨G, 2, none⟩ = some (.int .i64 c) ∧ wx.cell? ⟨G, 3, none⟩ = some (.int .i64 d) ∧ wx.cell? ⟨G, 4, none⟩ = some (.int .i64 v) ∧ Below W2.heap.size W2 wx)
  case first =>
    go_region_held3 (fun w' => (∀ b o, b < W2.heap.size → w'.cell? ⟨b, o, none⟩ = W2.cell? ⟨b, o, none⟩) ∧ Below W2.heap.size W2 w') ((refine SB_mk ?_; go_grown)) (first | (go_at_call 37; refine (DV.out _).mono ?_; rintro e wA ⟨rfl, bA⟩; obtain ⟨bAc, bAf⟩ := bcell bA; (try with_reducible have yA := lt_size bA); (try with_reducible have yA := lt_sizeD bA); (try with_reducible have yB := Nat.lt_of_lt_of_le (by assumption) bA.size); have sA := (SB_step (W := W2) (by with_reducible assumption) bA).2; have zA := sA.size))
    all_goals
      go_wp2_with fail
      go_meet
      refine ⟨_, rfl, ?_, ?_, ?_, ?_, ?_, ?_, ?_, ?_⟩
      · first | omega | (simp; omega)
      · go_size
      · go_simp
      · go_simp
      · go_simp
      · go_simp
      · go_simp
      · go_grown
  case rest =>
    obtain ⟨w4, rfl⟩ : ∃ w4 : World, w4 = wc := ⟨_, rfl⟩
    obtain ⟨G, rfl, hG1, hG2, k0, k1, k2, k3, k4, hb4⟩ := hcut
    have z4 := hb4.size
    have B4 : Below w.heap.size w w4 := B3.trans (hb4.mono B3.size)
    have R4 := (hb4.block w.heap.size z3).trans R3
    have y40 : w.heap.size < w4.heap.size := by omega
    have hGw : ¬ G = w.heap.size := by omega
    clear q30 q31 q32 q33 p3 R3
    rcases ok with _ | _
    · have Hno : Hid ((.tuple #[dv 0 0 0 0 0, .bool false] : Value) = pdTup (false && dOk a b c d v) a b c d v) := by show _ = _; simp [pdTup_f]
      have c4 := fun o => cell_of_row w4 w.heap.size o _ _ _ R4
      have f4 := fun o => frozen_of_row w4 w.heap.size o _ _ R4
      clear R4
      go_wp2
      refine bodyPost_ret (by simp [results, Tryd.results11, go_sem, c4]) rfl ⟨congrArg Ending.returned Hno.out, ?_⟩
      go_grown
    · go_wp2_with fail
      refine (l2Good_any a b c d v _).mono ?_
      rintro e w6 ⟨rfl, b6⟩
      have R6 := (b6.block w.heap.size y40).trans R4
      have z6 := b6.size
      have B6 : Below w.heap.size w w6 := B4.trans (b6.mono B4.size)
      have y60 : w.heap.size < w6.heap.size := by omega
      have c6 := fun o => cell_of_row w6 w.heap.size o _ _ _ R6
      have f6 := fun o => frozen_of_row w6 w.heap.size o _ _ R6
      have gc := fun o => b6.cell (p := ⟨G, o, none⟩) hG2
      replace k0 := (gc 0).trans k0
      replace k1 := (gc 1).trans k1
      replace k2 := (gc 2).trans k2
      replace k3 := (gc 3).trans k3
      replace k4 := (gc 4).trans k4
      have hG6 : G < w6.heap.size := by omega
      clear gc b6 R6 R4
      rcases hd : dOk a b c d v with _ | _
      · have Hno : Hid ((.tuple #[dv 0 0 0 0 0, .bool false] : Value) = pdTup (true && dOk a b c d v) a b c d v) := by show _ = _; simp [hd, pdTup_f]
        go_wp2
        refine bodyPost_ret (by simp [results, Tryd.results11, go_sem, c6]) rfl ⟨congrArg Ending.returned Hno.out, ?_⟩
        go_grown
      · have Hno : Hid ((.tuple #[dv a b c d v, .bool true] : Value) = pdTup (true && dOk a b c d v) a b c d v) := by show _ = _; simp [hd, pdTup, rI_t]
        go_wp2
        refine bodyPost_ret (by simp [results, Tryd.results11, go_sem, c6]) rfl ⟨congrArg Ending.returned Hno.out, ?_⟩
        go_grown

/-- what ParseRing returns, part by part -/
def prQ (s : ByteArray) : Int × Int × Int × Int × Bool := match prV s with
  | some (o0, o1, o2, o3) => (rI (okR o0 o1 o2 o3) (o0.getD 0), rI (okR o0 o1 o2 o3) (o1.getD 0), rI (okR o0 o1 o2 o3) (o2.getD 0), rI (okR o0 o1 o2 o3) (o3.getD 0), okR o0 o1 o2 o3)
  | none => (0, 0, 0, 0, false)
theorem prRes_Q (s : ByteArray) : prRes s = .tuple #[rv (prQ s).1 (prQ s).2.1 (prQ s).2.2.1 (prQ s).2.2.2.1, .bool (prQ s).2.2.2.2] := by
  rw [prRes, prQ]
  rcases prV s with _ | ⟨o0, o1, o2, o3⟩ <;> rfl
theorem prQ_of {s : ByteArray} {a b c d : Int} {ok : Bool} (h : prRes s = .tuple #[rv a b c d, .bool ok]) : prQ s = (a, b, c, d, ok) := by
  rw [prRes_Q] at h
  rcases hq : prQ s with ⟨a', b', c', d', ok'⟩
  rw [hq] at h
  simp [rv] at h
  obtain ⟨⟨rfl, rfl, rfl, rfl⟩, rfl⟩ := h
  rfl
def pdOf (q : Int × Int × Int × Int × Bool) (l : List UInt8) : Value := pdTup (q.2.2.2.2 && dOk q.1 q.2.1 q.2.2.1 q.2.2.2.1 (readB l)) q.1 q.2.1 q.2.2.1 q.2.2.2.1 (readB l)
/-- what ParseDyadic returns -/
def pdRes (s : ByteArray) : Value := match pcsB 47 s with
  | [x0, x1] => pdOf (prQ x0) x1.data.toList
  | _ => .tuple #[dv 0 0 0 0 0, .bool false]
theorem two_or (s : ByteArray) : (∃ x0 x1, pcsB 47 s = [x0, x1]) ∨ (pcsB 47 s).length ≠ 2 := by
  rcases pcsB 47 s with _ | ⟨x0, _ | ⟨x1, _ | ⟨x2, r⟩⟩⟩
  · exact .inr (by simp)
  · exact .inr (by simp)
  · exact .inl ⟨x0, x1, rfl⟩
  · exact .inr (by simp)
theorem pdRes_two {s x0 x1 : ByteArray} {a b c d : Int} {ok : Bool} (h : pcsB 47 s = [x0, x1]) (hf : prRes x0 = .tuple #[rv a b c d, .bool ok]) : pdRes s = pdTup (ok && dOk a b c d (readB x1.data.toList)) a b c d (readB x1.data.toList) := by
  rw [pdRes, h]
  simp only
  rw [prQ_of hf]
  rfl
theorem pdRes_len {s : ByteArray} (h : (pcsB 47 s).length ≠ 2) : pdRes s = .tuple #[dv 0 0 0 0 0, .bool false] := by
  unfold pdRes
  split
  · rename_i h'
    rw [h'] at h
    exact absurd rfl h
  · rfl
theorem dOk_exp' {a b c d e : Int} (h : dOk a b c d e = true) : 0 ≤ e ∧ e ≤ 60 := dOk_exp h
/-- the two readings of the exponent -/
theorem same_exp (a b c d : Int) (l : List UInt8) (ok : Bool) : pdTup (ok && (parN l).isSome && dOk a b c d ((parN l).getD 0)) a b c d ((parN l).getD 0) = pdTup (ok && dOk a b c d (readB l)) a b c d (readB l) := by
  rcases ok with _ | _
  · simp [pdTup_f]
  simp only [Bool.true_and]
  by_cases hg : dOk a b c d (readB l) = true
  · have h1 := dOk_exp hg
    have h2 := readB_nonneg h1.1
    have h3 : parN l = some (readB l) := by
      have h4 := parN_itoa (n := readB l) (by omega) (by omega)
      rw [h2] at h4
      exact h4
    rw [h3]
    rfl
  · have hg' : dOk a b c d (readB l) = false := by simpa using hg
    rw [hg', pdTup_f]
    rcases hp : parN l with _ | n
    · exact pdTup_f _ _ _ _ _
    · by_cases hn : dOk a b c d n = true
      · exfalso
        apply hg
        have h1 := dOk_exp hn
        have h2 := parN_some hp
        obtain ⟨u, rfl⟩ := Int.eq_ofNat_of_zero_le h1.1
        rw [h2, itoa_pos, readB_dec (by omega)]
        exact hn
      · have hn' : dOk a b c d n = false := by simpa using hn
        simp only [Option.isSome_some, Option.getD_some, Bool.true_and]
        rw [hn', pdTup_f]

theorem implParD_any (s : ByteArray) (w : World) (hs : s.size ≤ 2000000) (hM : Hid (MaxL w)) (hv : Hid (ParV w)) :
    Calls Tryd.prog 12 #[.string s] w fun e w' => e = .returned (pdRes s) ∧ Below w.heap.size w w' := by
  obtain ⟨a, b, c, d, ok, hf⟩ := prRes_form (cutH 47 s)
  have hc := implParD_gen s a b c d ok _ w hs hf rfl hM hv
  rcases two_or s with ⟨x0, x1, h⟩ | h
  · obtain ⟨e0, e1⟩ := cut_two h
    rw [e0] at hf
    rw [pdRes_two h hf, ← same_exp]
    rw [e1] at hc
    exact hc
  · rw [pdRes_len h]
    rw [cut_other h] at hc
    simp only [Option.isSome_none, Bool.and_false, Bool.false_and] at hc
    rw [pdTup_f] at hc
    exact hc

theorem specParD_any (s : ByteArray) (w : World) (hs : s.size ≤ 2000000) :
    Calls Tryd.prog 11 #[.string s] w fun e w' => e = .returned (pdRes s) ∧ Below w.heap.size w w' := by
  rcases two_or s with ⟨x0, x1, h⟩ | h
  · obtain ⟨a, b, c, d, ok, hf⟩ := prRes_form x0
    have hz : ∀ x, x ∈ pcsB 47 s → x.size ≤ 2000000 := fun x hx => Nat.le_trans (pcsB_size hx) hs
    rw [h] at hz
    rw [pdRes_two h hf]
    exact specParD_two s x0 x1 a b c d ok _ w hs h ⟨hz _ (by simp), hz _ (by simp)⟩ hf rfl
  · rw [pdRes_len h]
    exact specParD_len s w hs h

theorem pdRes_form (s : ByteArray) : ∃ (a b c d e : Int) (ok : Bool), pdRes s = .tuple #[dv a b c d e, .bool ok] := by
  rcases two_or s with ⟨x0, x1, h⟩ | h
  · obtain ⟨a, b, c, d, ok, hf⟩ := prRes_form x0
    exact ⟨_, _, _, _, _, _, pdRes_two h hf⟩
  · exact ⟨_, _, _, _, _, _, pdRes_len h⟩
end Go.Proofs.YtgpocbhlcmohmaaDoor
