/- ParseRing, of the reference. -/
import Derived.Test.YtgpocbhlcmohmaaDoorParI
import Derived.Test.YtgpocbhlcmohmaaDoorFmtR
import Derived.Test.YtgpocbhlcmohmaaDoorDraw
import Derived.Lib.SlicesS
import Derived.Deep.DeepCutAuto
namespace Go.Proofs.YtgpocbhlcmohmaaDoor
open Go.RowKit

/-- a slice of the call's own over strings: its cells -/
theorem OwnT.cell {w : World} {base : Nat} {v : Value} {xs : List ByteArray} (h : OwnT w base v xs) (hne : xs ≠ []) :
    ∃ (g cap : Nat), v = .slice (some ⟨g, 0, none⟩) xs.length cap ∧ base ≤ g ∧ g < w.heap.size ∧ xs.length ≤ cap ∧ ∀ j x, xs[j]? = some x → w.cell? ⟨g, j, none⟩ = some (.string x) := by
  obtain ⟨A, cap, rfl, hown⟩ := h
  have hlen : 0 < xs.length := List.length_pos_iff.2 hne
  obtain ⟨g, cap2, hv, _, _⟩ := hown.form (by omega)
  obtain ⟨rfl, rfl⟩ : A = some ⟨g, 0, none⟩ ∧ cap = cap2 := by injection hv with h1 h2 h3; exact ⟨h1, h3⟩
  refine ⟨g, cap, rfl, ?_, (hown.lt g rfl).2, ?_, fun j x hj => ?_⟩
  · exact (hown.lt g rfl).1
  · rcases hown.2 with ⟨h, _⟩ | ⟨g', cap3, cur, h, _, _, h4, _⟩
    · cases h
    · injection h with _ _ h6; omega
  · have h := hown.cells (g := g) rfl j (.string x) (by simp [hj])
    rw [Lib.add_plain] at h
    simpa using h

theorem signedB_any (s : ByteArray) (W : World) (hs : s.size ≤ 2097152) : Calls Tryd.prog 51 #[.string s] W fun e w' => e = .returned (.int .i64 (signB s.data.toList)) ∧ Below W.heap.size W w' :=
  (l1Signed_any s W hs).mono fun _ _ ⟨h1, h2⟩ => ⟨h1, by rw [← h2]; exact Below.refl _ _⟩

theorem pcsB_len (c : UInt8) (s : ByteArray) : (pcsB c s).length ≤ s.size + 1 := by
  have h : ∀ (l cur : List UInt8), (pcs c cur l).length ≤ l.length + 1 := by
    intro l
    induction l with
    | nil => intro cur; simp [pcs]
    | cons b r ih =>
      intro cur
      rw [pcs]
      split
      · have := ih []
        simp only [List.length_cons]
        omega
      · have := ih (cur ++ [b])
        simp only [List.length_cons]
        omega
  have := h s.data.toList []
  simpa [pcsB] using this

set_option maxRecDepth 100000 in
set_option maxHeartbeats 1000000 in
theorem specParR_len (s : ByteArray) (w : World) (hs : s.size ≤ 2000000) (hl : (pcsB 32 s).length ≠ 4) :
    Calls Tryd.prog 19 #[.string s] w fun e w' => e = .returned (.tuple #[rv 0 0 0 0, .bool false]) ∧ Below w.heap.size w w' := by
  have hne := pcsB_ne 32 s
  have hlen := pcsB_len 32 s
  have DS : Hid (∀ W, Calls Tryd.prog 36 #[.string s, .int .u8 32] W fun e w' => ∃ v, e = .returned v ∧ OwnT w' W.heap.size v (pcsB 32 s) ∧ Below W.heap.size W w') := fun W => l1Split_any s 32 W (by omega)
  generalize pcsB 32 s = ps at hl hne DS hlen
  have hli : ¬ (ps.length : Int) = 4 := by omega
  go_enter Tryd.func19, Tryd.ntmps19
  go_wp2_with fail
  refine (DS.out _).mono ?_
  rintro e w1 ⟨v, rfl, ho, b1⟩
  obtain ⟨g, cap, rfl, _⟩ := ho.cell hne
  obtain ⟨b1c, b1f⟩ := bcell b1
  have z1 := b1.size
  simp only [World.size_alloc] at z1
  have B1 : Below w.heap.size w w1 := Below.chain (Below.refl _ _) (by go_grown) b1 (by go_size)
  have y10 : w.heap.size < w1.heap.size := by omega
  clear ho
  go_wp2
  refine bodyPost_ret (by simp [results, Tryd.results19, go_sem, b1c]) rfl ⟨rfl, ?_⟩
  go_grown

set_option maxRecDepth 100000 in
set_option maxHeartbeats 1000000 in
theorem specParR_four (s x0 x1 x2 x3 : ByteArray) (v0 v1 v2 v3 : Int) (ok : Bool) (w : World) (hs : s.size ≤ 2000000) (hp : pcsB 32 s = [x0, x1, x2, x3]) (hz : x0.size ≤ 2000000 ∧ x1.size ≤ 2000000 ∧ x2.size ≤ 2000000 ∧ x3.size ≤ 2000000)
    (h0 : signB x0.data.toList = v0) (h1 : signB x1.data.toList = v1) (h2 : signB x2.data.toList = v2) (h3 : signB x3.data.toList = v3) (hok : ok = (rOk v0 v1 v2 v3 && decide (txt4 v0 v1 v2 v3 = s))) :
    Calls Tryd.prog 19 #[.string s] w fun e w' => e = .returned (.tuple #[rv (rI ok v0) (rI ok v1) (rI ok v2) (rI ok v3), .bool ok]) ∧ Below w.heap.size w w' := by
  have DS : Hid (∀ W, Calls Tryd.prog 36 #[.string s, .int .u8 32] W fun e w' => ∃ v, e = .returned v ∧ OwnT w' W.heap.size v [x0, x1, x2, x3] ∧ Below W.heap.size W w') := fun W => by rw [← hp]; exact l1Split_any s 32 W (by omega)
  have S0 : Hid (∀ W, Calls Tryd.prog 51 #[.string x0] W fun e w' => e = .returned (.int .i64 v0) ∧ Below W.heap.size W w') := fun W => by rw [← h0]; exact signedB_any x0 W (by omega)
  have S1 : Hid (∀ W, Calls Tryd.prog 51 #[.string x1] W fun e w' => e = .returned (.int .i64 v1) ∧ Below W.heap.size W w') := fun W => by rw [← h1]; exact signedB_any x1 W (by omega)
  have S2 : Hid (∀ W, Calls Tryd.prog 51 #[.string x2] W fun e w' => e = .returned (.int .i64 v2) ∧ Below W.heap.size W w') := fun W => by rw [← h2]; exact signedB_any x2 W (by omega)
  have S3 : Hid (∀ W, Calls Tryd.prog 51 #[.string x3] W fun e w' => e = .returned (.int .i64 v3) ∧ Below W.heap.size W w') := fun W => by rw [← h3]; exact signedB_any x3 W (by omega)
  have Hok := Lib.hid hok
  clear hp hs hz h0 h1 h2 h3 hok
  go_enter Tryd.func19, Tryd.ntmps19
  go_wp2_with fail
  refine (DS.out _).mono ?_
  rintro e w1 ⟨v, rfl, ho, b1⟩
  obtain ⟨g, cap, rfl, hg1, hg2, hcap, hc⟩ := ho.cell (by simp)
  have q0 := hc 0 x0 rfl
  have q1 := hc 1 x1 rfl
  have q2 := hc 2 x2 rfl
  have q3 := hc 3 x3 rfl
  obtain ⟨b1c, b1f⟩ := bcell b1
  have z1 := b1.size
  simp only [World.size_alloc] at z1
  have B1 : Below w.heap.size w w1 := Below.chain (Below.refl _ _) (by go_grown) b1 (by go_size)
  have y10 : w.heap.size < w1.heap.size := by omega
  clear ho hc hcap
  simp only [List.length_cons, List.length_nil]
  go_upto_region 4 with fail
  go_cut [5] (fun sA wx => ∃ G : Nat, sA = .pointer (some ⟨G, 0, none⟩) ∧ w1.heap.size ≤ G ∧ G < wx.heap.size ∧ wx.cell? ⟨G, 0, none⟩ = some (.int .i64 v0) ∧ wx.cell? ⟨G, 1, none⟩ = some (.int .i64 v1) ∧ wx.cell? ⟨G, 2, none⟩ = some (.int .i64 v2) ∧ wx.cell? ⟨G, 3, none⟩ = some (.int .i64 v3) ∧ Below w1.heap.size w1 wx)
  case first =>
    go_region_held3 (fun w' => (∀ b o, b < w1.heap.size → w'.cell? ⟨b, o, none⟩ = w1.cell? ⟨b, o, none⟩) ∧ Below w1.heap.size w1 w') ((refine SB_mk ?_; go_grown)) (first | (go_at_call 51; with_reducible refine (S0.out _).mono ?_; rintro e wA ⟨rfl, bA⟩; obtain ⟨bAc, bAf⟩ := bcell bA; (try with_reducible have yA := lt_size bA); (try with_reducible have yA := lt_sizeD bA); (try with_reducible have yB := Nat.lt_of_lt_of_le (by assumption) bA.size); have sA := (SB_step (W := w1) (by with_reducible assumption) bA).2; have zA := sA.size) | (go_at_call 51; with_reducible refine (S1.out _).mono ?_; rintro e wA ⟨rfl, bA⟩; obtain ⟨bAc, bAf⟩ := bcell bA; (try with_reducible have yA := lt_size bA); (try with_reducible have yA := lt_sizeD bA); (try with_reducible have yB := Nat.lt_of_lt_of_le (by assumption) bA.size); have sA := (SB_step (W := w1) (by with_reducible assumption) bA).2; have zA := sA.size) | (go_at_call 51; with_reducible refine (S2.out _).mono ?_; rintro e wA ⟨rfl, bA⟩; obtain ⟨bAc, bAf⟩ := bcell bA; (try with_reducible have yA := lt_size bA); (try with_reducible have yA := lt_sizeD bA); (try with_reducible have yB := Nat.lt_of_lt_of_le (by assumption) bA.size); have sA := (SB_step (W := w1) (by with_reducible assumption) bA).2; have zA := sA.size) | (go_at_call 51; with_reducible refine (S3.out _).mono ?_; rintro e wA ⟨rfl, bA⟩; obtain ⟨bAc, bAf⟩ := bcell bA; (try with_reducible have yA := lt_size bA); (try with_reducible have yA := lt_sizeD bA); (try with_reducible have yB := Nat.lt_of_lt_of_le (by assumption) bA.size); have sA := (SB_step (W := w1) (by with_reducible assumption) bA).2; have zA := sA.size))
    all_goals
      go_wp2_with fail
      go_meet
      refine ⟨_, rfl, ?_, ?_, ?_, ?_, ?_, ?_, ?_⟩
      · first | omega | (simp; omega)
      · go_size
      · go_simp
      · go_simp
      · go_simp
      · go_simp
      · go_grown
  case rest =>
    obtain ⟨w2, rfl⟩ : ∃ w2 : World, w2 = wc := ⟨_, rfl⟩
    obtain ⟨G, rfl, hG1, hG2, k0, k1, k2, k3, hb2⟩ := hcut
    have z2 := hb2.size
    have B2 : Below w.heap.size w w2 := B1.trans (hb2.mono B1.size)
    obtain ⟨r2c, r2f⟩ := bcellB hb2
    clear q0 q1 q2 q3
    have R1 : w1.heap[w.heap.size]? = some (.cells #[.int .i64 0, .int .i64 0, .int .i64 0, .int .i64 0] 23 (0, 0)) := (b1.block w.heap.size (by go_size)).trans (heap_top _ _ rfl)
    have R2 := (hb2.block w.heap.size y10).trans R1
    have y20 : w.heap.size < w2.heap.size := by omega
    clear b1c b1f r2c r2f R1
    go_wp2_with fail
    refine (l1Good_any _ _ _ _ _).mono ?_
    rintro e w3 ⟨rfl, b3⟩
    have z3 := b3.size
    have B3 : Below w.heap.size w w3 := B2.trans (b3.mono B2.size)
    have R3 := (b3.block w.heap.size y20).trans R2
    have y30 : w.heap.size < w3.heap.size := by omega
    have gc3 := fun o => b3.cell (p := ⟨G, o, none⟩) hG2
    replace k0 := (gc3 0).trans k0
    replace k1 := (gc3 1).trans k1
    replace k2 := (gc3 2).trans k2
    replace k3 := (gc3 3).trans k3
    have hG3 : G < w3.heap.size := by omega
    have hGw : ¬ G = w.heap.size := by omega
    clear gc3 R2
    rcases hg : rOk v0 v1 v2 v3 with _ | _
    · rw [hg, Bool.false_and] at Hok
      have hok := Hok.out
      subst hok
      have c3 := fun o => cell_of_row w3 w.heap.size o _ _ _ R3
      have f3 := fun o => frozen_of_row w3 w.heap.size o _ _ R3
      go_wp2
      refine bodyPost_ret (by simp [results, Tryd.results19, go_sem, c3, rI_f]) rfl ⟨rfl, ?_⟩
      go_grown
    · rw [hg, Bool.true_and] at Hok
      have hb := rOk_bd hg
      obtain ⟨t, ht⟩ : ∃ t, t = txt4 v0 v1 v2 v3 := ⟨_, rfl⟩
      have DT : Hid (∀ W, Calls Tryd.prog 47 #[rv v0 v1 v2 v3] W fun e w' => e = .returned (.string t) ∧ Below W.heap.size W w') := fun W => by rw [ht]; exact l1Text_any v0 v1 v2 v3 W hb.1 hb.2.1 hb.2.2.1 hb.2.2.2
      rw [← ht] at Hok
      clear ht hb
      go_wp2_with fail
      refine (DT.out _).mono ?_
      rintro e w4 ⟨rfl, b4⟩
      have z4 := b4.size
      have B4 : Below w.heap.size w w4 := B3.trans (b4.mono B3.size)
      have R4 := (b4.block w.heap.size y30).trans R3
      have gc4 := fun o => b4.cell (p := ⟨G, o, none⟩) hG3
      replace k0 := (gc4 0).trans k0
      replace k1 := (gc4 1).trans k1
      replace k2 := (gc4 2).trans k2
      replace k3 := (gc4 3).trans k3
      have y40 : w.heap.size < w4.heap.size := by omega
      have c4 := fun o => cell_of_row w4 w.heap.size o _ _ _ R4
      have f4 := fun o => frozen_of_row w4 w.heap.size o _ _ R4
      clear gc4 R3 R4
      by_cases hts : t = s
      · have hok := Hok.out
        rw [decide_eq_true hts] at hok
        subst hok
        have hbe : (t.toList == s.toList) = true := (Lib.bytes_beq_iff t s).2 hts
        clear hts
        go_wp2
        refine bodyPost_ret (by simp [results, Tryd.results19, go_sem, c4, rI_t]) rfl ⟨rfl, ?_⟩
        go_grown
      · have hok := Hok.out
        rw [decide_eq_false hts] at hok
        subst hok
        have hbe : (t.toList == s.toList) = false := (Lib.bytes_beq_false_iff t s).2 hts
        go_wp2
        refine bodyPost_ret (by simp [results, Tryd.results19, go_sem, c4, rI_f]) rfl ⟨rfl, ?_⟩
        go_grown
end Go.Proofs.YtgpocbhlcmohmaaDoor
