/- The reference's draws of texts: some short text, and nothing turned but the cursor. -/
import Derived.Test.YtgpocbhlcmohmaaDoorDrw3
import Derived.Test.YtgpocbhlcmohmaaDoorNumI
import Derived.Deep.LoopGhost
import Derived.Deep.DeepCutAuto
namespace Go.Proofs.YtgpocbhlcmohmaaDoor
open Go.RowKit

def Wide (a b c d : Int) : Prop := (-2000000000 ≤ a ∧ a ≤ 2000000000) ∧ (-2000000000 ≤ b ∧ b ≤ 2000000000) ∧ (-2000000000 ≤ c ∧ c ≤ 2000000000) ∧ (-2000000000 ≤ d ∧ d ≤ 2000000000)
theorem txt4_wide {a b c d : Int} (h : Wide a b c d) : (txt4 a b c d).size ≤ 100 := by
  obtain ⟨h1, h2, h3, h4⟩ := h
  have z1 := itB_size (n := a) (by omega) (by omega)
  have z2 := itB_size (n := b) (by omega) (by omega)
  have z3 := itB_size (n := c) (by omega) (by omega)
  have z4 := itB_size (n := d) (by omega) (by omega)
  have hbl : blk.size = 1 := rfl
  simp only [txt4, ByteArray.size_append]
  omega

set_option maxRecDepth 100000 in
set_option maxHeartbeats 4000000 in
theorem anyRingB_any (g : Nat) (A : Option Addr) (n cap T : Nat) (w : World) (hd : Hid (Dr w g A n cap T)) (hT : T ≤ 700000) :
    Calls Tryd.prog 48 #[.pointer (some ⟨g, 0, none⟩)] w fun e w' => ∃ a b c d : Int, e = .returned (rv a b c d) ∧ Wide a b c d ∧ Dr w' g A n cap (T + 20) ∧ Touch g (g + 1) w w' := by
  have hg := hd.out.lt
  go_enter Tryd.func48, Tryd.ntmps48
  go_wp2_with fail
  generalize hW0 : w.alloc (.cells #[.int .i64 0, .int .i64 0, .int .i64 0, .int .i64 0] 23) = W0
  have hk := fun o => (congrArg (fun x : World => x.cell? ⟨w.heap.size, o, none⟩) hW0).symm
  have hkf := fun o => (congrArg (fun x : World => x.frozen? ⟨w.heap.size, o, none⟩) hW0).symm
  have t0 : Touch g (g + 1) w W0 := by rw [← hW0]; exact (Touch.refl _ _ _).alloc _
  have hd0 : Hid (Dr W0 g A n cap T) := by rw [← hW0]; exact hd.out.alloc _
  have hs0 : w.heap.size < W0.heap.size := by rw [← hW0]; go_size
  clear hW0
  refine (one_any g A n cap T 3 _ hd0 (by omega) (by decide) (by decide)).mono ?_
  rintro e w1 ⟨k1, rfl, hd1, ht1⟩
  have Hd1 := Lib.hid hd1
  clear hd1
  cases k1
  · go_wp2_with fail
    refine (ring_any g A n cap _ _ Hd1 (by omega)).mono ?_
    rintro e w2 ⟨a, b, c, d, rfl, ga, gb, gc, gd, hd2, ht2⟩
    have HW : Hid (Wide a b c d) := by show _ ∧ _; omega
    clear ga gb gc gd
    have Hd2 := Lib.hid hd2
    clear hd2
    replace ht2 := ht1.trans ht2
    clear ht1
    obtain ⟨r2, f2⟩ := ht2.rule hs0 (by omega)
    have s2 := ht2.size
    go_wp2
    refine bodyPost_ret (by simp [results, Tryd.results48, go_sem, r2, hk]) rfl ⟨a, b, c, d, rfl, HW.out, ?_, ?_⟩
    · exact Hd2.out.set4 hd.out (t0.trans ht2) (by omega) (Nat.le_refl _) _ _ _ _
    · exact (t0.trans ht2).set4 (Nat.le_refl _) _ _ _ _
  · go_wp2_with fail
    refine (coef_any g A n cap _ _ Hd1 (by omega)).mono ?_
    rintro e w2 ⟨a, rfl, ga, hd2, ht2⟩
    have Hd2 := Lib.hid hd2
    clear hd2
    replace ht2 := ht1.trans ht2
    clear ht1
    go_wp2_with fail
    refine (coef_any g A n cap _ _ Hd2 (by omega)).mono ?_
    rintro e w3 ⟨b, rfl, gb, hd3, ht3⟩
    have Hd3 := Lib.hid hd3
    clear hd3
    replace ht3 := ht2.trans ht3
    clear ht2
    go_wp2_with fail
    refine (coef_any g A n cap _ _ Hd3 (by omega)).mono ?_
    rintro e w4 ⟨c, rfl, gc, hd4, ht4⟩
    have Hd4 := Lib.hid hd4
    clear hd4
    replace ht4 := ht3.trans ht4
    clear ht3
    go_wp2_with fail
    refine (coef_any g A n cap _ _ Hd4 (by omega)).mono ?_
    rintro e w5 ⟨d, rfl, gd, hd5, ht5⟩
    have HW : Hid (Wide a b c d) := by show _ ∧ _; omega
    clear ga gb gc gd
    have Hd5 := Lib.hid hd5
    clear hd5
    replace ht5 := ht4.trans ht5
    clear ht4
    obtain ⟨r5, f5⟩ := ht5.rule hs0 (by omega)
    have s5 := ht5.size
    go_wp2
    refine bodyPost_ret (by simp [results, Tryd.results48, go_sem, r5, hk]) rfl ⟨a, b, c, d, rfl, HW.out, ?_, ?_⟩
    · exact Hd5.out.set4 hd.out (t0.trans ht5) (by omega) (Nat.le_refl _) _ _ _ _
    · exact (t0.trans ht5).set4 (Nat.le_refl _) _ _ _ _

set_option maxRecDepth 100000 in
set_option maxHeartbeats 1000000 in
theorem l1IntW_any (n : Int) (w : World) (h0 : -2000000000 ≤ n) (h1 : n ≤ 2000000000) :
    Calls Tryd.prog 79 #[.int .i64 n] w fun e w' => e = .returned (.string (itB n)) ∧ Below w.heap.size w w' := by
  have hsz := itB_size (n := n) (by omega) (by omega)
  rcases int_cases n with ⟨u, rfl⟩ | ⟨u, hu, rfl⟩
  · have hr : itB (u : Int) = ⟨(Lib.decDigits u).toArray⟩ := by rw [itB, itoa_pos]
    obtain ⟨s, hs⟩ : ∃ s, s = itB (u : Int) := ⟨_, rfl⟩
    have C1 : Hid (∀ W, Calls Tryd.prog 66 #[.int .i64 (u : Int)] W fun e w' => e = .returned (.string s) ∧ Below W.heap.size W w') := fun W => by rw [hs, hr]; exact l1Num_any u (by omega) W
    rw [← hs]
    have hge : ¬ (u : Int) < 0 := by omega
    clear hr hs h0 h1 hsz
    go_enter Tryd.func79, Tryd.ntmps79
    go_wp2_with fail
    refine (C1.out _).mono ?_
    rintro e w1 ⟨rfl, b1⟩
    go_wp2
    go_ret
    exact ⟨rfl, b1⟩
  · have hr : itB (-(u : Int)) = ⟨#[45]⟩ ++ ⟨(Lib.decDigits u).toArray⟩ := by
      rw [itB, itoa_neg' hu]
      exact ByteArray.ext (by simp [ByteArray.data_append])
    obtain ⟨s, hs⟩ : ∃ s : ByteArray, s = ⟨(Lib.decDigits u).toArray⟩ := ⟨_, rfl⟩
    have C1 : Hid (∀ W, Calls Tryd.prog 66 #[.int .i64 (u : Int)] W fun e w' => e = .returned (.string s) ∧ Below W.heap.size W w') := fun W => by rw [hs]; exact l1Num_any u (by omega) W
    have hss : ¬ (9223372036854775807 < 1 + s.size) := by
      rw [hr, ByteArray.size_append, ← hs] at hsz
      omega
    have Hr : Hid (itB (-(u : Int)) = ⟨#[45]⟩ ++ s) := by show _ = _; rw [hr, hs]
    have hlt : -(u : Int) < 0 := by omega
    have hub : (u : Int) ≤ 2000000000 := by omega
    clear hr hs h0 h1 hsz
    go_enter Tryd.func79, Tryd.ntmps79
    go_wp2_with fail
    refine (C1.out _).mono ?_
    rintro e w1 ⟨rfl, b1⟩
    go_wp2
    go_ret
    rw [Hr.out]
    exact ⟨rfl, b1⟩

set_option maxRecDepth 100000 in
set_option maxHeartbeats 4000000 in
theorem l1TextW_any (a b c d : Int) (w : World) (ha : -2000000000 ≤ a ∧ a ≤ 2000000000) (hb : -2000000000 ≤ b ∧ b ≤ 2000000000) (hc : -2000000000 ≤ c ∧ c ≤ 2000000000) (hd : -2000000000 ≤ d ∧ d ≤ 2000000000) :
    Calls Tryd.prog 47 #[rv a b c d] w fun e w' => e = .returned (.string (txt4 a b c d)) ∧ Below w.heap.size w w' := by
  obtain ⟨s1, h1⟩ : ∃ s, s = itB a := ⟨_, rfl⟩
  obtain ⟨s2, h2⟩ : ∃ s, s = itB b := ⟨_, rfl⟩
  obtain ⟨s3, h3⟩ : ∃ s, s = itB c := ⟨_, rfl⟩
  obtain ⟨s4, h4⟩ : ∃ s, s = itB d := ⟨_, rfl⟩
  have z1 : s1.size ≤ 18 := by rw [h1]; exact itB_size (by omega) (by omega)
  have z2 : s2.size ≤ 18 := by rw [h2]; exact itB_size (by omega) (by omega)
  have z3 : s3.size ≤ 18 := by rw [h3]; exact itB_size (by omega) (by omega)
  have z4 : s4.size ≤ 18 := by rw [h4]; exact itB_size (by omega) (by omega)
  have D1 : Hid (∀ W, Calls Tryd.prog 79 #[.int .i64 a] W fun e w' => e = .returned (.string s1) ∧ Below W.heap.size W w') := fun W => by rw [h1]; exact l1IntW_any a W ha.1 ha.2
  have D2 : Hid (∀ W, Calls Tryd.prog 79 #[.int .i64 b] W fun e w' => e = .returned (.string s2) ∧ Below W.heap.size W w') := fun W => by rw [h2]; exact l1IntW_any b W hb.1 hb.2
  have D3 : Hid (∀ W, Calls Tryd.prog 79 #[.int .i64 c] W fun e w' => e = .returned (.string s3) ∧ Below W.heap.size W w') := fun W => by rw [h3]; exact l1IntW_any c W hc.1 hc.2
  have D4 : Hid (∀ W, Calls Tryd.prog 79 #[.int .i64 d] W fun e w' => e = .returned (.string s4) ∧ Below W.heap.size W w') := fun W => by rw [h4]; exact l1IntW_any d W hd.1 hd.2
  have hbl : blk.size = 1 := rfl
  have n1 : ¬ (9223372036854775807 < s1.size + 1) := by omega
  have n2 : ¬ (9223372036854775807 < (s1 ++ ⟨#[32]⟩ : ByteArray).size + s2.size) := by rw [ByteArray.size_append]; show ¬ _ < _ + 1 + _; omega
  have n3 : ¬ (9223372036854775807 < ((s1 ++ ⟨#[32]⟩) ++ s2 : ByteArray).size + 1) := by rw [ByteArray.size_append, ByteArray.size_append]; show ¬ _ < _ + 1 + _ + _; omega
  have n4 : ¬ (9223372036854775807 < (((s1 ++ ⟨#[32]⟩) ++ s2) ++ ⟨#[32]⟩ : ByteArray).size + s3.size) := by rw [ByteArray.size_append, ByteArray.size_append, ByteArray.size_append]; show ¬ _ < _ + 1 + _ + 1 + _; omega
  have n5 : ¬ (9223372036854775807 < ((((s1 ++ ⟨#[32]⟩) ++ s2) ++ ⟨#[32]⟩) ++ s3 : ByteArray).size + 1) := by rw [ByteArray.size_append, ByteArray.size_append, ByteArray.size_append, ByteArray.size_append]; show ¬ _ < _ + 1 + _ + 1 + _ + _; omega
  have n6 : ¬ (9223372036854775807 < (((((s1 ++ ⟨#[32]⟩) ++ s2) ++ ⟨#[32]⟩) ++ s3) ++ ⟨#[32]⟩ : ByteArray).size + s4.size) := by rw [ByteArray.size_append, ByteArray.size_append, ByteArray.size_append, ByteArray.size_append, ByteArray.size_append]; show ¬ _ < _ + 1 + _ + 1 + _ + 1 + _; omega
  have Hr : Hid (txt4 a b c d = ((((((s1 ++ ⟨#[32]⟩) ++ s2) ++ ⟨#[32]⟩) ++ s3) ++ ⟨#[32]⟩) ++ s4)) := by show _ = _; rw [h1, h2, h3, h4]; rfl
  have m2 : ¬ (9223372036854775807 < s1.size + 1 + s2.size) := by omega
  have m3 : ¬ (9223372036854775807 < s1.size + 1 + s2.size + 1) := by omega
  have m4 : ¬ (9223372036854775807 < s1.size + 1 + s2.size + 1 + s3.size) := by omega
  have m5 : ¬ (9223372036854775807 < s1.size + 1 + s2.size + 1 + s3.size + 1) := by omega
  have m6 : ¬ (9223372036854775807 < s1.size + 1 + s2.size + 1 + s3.size + 1 + s4.size) := by omega
  clear h1 h2 h3 h4 z1 z2 z3 z4 ha hb hc hd hbl
  go_enter Tryd.func47, Tryd.ntmps47
  go_wp2_with fail
  generalize hW0 : w.alloc (.cells #[.int .i64 a, .int .i64 b, .int .i64 c, .int .i64 d] 23) = W0
  have B0 : Below w.heap.size w W0 := by rw [← hW0]; clear hW0; go_grown
  have k0 := fun o => cell_of_row W0 w.heap.size o _ _ _ (by rw [← hW0]; exact heap_top _ _ rfl)
  have y0 : w.heap.size < W0.heap.size := by rw [← hW0]; clear hW0; go_size
  clear hW0
  go_region_held3 (fun w' => (∀ b o, b < W0.heap.size → w'.cell? ⟨b, o, none⟩ = W0.cell? ⟨b, o, none⟩) ∧ Below W0.heap.size W0 w') ((refine SB_mk ?_; go_grown)) (first | (go_at_call 79; with_reducible refine (D1.out _).mono ?_; rintro e wA ⟨rfl, bA⟩; obtain ⟨bAc, bAf⟩ := bcell bA; (try with_reducible have yA := lt_size bA); (try with_reducible have yA := lt_sizeD bA); (try with_reducible have yB := Nat.lt_of_lt_of_le (by assumption) bA.size); have sA := (SB_step (W := W0) (by with_reducible assumption) bA).2; have zA := sA.size) | (go_at_call 79; with_reducible refine (D2.out _).mono ?_; rintro e wA ⟨rfl, bA⟩; obtain ⟨bAc, bAf⟩ := bcell bA; (try with_reducible have yA := lt_size bA); (try with_reducible have yA := lt_sizeD bA); (try with_reducible have yB := Nat.lt_of_lt_of_le (by assumption) bA.size); have sA := (SB_step (W := W0) (by with_reducible assumption) bA).2; have zA := sA.size) | (go_at_call 79; with_reducible refine (D3.out _).mono ?_; rintro e wA ⟨rfl, bA⟩; obtain ⟨bAc, bAf⟩ := bcell bA; (try with_reducible have yA := lt_size bA); (try with_reducible have yA := lt_sizeD bA); (try with_reducible have yB := Nat.lt_of_lt_of_le (by assumption) bA.size); have sA := (SB_step (W := W0) (by with_reducible assumption) bA).2; have zA := sA.size) | (go_at_call 79; with_reducible refine (D4.out _).mono ?_; rintro e wA ⟨rfl, bA⟩; obtain ⟨bAc, bAf⟩ := bcell bA; (try with_reducible have yA := lt_size bA); (try with_reducible have yA := lt_sizeD bA); (try with_reducible have yB := Nat.lt_of_lt_of_le (by assumption) bA.size); have sA := (SB_step (W := W0) (by with_reducible assumption) bA).2; have zA := sA.size))
  all_goals
    go_wp2
    go_ret
    rw [Hr.out]
    exact ⟨rfl, B0.trans (sA.mono B0.size)⟩
set_option maxRecDepth 100000 in
set_option maxHeartbeats 4000000 in
theorem spoilt_any (g : Nat) (A : Option Addr) (n cap T : Nat) (t0 wi : ByteArray) (w : World) (hd : Hid (Dr w g A n cap T)) (hT : T ≤ 700000) (ht0 : t0.size ≤ 1000) (hw1 : 1 ≤ wi.size) (hw2 : wi.size ≤ 200) :
    Calls Tryd.prog 50 #[.pointer (some ⟨g, 0, none⟩), .string t0, .string wi] w fun e w' => ∃ t : ByteArray, e = .returned (.string t) ∧ t.size ≤ t0.size + 2 ∧ Dr w' g A n cap (T + 14) ∧ Touch g (g + 1) w w' := by
  go_enter Tryd.func50, Tryd.ntmps50
  go_wp2_with fail
  refine (pick_any g A n cap T 2 _ hd (by omega) (by decide) (by decide)).mono ?_
  rintro e w1 ⟨k, rfl, hk0, hk1, hd1, ht1⟩
  obtain ⟨k, rfl⟩ := Int.eq_ofNat_of_zero_le hk0
  have hk : k ≤ 1 := by omega
  have Hd1 := Lib.hid hd1
  have Ht1 := Lib.hid ht1
  clear hd1 ht1 hk0 hk1
  go_wp2_with fail
  go_loopg [1, 7] (k + 1) (fun gk s m wr => ∃ (t : ByteArray) (T' : Nat), s = .string t ∧ m = .int .i64 (gk : Int) ∧ t.size + gk ≤ t0.size + 2 ∧ T' + 6 * gk ≤ T + 14 ∧ Dr wr g A n cap T' ∧ Touch g (g + 1) w wr)
  case atStart => exact ⟨t0, T + 2, rfl, by go_num, by omega, by omega, Hd1.out, Ht1.out⟩
  case round =>
    obtain ⟨t, T', rfl, rfl, hts, hTT, hdr, htr⟩ := hrel
    have Hdr := Lib.hid hdr
    have Htr := Lib.hid htr
    have Hts := Lib.hid hts
    have HTT := Lib.hid hTT
    have hgk : gk ≤ 1002 := by omega
    have htz : t.size ≤ 1002 := by omega
    clear hdr htr hts hTT
    by_cases h0 : 0 < gk
    · have h0i : (0 : Int) < (gk : Int) := by omega
      by_cases h1 : 0 < t.size
      · have h1i : (0 : Int) < (t.size : Int) := by omega
        go_wp2_with fail
        refine (pick_any g A n cap T' (t.size : Int) _ Hdr (by have := HTT.out; omega) (by omega) (by omega)).mono ?_
        rintro e w2 ⟨i, rfl, hi0, hi1, hd2, ht2⟩
        obtain ⟨i, rfl⟩ := Int.eq_ofNat_of_zero_le hi0
        have hi : i < t.size := by omega
        have Hd2 := Lib.hid hd2
        have Ht2 := Lib.hid (Htr.out.trans ht2)
        clear hd2 ht2 hi0 hi1
        go_wp2_with fail
        refine (pick_any g A n cap _ (wi.size : Int) _ Hd2 (by have := HTT.out; omega) (by omega) (by omega)).mono ?_
        rintro e w3 ⟨j, rfl, hj0, hj1, hd3, ht3⟩
        obtain ⟨j, rfl⟩ := Int.eq_ofNat_of_zero_le hj0
        have hj : j < wi.size := by omega
        have hji : (j : Int) < (wi.size : Int) := by omega
        have Hd3 := Lib.hid (hd3.alloc (.cells #[.int .u8 (wi[j].toNat : Int)] 5))
        have Ht3 := Lib.hid ((Ht2.out.trans ht3).alloc (.cells #[.int .u8 (wi[j].toNat : Int)] 5))
        clear hd3 ht3 hj0 hj1
        have hcv := conv1c wi[j]
        obtain ⟨p, hp, hpz⟩ : ∃ p, p = t.extract 0 i ∧ p.size = i := ⟨_, rfl, by rw [ByteArray.size_extract]; omega⟩
        obtain ⟨q, hq, hqz⟩ : ∃ q, q = t.extract i t.size ∧ q.size = t.size - i := ⟨_, rfl, by rw [ByteArray.size_extract]; omega⟩
        obtain ⟨r, hr, hrz⟩ : ∃ r, r = t.extract (i + 1) t.size ∧ r.size = t.size - (i + 1) := ⟨_, rfl, by rw [ByteArray.size_extract]; omega⟩
        have hii : (i : Int) ≤ (t.size : Int) := by omega
        have hij : (i : Int) + 1 ≤ (t.size : Int) := by omega
        have hs1 : ∀ W, (Instr.slice 9 (.string t) none (some (.int .i64 (i : Int))) none).run Tryd.prog W = .ok (.string p) W := fun W => by rw [hp]; simp [Instr.slice, run_underlying Tryd.underlying9, Instr.sliceBounds, run_sliceBound, hii]
        have hs2 : ∀ W, (Instr.slice 9 (.string t) (some (.int .i64 (i : Int))) none none).run Tryd.prog W = .ok (.string q) W := fun W => by rw [hq]; simp [Instr.slice, run_underlying Tryd.underlying9, Instr.sliceBounds, run_sliceBound, hii]
        have hs3 : ∀ W, (Instr.slice 9 (.string t) (some (.int .i64 ((i : Int) + 1))) none none).run Tryd.prog W = .ok (.string r) W := fun W => by
          have h0' : (0 : Int) ≤ (i : Int) + 1 := by omega
          have h1' : ((i : Int) + 1).toNat = i + 1 := by omega
          rw [hr]
          simp [Instr.slice, run_underlying Tryd.underlying9, Instr.sliceBounds, run_sliceBound, hij, h0', h1']
        clear hp hq hr
        have n1 : ¬ (9223372036854775807 < p.size + 1) := by omega
        have n2 : ¬ (9223372036854775807 < (p ++ ⟨#[wi[j]]⟩ : ByteArray).size + q.size) := by rw [ByteArray.size_append]; show ¬ _ < _ + 1 + _; omega
        have n3 : ¬ (9223372036854775807 < p.size + 1 + q.size) := by omega
        have n4 : ¬ (9223372036854775807 < (p ++ ⟨#[wi[j]]⟩ : ByteArray).size + r.size) := by rw [ByteArray.size_append]; show ¬ _ < _ + 1 + _; omega
        have n5 : ¬ (9223372036854775807 < p.size + 1 + r.size) := by omega
        have n6 : ¬ (9223372036854775807 < p.size + r.size) := by omega
        have Hz := Lib.hid (And.intro hpz (And.intro hqz (And.intro hrz hi)))
        clear hpz hqz hrz hi
        go_wp2_with fail
        refine (pick_any g A n cap _ 3 _ Hd3 (by have := HTT.out; omega) (by decide) (by decide)).mono ?_
        rintro e w4 ⟨m, rfl, hm0, hm1, hd4, ht4⟩
        have Hd4 := Lib.hid hd4
        have Ht4 := Lib.hid (Ht3.out.trans ht4)
        clear hd4 ht4 hm0 hm1
        by_cases e0 : m = 0
        · subst e0
          go_wp2_with fail
          go_quiet (fail)
          go_wp2
          go_roundg (gk - 1)
          case measure => omega
          case rel =>
            refine ⟨(p ++ ⟨#[wi[j]]⟩) ++ q, _, rfl, by go_num, ?_, ?_, Dr.drewN Hd4.out nq, Touch.drewN Ht4.out nq⟩
            · have h := Hts.out
              obtain ⟨h2, h3, h4, h5⟩ := Hz.out; rw [ByteArray.size_append, ByteArray.size_append]; show _ + 1 + _ + _ ≤ _; omega
            · have h := HTT.out
              omega
        · have f0 : (m == 0) = false := by simpa using e0
          by_cases e1 : m = 1
          · subst e1
            go_wp2_with fail
            go_quiet (fail)
            go_wp2
            go_roundg (gk - 1)
            case measure => omega
            case rel =>
              refine ⟨(p ++ ⟨#[wi[j]]⟩) ++ r, _, rfl, by go_num, ?_, ?_, Dr.drewN Hd4.out nq, Touch.drewN Ht4.out nq⟩
              · have h := Hts.out
                obtain ⟨h2, h3, h4, h5⟩ := Hz.out; rw [ByteArray.size_append, ByteArray.size_append]; show _ + 1 + _ + _ ≤ _; omega
              · have h := HTT.out
                omega
          · have f1 : (m == 1) = false := by simpa using e1
            go_wp2_with fail
            go_quiet (fail)
            go_wp2
            go_roundg (gk - 1)
            case measure => omega
            case rel =>
              refine ⟨p ++ r, _, rfl, by go_num, ?_, ?_, Dr.drewN Hd4.out nq, Touch.drewN Ht4.out nq⟩
              · have h := Hts.out
                obtain ⟨h2, h3, h4, h5⟩ := Hz.out; rw [ByteArray.size_append]; omega
              · have h := HTT.out
                omega
      · have h1i : ¬ (0 : Int) < (t.size : Int) := by omega
        go_wp2
        go_ret
        exact ⟨t, rfl, by have := Hts.out; omega, Hdr.out.more (by have := HTT.out; omega), Htr.out⟩
    · have h0i : ¬ (0 : Int) < (gk : Int) := by omega
      go_wp2
      go_ret
      exact ⟨t, rfl, by have := Hts.out; omega, Hdr.out.more (by have := HTT.out; omega), Htr.out⟩
end Go.Proofs.YtgpocbhlcmohmaaDoor
