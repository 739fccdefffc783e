/- spec.DivRing: the same value as the program's. -/
import Derived.Test.YtogafcnaombpaaaRingQuo2
import Derived.Deep.DeepCutAuto
namespace Go.Proofs.Ytogafcnaombpaaa
open Go.RowKit

theorem specMul_shape (a b c d a' b' c' d' : Int) (w : World) :
    Calls Try.prog 53 #[rv a b c d, rv a' b' c' d'] w fun e w' => ∃ (p0 p1 p2 p3 : Int) (o : Bool), e = .returned (.tuple #[rv p0 p1 p2 p3, .bool o]) ∧ Below w.heap.size w w' :=
  (specMul_any a b c d a' b' c' d' w).mono fun _ _ ⟨h1, h2⟩ => ⟨_, _, _, _, _, h1, h2⟩
theorem specMul_ok (f : Q4) (u v : Int) (w : World) (h : okQ (u, -v, 0, v) = true) (hf : okQ f = true) :
    Calls Try.prog 53 #[rv f.1 f.2.1 f.2.2.1 f.2.2.2, rv u (-v) 0 v] w fun e w' => e = .returned (optRes (okQ (mulQ f (u, -v, 0, v))) (mulQ f (u, -v, 0, v))) ∧ Below w.heap.size w w' :=
  (specMul_any _ _ _ _ _ _ _ _ w).mono fun _ _ ⟨h1, h2⟩ => ⟨by rw [h1, mul_of (ok := okQ (mulQ f (u, -v, 0, v))) h (by rw [show okQ (f.1, f.2.1, f.2.2.1, f.2.2.2) = true from hf]; rfl)], h2⟩

set_option maxRecDepth 100000 in
set_option maxHeartbeats 8000000 in
theorem specQuo_any (a b c d a' b' c' d' : Int) (w : World) :
    Calls Try.prog 20 #[rv a b c d, rv a' b' c' d'] w fun r w' => r = .returned (optRes (quoOk (a, b, c, d) (a', b', c', d')) (quoQ (secondQ (a, b, c, d) (a', b', c', d')) (nQ (a', b', c', d')))) ∧ Below w.heap.size w w' := by
  rcases hok : absOkQ (a', b', c', d') with _ | _
  · have Hq := Lib.hid (quoOk_f1 (x := (a, b, c, d)) hok)
    have Ha := Lib.hid (absRes_of hok)
    go_enter Try.func20, Try.ntmps20
    go_wp2_with fail
    refine (specAbs_any _ _ _ _ _).mono ?_
    rintro e w1 ⟨rfl, b1⟩
    obtain ⟨b1c, b1f⟩ := bcell b1
    have z1 := b1.size
    try simp only [World.size_alloc] at z1
    have B1 : Below w.heap.size w w1 := Below.chain (Below.refl _ _) (by go_grown) b1 (by go_size)
    have y10 : w.heap.size < w1.heap.size := by omega
    have y11 : w.heap.size + 1 < w1.heap.size := by omega
    have y12 : w.heap.size + 2 < w1.heap.size := by omega
    rw [Ha.out]
    go_wp2
    rw [Hq.out]
    refine bodyPost_ret (by simp [results, Try.results20, go_sem, optRes, rI_f, b1c]) rfl ⟨rfl, ?_⟩
    go_grown
  have Hy := Lib.hid (absOk_r hok)
  have Ha2 : Hid (absRes a' b' c' d' = .tuple #[.int .i64 (uQ (a', b', c', d')), .int .i64 (vQ (a', b', c', d')), .bool true]) := by
    have h := absRes_of hok
    simp only [rI_t] at h
    exact h
  rcases (Bool.eq_false_or_eq_true (uQ (a', b', c', d') == 0)) with h3 | h3
  · have Hq := Lib.hid (quoOk_f4 (x := (a, b, c, d)) h3)
    have h30 : uQ (a', b', c', d') = 0 := by simpa using h3
    rw [h30] at Ha2
    clear h30 h3
    go_enter Try.func20, Try.ntmps20
    go_wp2_with fail
    refine (specAbs_any _ _ _ _ _).mono ?_
    rintro e w1 ⟨rfl, b1⟩
    obtain ⟨b1c, b1f⟩ := bcell b1
    have z1 := b1.size
    try simp only [World.size_alloc] at z1
    have B1 : Below w.heap.size w w1 := Below.chain (Below.refl _ _) (by go_grown) b1 (by go_size)
    have y10 : w.heap.size < w1.heap.size := by omega
    have y11 : w.heap.size + 1 < w1.heap.size := by omega
    have y12 : w.heap.size + 2 < w1.heap.size := by omega
    rw [Ha2.out]
    go_wp2
    rw [Hq.out]
    refine bodyPost_ret (by simp [results, Try.results20, go_sem, optRes, rI_f, b1c]) rfl ⟨rfl, ?_⟩
    go_grown
  have hu0 : ¬ uQ (a', b', c', d') = 0 := by simpa using h3
  have hbd := absOk_bd hok
  have hb1 : -1000000000 ≤ uQ (a', b', c', d') ∧ uQ (a', b', c', d') ≤ 1000000000 := hbd.1
  have hb2 : -1000000000 ≤ vQ (a', b', c', d') ∧ vQ (a', b', c', d') ≤ 1000000000 := hbd.2
  obtain ⟨_, _⟩ := hb1
  obtain ⟨_, _⟩ := hb2
  clear hbd
  go_enter Try.func20, Try.ntmps20
  go_wp2_with fail
  refine (specAbs_any _ _ _ _ _).mono ?_
  rintro e w1 ⟨rfl, b1⟩
  obtain ⟨b1c, b1f⟩ := bcell b1
  have z1 := b1.size
  try simp only [World.size_alloc] at z1
  have B1 : Below w.heap.size w w1 := Below.chain (Below.refl _ _) (by go_grown) b1 (by go_size)
  have y10 : w.heap.size < w1.heap.size := by omega
  have y11 : w.heap.size + 1 < w1.heap.size := by omega
  have y12 : w.heap.size + 2 < w1.heap.size := by omega
  rw [Ha2.out]
  go_upto_region 4 with fail
  go_cut [9, 10] (fun sA sB wx => ∃ g : Nat, sA = .pointer (some ⟨g, 0, none⟩) ∧ sB = .bool (okQ (a, b, c, d) && okQ (firstQ (a, b, c, d) (a', b', c', d'))) ∧ w1.heap.size ≤ g ∧ g < wx.heap.size ∧ wx.cell? ⟨g, 0, none⟩ = some (.int .i64 (rI (okQ (a, b, c, d) && okQ (firstQ (a, b, c, d) (a', b', c', d'))) (firstQ (a, b, c, d) (a', b', c', d')).1)) ∧ wx.cell? ⟨g, 1, none⟩ = some (.int .i64 (rI (okQ (a, b, c, d) && okQ (firstQ (a, b, c, d) (a', b', c', d'))) (firstQ (a, b, c, d) (a', b', c', d')).2.1)) ∧ wx.cell? ⟨g, 2, none⟩ = some (.int .i64 (rI (okQ (a, b, c, d) && okQ (firstQ (a, b, c, d) (a', b', c', d'))) (firstQ (a, b, c, d) (a', b', c', d')).2.2.1)) ∧ wx.cell? ⟨g, 3, none⟩ = some (.int .i64 (rI (okQ (a, b, c, d) && okQ (firstQ (a, b, c, d) (a', b', c', d'))) (firstQ (a, b, c, d) (a', b', c', d')).2.2.2)) ∧ Below w1.heap.size w1 wx)
  case first =>
    have Hm := Lib.hid (mul_of (a := a) (b := b) (c := c) (d := d) (conjOk Hy.out) rfl)
    go_region_held3 (fun w' => (∀ b o, b < w1.heap.size → w'.cell? ⟨b, o, none⟩ = w1.cell? ⟨b, o, none⟩) ∧ Below w1.heap.size w1 w') ((refine SB_mk ?_; go_grown)) (first | (go_at_call 54; refine (l1Conj_any _ _ _ _ _ Hy.out).mono ?_; rintro e wA ⟨rfl, bA⟩; obtain ⟨bAc, bAf⟩ := bcell bA; (try with_reducible have yA := lt_size bA); (try with_reducible have yA := lt_sizeD bA); (try with_reducible have yB := Nat.lt_of_lt_of_le (by assumption) bA.size); have sA := (SB_step (W := w1) (by with_reducible assumption) bA).2; have zA := sA.size) | (go_at_call 53; refine (specMul_any _ _ _ _ _ _ _ _ _).mono ?_; rintro e wA ⟨rfl, bA⟩; obtain ⟨bAc, bAf⟩ := bcell bA; (try with_reducible have yA := lt_size bA); (try with_reducible have yA := lt_sizeD bA); (try with_reducible have yB := Nat.lt_of_lt_of_le (by assumption) bA.size); have sA := (SB_step (W := w1) (by with_reducible assumption) bA).2; have zA := sA.size; rw [Hm.out]; unfold optRes))
    all_goals
      go_wp2_with fail
      go_meet
      have ef : firstQ (a, b, c, d) (a', b', c', d') = mulQ (a, b, c, d) (a', -d', -c', -b') := rfl
      rw [ef]
      refine ⟨_, rfl, rfl, ?_, ?_, ?_, ?_, ?_, ?_, ?_⟩
      · first | omega | (simp; omega)
      · go_size
      · go_simp
      · go_simp
      · go_simp
      · go_simp
      · go_grown
  case rest =>
    obtain ⟨w2, rfl⟩ : ∃ w2 : World, w2 = wc := ⟨_, rfl⟩
    obtain ⟨g, rfl, rfl, hg1, hg2, c0, c1, c2, c3, hb⟩ := hcut
    obtain ⟨hbc, hbf⟩ := bcellB hb
    have z2 := hb.size
    have B2 : Below w.heap.size w w2 := B1.trans (hb.mono B1.size)
    have y20 : w.heap.size < w2.heap.size := by omega
    have y21 : w.heap.size + 1 < w2.heap.size := by omega
    have y22 : w.heap.size + 2 < w2.heap.size := by omega
    have C2 : Below w1.heap.size w1 w2 := hb
    rcases h1 : (okQ (a, b, c, d) && okQ (firstQ (a, b, c, d) (a', b', c', d'))) with _ | _
    · have Hq := Lib.hid (quoOk_f2 h1)
      rw [h1, rI_f] at c0 c1 c2 c3
      go_wp2_with fail
      refine (specMul_shape _ _ _ _ _ _ _ _ _).mono ?_
      rintro e w3 ⟨p0, p1, p2, p3, o, rfl, b3⟩
      have z3 := b3.size
      have C3 := Below.chain C2 (by go_grown) b3 (by go_size)
      have B3 : Below w.heap.size w w3 := Below.chain B2 (by go_grown) b3 (by go_size)
      obtain ⟨b3c, b3f⟩ := bcell b3
      obtain ⟨C3c, C3f⟩ := bcellB C3
      have y30 : w.heap.size < w3.heap.size := by omega
      have y31 : w.heap.size + 1 < w3.heap.size := by omega
      have y32 : w.heap.size + 1 + 1 < w3.heap.size := by omega
      have kR3 : ∀ o, w3.cell? ⟨w.heap.size + 1 + 1, o, none⟩ = _ := fun o => (C3c _ o (by omega)).trans ((b1c _ o (by go_size)).trans (cell_of_row _ (w.heap.size + 1 + 1) o _ _ _ (heap_top _ _ (by simp))))
      go_wp2
      rw [Hq.out]
      refine bodyPost_ret (by simp [results, Try.results20, go_sem, optRes, rI_f, kR3, y32]) rfl ⟨rfl, ?_⟩
      go_grown
    · obtain ⟨hx1, hf1⟩ : okQ (a, b, c, d) = true ∧ okQ (firstQ (a, b, c, d) (a', b', c', d')) = true := by simpa using h1
      rw [h1, rI_t] at c0 c1 c2 c3
      have Hf := Lib.hid hf1
      have Huv := Lib.hid (uvOk hok)
      clear hf1 hx1
      rcases h2 : okQ (secondQ (a, b, c, d) (a', b', c', d')) with _ | _
      · have Hq := Lib.hid (quoOk_f3 h2)
        have Hs : Hid (okQ (mulQ (firstQ (a, b, c, d) (a', b', c', d')) (uQ (a', b', c', d'), -vQ (a', b', c', d'), 0, vQ (a', b', c', d'))) = false) := h2
        clear h2
        go_wp2_with fail
        refine (specMul_ok (firstQ (a, b, c, d) (a', b', c', d')) (uQ (a', b', c', d')) (vQ (a', b', c', d')) _ Huv.out Hf.out).mono ?_
        rintro e w3 ⟨rfl, b3⟩
        rw [Hs.out]
        unfold optRes
        have z3 := b3.size
        have C3 := Below.chain C2 (by go_grown) b3 (by go_size)
        have B3 : Below w.heap.size w w3 := Below.chain B2 (by go_grown) b3 (by go_size)
        obtain ⟨b3c, b3f⟩ := bcell b3
        obtain ⟨C3c, C3f⟩ := bcellB C3
        have y30 : w.heap.size < w3.heap.size := by omega
        have y31 : w.heap.size + 1 < w3.heap.size := by omega
        have y32 : w.heap.size + 1 + 1 < w3.heap.size := by omega
        have kR3 : ∀ o, w3.cell? ⟨w.heap.size + 1 + 1, o, none⟩ = _ := fun o => (C3c _ o (by omega)).trans ((b1c _ o (by go_size)).trans (cell_of_row _ (w.heap.size + 1 + 1) o _ _ _ (heap_top _ _ (by simp))))
        go_wp2
        rw [Hq.out]
        refine bodyPost_ret (by simp [results, Try.results20, go_sem, optRes, rI_f, kR3, y32]) rfl ⟨rfl, ?_⟩
        go_grown
      · have Hs : Hid (okQ (mulQ (firstQ (a, b, c, d) (a', b', c', d')) (uQ (a', b', c', d'), -vQ (a', b', c', d'), 0, vQ (a', b', c', d'))) = true) := h2
        have Hq := Lib.hid (quoOk_t hok h1 h2 h3)
        have HN : Hid (wrap64 (wrap64 (uQ (a', b', c', d') * uQ (a', b', c', d')) - wrap64 (2 * vQ (a', b', c', d') * vQ (a', b', c', d'))) = nQ (a', b', c', d')) := by
          have h5 := norm_bd (u := uQ (a', b', c', d')) (v := vQ (a', b', c', d')) ⟨by omega, by omega⟩ ⟨by omega, by omega⟩
          rw [IntWalk.wrap64_in (2 * vQ (a', b', c', d')) (by omega)] at h5
          exact h5
        have n0 : ¬ nQ (a', b', c', d') = 0 := nQ_ne (by simpa using h3)
        clear h2
        go_wp2_with fail
        refine (specMul_ok (firstQ (a, b, c, d) (a', b', c', d')) (uQ (a', b', c', d')) (vQ (a', b', c', d')) _ Huv.out Hf.out).mono ?_
        rintro e w3 ⟨rfl, b3⟩
        rw [Hs.out]
        unfold optRes
        rw [rI_t, rI_t, rI_t, rI_t]
        obtain ⟨s, hs⟩ : ∃ s, s = mulQ (firstQ (a, b, c, d) (a', b', c', d')) (uQ (a', b', c', d'), -vQ (a', b', c', d'), 0, vQ (a', b', c', d')) := ⟨_, rfl⟩
        have HS : Hid (secondQ (a, b, c, d) (a', b', c', d') = s) := hs.symm
        rw [← hs] at Hs
        rw [← hs]
        clear hs
        have z3 := b3.size
        have C3 := Below.chain C2 (by go_grown) b3 (by go_size)
        have B3 : Below w.heap.size w w3 := Below.chain B2 (by go_grown) b3 (by go_size)
        obtain ⟨b3c, b3f⟩ := bcell b3
        obtain ⟨C3c, C3f⟩ := bcellB C3
        have y30 : w.heap.size < w3.heap.size := by omega
        have y31 : w.heap.size + 1 < w3.heap.size := by omega
        have y32 : w.heap.size + 1 + 1 < w3.heap.size := by omega
        have kR3 : ∀ o, w3.cell? ⟨w.heap.size + 1 + 1, o, none⟩ = _ := fun o => (C3c _ o (by omega)).trans ((b1c _ o (by go_size)).trans (cell_of_row _ (w.heap.size + 1 + 1) o _ _ _ (heap_top _ _ (by simp))))
        go_upto_region 7 with fail
        rw [HN.out]
        obtain ⟨n, hnd⟩ : ∃ n, n = nQ (a', b', c', d') := ⟨_, rfl⟩
        have Hq' : Hid (quoOk (a, b, c, d) (a', b', c', d') = dvdQ s n) := by show _ = _; rw [hnd, ← HS.out]; exact Hq.out
        rw [← hnd] at n0
        rw [← hnd]
        have Hnd := Lib.hid hnd.symm
        have hb := rOk_iff.1 (show rOk s.1 s.2.1 s.2.2.1 s.2.2.2 = true from Hs.out)
        have Hb := Lib.hid hb
        clear hb hnd Hq HN
        rcases (Decidable.em (s.1.tmod n = 0)).symm with ha | ha
        · have Hd : Hid (dvdQ s n = false) := by show dvdQ s n = false; simp [dvdQ, ha]
          go_wp2
          rw [Hq'.out, Hd.out]
          refine bodyPost_ret (by simp [results, Try.results20, go_sem, optRes, rI_f, kR3, y32]) rfl ⟨rfl, ?_⟩
          go_grown
        rcases (Decidable.em (s.2.1.tmod n = 0)).symm with hb1 | hb1
        · have Hd : Hid (dvdQ s n = false) := by show dvdQ s n = false; simp [dvdQ, hb1]
          go_wp2
          rw [Hq'.out, Hd.out]
          refine bodyPost_ret (by simp [results, Try.results20, go_sem, optRes, rI_f, kR3, y32]) rfl ⟨rfl, ?_⟩
          go_grown
        rcases (Decidable.em (s.2.2.1.tmod n = 0)).symm with hc1 | hc1
        · have Hd : Hid (dvdQ s n = false) := by show dvdQ s n = false; simp [dvdQ, hc1]
          go_wp2
          rw [Hq'.out, Hd.out]
          refine bodyPost_ret (by simp [results, Try.results20, go_sem, optRes, rI_f, kR3, y32]) rfl ⟨rfl, ?_⟩
          go_grown
        rcases (Decidable.em (s.2.2.2.tmod n = 0)).symm with hd1 | hd1
        · have Hd : Hid (dvdQ s n = false) := by show dvdQ s n = false; simp [dvdQ, hd1]
          go_wp2
          rw [Hq'.out, Hd.out]
          refine bodyPost_ret (by simp [results, Try.results20, go_sem, optRes, rI_f, kR3, y32]) rfl ⟨rfl, ?_⟩
          go_grown
        have Hd : Hid (dvdQ s n = true) := by show dvdQ s n = true; simp [dvdQ, ha, hb1, hc1, hd1]
        obtain ⟨q0, q1, q2, q3⟩ := Hb.out
        have v0 := IntWalk.i64_in (s.1.tdiv n) (by have := tdiv_bd (n := n) q0; omega)
        have v1 := IntWalk.i64_in (s.2.1.tdiv n) (by have := tdiv_bd (n := n) q1; omega)
        have v2 := IntWalk.i64_in (s.2.2.1.tdiv n) (by have := tdiv_bd (n := n) q2; omega)
        have v3 := IntWalk.i64_in (s.2.2.2.tdiv n) (by have := tdiv_bd (n := n) q3; omega)
        have fR3 : ∀ o, w3.frozen? ⟨w.heap.size + 1 + 1, o, none⟩ = false := fun o => (C3f _ o (by omega)).trans ((b1f _ o (by go_size)).trans (frozen_of_row _ (w.heap.size + 1 + 1) o _ _ (heap_top _ _ (by simp))))
        go_upto_region 9 with fail
        generalize hW9 : w3.alloc (.cells #[.int .i64 s.1, .int .i64 s.2.1, .int .i64 s.2.2.1, .int .i64 s.2.2.2] 34) = W9
        have y9 : w3.heap.size < W9.heap.size := by rw [← hW9]; go_size
        have y92 : w.heap.size + 1 + 1 < W9.heap.size := by omega
        have n9 : ¬ w3.heap.size = w.heap.size + 1 + 1 := by omega
        have k9 : ∀ o, W9.cell? ⟨w3.heap.size, o, none⟩ = _ := fun o => cell_of_row W9 w3.heap.size o _ _ _ (by rw [← hW9]; exact heap_top _ _ rfl)
        have B9 : Below w3.heap.size w3 W9 := by rw [← hW9]; exact Below.alloc (Below.refl _ _) (Nat.le_refl _) _
        have kR9 : ∀ o, W9.cell? ⟨w.heap.size + 1 + 1, o, none⟩ = _ := fun o => (B9.cell (p := ⟨w.heap.size + 1 + 1, o, none⟩) y32).trans (kR3 o)
        have fR9 : ∀ o, W9.frozen? ⟨w.heap.size + 1 + 1, o, none⟩ = false := fun o => (B9.frozen (p := ⟨w.heap.size + 1 + 1, o, none⟩) y32).trans (fR3 o)
        have BW : Below w.heap.size w W9 := B3.trans (B9.mono B3.size)
        clear hW9 C3c C3f b3c b3f b1c b1f hbc hbf
        go_region_held3 (fun w' => (∀ b o, b < W9.heap.size → b ≠ w.heap.size + 1 + 1 → w'.cell? ⟨b, o, none⟩ = W9.cell? ⟨b, o, none⟩) ∧ W9.grownBy w' (some (w.heap.size + 1 + 1))) ((refine GB_mk ?_; repeat (first | (with_reducible exact grownBy_refl' _ _) | (with_reducible assumption) | (with_reducible refine only_drew ?_) | (with_reducible refine only_alloc ?_ _) | (with_reducible refine only_setCell ?_ (by first | (left; rfl) | (right; omega) | (right; simp; omega)) _)))) (first | (go_at_call 53; refine (specMul_shape _ _ _ _ _ _ _ _ _).mono ?_; rintro e wA0 ⟨rfl, bA0⟩; obtain ⟨bA0c, bA0f⟩ := bcell bA0; (try simp only [World.size_drew] at bA0c); (try simp only [World.cell?_drew] at bA0c); (try simp only [World.size_drew] at bA0f); (try simp only [World.frozen?_drew] at bA0f); have sA0 := (GB_step (W := W9) (by with_reducible assumption) bA0).2; have zA0 := sA0.size; have yA0_0 : w.heap.size < wA0.heap.size := (by omega)))
        all_goals
          go_wp2
          rw [Hq'.out, Hd.out, HS.out, Hnd.out]
          refine bodyPost_ret (by simp [results, Try.results20, go_sem, optRes, rI_t, quoQ, kR9]) rfl ⟨rfl, ?_⟩
          go_grown
end Go.Proofs.Ytogafcnaombpaaa
