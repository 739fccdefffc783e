/- Kron of the reference: the whole. -/
import Derived.Test.YtcmkkjdleihjfaaKronS
import Derived.Test.YtcmkkjdleihjfaaSclT
namespace Go.Proofs.Ytcmkkjdleihjfaa
open Go.RowKit

theorem dim_prod {a b : Int} (ha : dimB a = true) (hb : dimB b = true) : dimB (a * b) = decide (a * b ≤ 32) := by
  have h1 := dimB_iff.1 ha
  have h2 := dimB_iff.1 hb
  rcases h1 with rfl | rfl | rfl | rfl | rfl | rfl <;> rcases h2 with rfl | rfl | rfl | rfl | rfl | rfl <;> decide
theorem FlatAt.blk {w : World} {A : Option Addr} {zs : List Int} (h : FlatAt w A zs) (h0 : 0 < zs.length) : ∀ a, A = some a → a.block < w.heap.size := by
  intro a e
  obtain ⟨b, off, h1, h2, _⟩ := h 0 zs[0] (List.getElem?_eq_getElem h0)
  rw [e] at h1
  cases h1
  exact h2

set_option maxRecDepth 100000 in
set_option maxHeartbeats 8000000 in
theorem specKron_any (r c : Int) (A : Option Addr) (cap : Nat) (xs : List D5) (r' c' : Int) (A2 : Option Addr) (cap2 : Nat) (ys : List D5) (w : World) (hx : Hid (FlatAt w A (flatD xs))) (hy : Hid (FlatAt w A2 (flatD ys))) :
    Calls Try.prog 53 #[mv r c A xs.length cap, mv r' c' A2 ys.length cap2] w fun e w' => MRes e w w' (kronAll r c xs r' c' ys) (r * r') (c * c') (kronL r.toNat c.toNat r'.toNat c'.toNat xs ys) := by
  rcases hok : mOk r c xs with _ | _
  · have Hno : Hid (kronAll r c xs r' c' ys = false) := by show kronAll r c xs r' c' ys = false; simp [kronAll, hok]
    go_enter Try.func53, Try.ntmps53
    go_wp2_with fail
    refine (l3Good_any r c A cap xs _ (((hx.out.alloc _).alloc _).alloc _)).mono ?_
    rintro e w1 ⟨rfl, b1⟩
    obtain ⟨b1c, b1f⟩ := bcell b1
    have z1 := b1.size
    try simp only [World.size_alloc] at z1
    have B1 : Below w.heap.size w w1 := Below.chain (Below.refl _ _) (by go_grown) b1 (by go_size)
    have y10 : w.heap.size < w1.heap.size := by omega
    have y11 : w.heap.size + 1 < w1.heap.size := by omega
    have y12 : w.heap.size + 2 < w1.heap.size := by omega
    rw [hok]
    go_wp2
    refine bodyPost_ret (by simp [results, Try.results53, go_sem, b1c]) rfl (MRes.no Hno.out ?_)
    go_grown
  rcases hok2 : mOk r' c' ys with _ | _
  · have Hno : Hid (kronAll r c xs r' c' ys = false) := by show kronAll r c xs r' c' ys = false; simp [kronAll, hok2]
    go_enter Try.func53, Try.ntmps53
    go_wp2_with fail
    refine (l3Good_any r c A cap xs _ (((hx.out.alloc _).alloc _).alloc _)).mono ?_
    rintro e w1 ⟨rfl, b1⟩
    obtain ⟨b1c, b1f⟩ := bcell b1
    have z1 := b1.size
    try simp only [World.size_alloc] at z1
    have B1 : Below w.heap.size w w1 := Below.chain (Below.refl _ _) (by go_grown) b1 (by go_size)
    have y10 : w.heap.size < w1.heap.size := by omega
    have y11 : w.heap.size + 1 < w1.heap.size := by omega
    have y12 : w.heap.size + 2 < w1.heap.size := by omega
    rw [hok]
    go_wp2_with fail
    refine (l3Good_any r' c' A2 cap2 ys _ (by refine hy.out.below B1)).mono ?_
    rintro e w2 ⟨rfl, b2⟩
    have z2 := b2.size
    try simp only [World.size_alloc] at z2
    have C2 := Below.chain b1 (by go_grown) b2 (by go_size)
    have B2 : Below w.heap.size w w2 := Below.chain B1 (by go_grown) b2 (by go_size)
    obtain ⟨b2c, b2f⟩ := bcell b2
    obtain ⟨C2c, C2f⟩ := bcellB C2
    have y20 : w.heap.size < w2.heap.size := by omega
    have y21 : w.heap.size + 1 < w2.heap.size := by omega
    have y22 : w.heap.size + 2 < w2.heap.size := by omega
    try (have v21 : w1.heap.size < w2.heap.size := by omega)
    rw [hok2]
    go_wp2
    refine bodyPost_ret (by simp [results, Try.results53, go_sem, C2c]) rfl (MRes.no Hno.out ?_)
    go_grown
  obtain ⟨R, C, rfl, rfl, hR1, hR, hC1, hC, hdr, hdc, hlen, hall⟩ := dims hok
  obtain ⟨Rb, Cb, rfl, rfl, hR21, hRb, hC21, hCb, hdr2, hdc2, hlen2, hall2⟩ := dims hok2
  have Hdr := Lib.hid (dim_prod hdr hdr2)
  have Hdc := Lib.hid (dim_prod hdc hdc2)
  have Hlen := Lib.hid hlen
  have Hlen2 := Lib.hid hlen2
  have Hall := Lib.hid hall
  have Hall2 := Lib.hid hall2
  have Hok := Lib.hid hok
  have Hok2 := Lib.hid hok2
  have mR : (R : Int) * (Rb : Int) = ((R * Rb : Nat) : Int) := (Int.natCast_mul R Rb).symm
  have mC : (C : Int) * (Cb : Int) = ((C * Cb : Nat) : Int) := (Int.natCast_mul C Cb).symm
  have hN1 : R * Rb ≤ 1024 := Nat.mul_le_mul hR hRb
  have hM1 : C * Cb ≤ 1024 := Nat.mul_le_mul hC hCb
  obtain ⟨N, hN⟩ : ∃ N, N = R * Rb := ⟨_, rfl⟩
  obtain ⟨M, hM⟩ : ∃ M, M = C * Cb := ⟨_, rfl⟩
  have HN := Lib.hid hN
  have HM := Lib.hid hM
  rw [← hN] at mR hN1
  rw [← hM] at mC hM1
  rw [mR] at Hdr
  rw [mC] at Hdc
  have wR : IntKind.wrap .i64 (N : Int) = (N : Int) := IntWalk.i64_in _ (by omega)
  have wC : IntKind.wrap .i64 (M : Int) = (M : Int) := IntWalk.i64_in _ (by omega)
  have wR' : RowKit.wrap64 (N : Int) = (N : Int) := IntWalk.wrap64_in _ (by omega)
  have wC' : RowKit.wrap64 (M : Int) = (M : Int) := IntWalk.wrap64_in _ (by omega)
  clear hlen hall hok hlen2 hall2 hok2 hdr hdr2 hdc hdc2 hN hM
  by_cases hN32 : (N : Int) ≤ 32
  · by_cases hM32 : (M : Int) ≤ 32
    · have hg1 : decide ((32 : Int) < (N : Int)) = false := by simp; omega
      have hg2 : decide ((32 : Int) < (M : Int)) = false := by simp; omega
      have hNn : R * Rb ≤ 32 := by rw [← HN.out]; exact Int.ofNat_le.1 hN32
      have hMn : C * Cb ≤ 32 := by rw [← HM.out]; exact Int.ofNat_le.1 hM32
      have Hall3 : Hid (kronAll R C xs Rb Cb ys = okM (C * Cb) (R * Rb * (C * Cb)) (kronMk C Rb Cb xs ys)) := by
        show kronAll _ _ _ _ _ _ = _
        rw [kronMk_ok Hlen.out Hlen2.out Hall.out Hall2.out]
        unfold kronAll
        rw [Hok.out, Hok2.out, mR, mC, Hdr.out, Hdc.out, decide_eq_true hN32, decide_eq_true hM32]
        simp only [Bool.true_and, Int.toNat_natCast]
      clear hN32 hM32 hN1 hM1
      go_enter Try.func53, Try.ntmps53
      go_wp2_with fail
      refine (l3Good_any R C A cap xs _ (((hx.out.alloc _).alloc _).alloc _)).mono ?_
      rintro e w1 ⟨rfl, b1⟩
      obtain ⟨b1c, b1f⟩ := bcell b1
      have z1 := b1.size
      try simp only [World.size_alloc] at z1
      have B1 : Below w.heap.size w w1 := Below.chain (Below.refl _ _) (by go_grown) b1 (by go_size)
      have y10 : w.heap.size < w1.heap.size := by omega
      have y11 : w.heap.size + 1 < w1.heap.size := by omega
      have y12 : w.heap.size + 2 < w1.heap.size := by omega
      rw [Hok.out]
      have L1 : Hid (LocM w1 w.heap.size R C A xs.length cap) := LocM.below (LocM.of_row ((Below.heap_alloc _ _ _ (by go_size)).trans ((Below.heap_alloc _ _ _ (by go_size)).trans (heap_top _ _ rfl)))) b1 (by go_size)
      have K1 : Hid (LocM w1 (w.heap.size + 1) Rb Cb A2 ys.length cap2) := LocM.below (LocM.of_row ((Below.heap_alloc _ _ _ (by go_size)).trans (heap_top _ _ (by simp)))) b1 (by go_size)
      have Z1 : Hid (Zero3 w1 (w.heap.size + 2)) := (b1.block _ (by go_size)).trans (heap_top _ _ (by simp))
      go_wp2_with fail
      refine (l3Good_any Rb Cb A2 cap2 ys _ (by refine hy.out.below B1)).mono ?_
      rintro e w2 ⟨rfl, b2⟩
      have z2 := b2.size
      try simp only [World.size_alloc] at z2
      have C2 := Below.chain b1 (by go_grown) b2 (by go_size)
      have B2 : Below w.heap.size w w2 := Below.chain B1 (by go_grown) b2 (by go_size)
      obtain ⟨b2c, b2f⟩ := bcell b2
      obtain ⟨C2c, C2f⟩ := bcellB C2
      have y20 : w.heap.size < w2.heap.size := by omega
      have y21 : w.heap.size + 1 < w2.heap.size := by omega
      have y22 : w.heap.size + 2 < w2.heap.size := by omega
      try (have v21 : w1.heap.size < w2.heap.size := by omega)
      rw [Hok2.out]
      have L2 := L1.out.call b2
      have K2 := K1.out.call b2
      have Z2 : Hid (Zero3 w2 (w.heap.size + 2)) := (b2.block _ (by omega)).trans Z1.out
      have zz2 : w.heap.size + 2 < w2.heap.size := (Array.getElem?_eq_some_iff.1 Z2.out).1
      obtain ⟨_, l0, l1, l2⟩ := L2
      obtain ⟨_, k0, k1, k2⟩ := K2
      clear b1c b1f b2c b2f C2c C2f L1 K1 Z1
      go_upto_region 4 with fail
      generalize hW3 : w2.alloc (.cells #[.bool false] 112) = W3
      have b3 : Below w2.heap.size w2 W3 := by rw [← hW3]; go_grown
      have B3 := B2.trans (b3.mono B2.size)
      have HC : Hid (Cur W3 w2.heap.size false) := by rw [← hW3]; exact Cur.new w2 _ false
      have HZ : Hid (Zero3 W3 (w.heap.size + 2)) := (b3.block _ zz2).trans Z2.out
      have hl0 := (b3.cell (p := ⟨w.heap.size, 0, none⟩) (by dsimp only; omega)).trans l0
      have hl1 := (b3.cell (p := ⟨w.heap.size, 1, none⟩) (by dsimp only; omega)).trans l1
      have hl2 := (b3.cell (p := ⟨w.heap.size, 2, none⟩) (by dsimp only; omega)).trans l2
      have hk0 := (b3.cell (p := ⟨w.heap.size + 1, 0, none⟩) (by dsimp only; omega)).trans k0
      have hk1 := (b3.cell (p := ⟨w.heap.size + 1, 1, none⟩) (by dsimp only; omega)).trans k1
      have hk2 := (b3.cell (p := ⟨w.heap.size + 1, 2, none⟩) (by dsimp only; omega)).trans k2
      have zs3 := b3.size
      clear hW3 l0 l1 l2 k0 k1 k2
      go_wp2_with fail
      refine (l2cKron_any w2.heap.size R C Rb Cb A cap xs A2 cap2 ys _ HC hR hC Hlen.out hRb hCb Hlen2.out hNn hMn Hall.out Hall2.out (hx.out.below B3) (hy.out.below B3) (fun a e => ?ha) (fun a e => ?hb)).mono ?_
      case ha =>
        have := hx.out.blk (by rw [flatD_len, Hlen.out]; exact Nat.mul_pos (Nat.mul_pos hR1 hC1) (by omega)) a e
        omega
      case hb =>
        have := hy.out.blk (by rw [flatD_len, Hlen2.out]; exact Nat.mul_pos (Nat.mul_pos hR21 hC21) (by omega)) a e
        omega
      rintro e w4 ⟨A', cap', rfl, hf, hc4, t4⟩
      have Hf := Lib.hid hf
      have HZ4 : Hid (Zero3 w4 (w.heap.size + 2)) := (t4.block _ (by omega) (by omega)).trans HZ.out
      have zs4 := t4.size
      have B4 : Below w.heap.size w w4 := B3.trans (t4.far (by omega) (by omega))
      have zz4 : w.heap.size + 2 < w4.heap.size := by omega
      rw [← HN.out, ← HM.out] at hc4
      have Hc4 := Lib.hid hc4
      rw [← HN.out, ← HM.out] at Hall3
      have q0 := cell_of_row w4 (w.heap.size + 2) 0 _ _ _ HZ4.out
      have q1 := cell_of_row w4 (w.heap.size + 2) 1 _ _ _ HZ4.out
      have q2 := cell_of_row w4 (w.heap.size + 2) 2 _ _ _ HZ4.out
      have qf := fun o => frozen_of_row w4 (w.heap.size + 2) o _ _ HZ4.out
      rw [← HN.out, ← HM.out]
      have hrl : kronL (Int.toNat R) (Int.toNat C) (Int.toNat Rb) (Int.toNat Cb) xs ys = kronL R C Rb Cb xs ys := rfl
      clear hf hc4 t4 hl0 hl1 hl2 hk0 hk1 hk2
      rcases hok : okM M (N * M) (kronMk C Rb Cb xs ys) with _ | _
      · have Hno : Hid (kronAll R C xs Rb Cb ys = false) := by show kronAll _ _ _ _ _ _ = false; rw [Hall3.out, hok]
        rw [hok] at Hc4
        go_wp2_with fail
        refine (l2cMatrix_f _ _ _ _ _ _ _ Hc4).mono ?_
        rintro e w5 ⟨rfl, b5⟩
        obtain ⟨b5c, b5f⟩ := bcell b5
        have z5 := b5.size
        have B5 := B4.trans (b5.mono B4.size)
        have y50 : w.heap.size + 2 < w5.heap.size := by omega
        go_wp2
        refine bodyPost_ret (by simp [results, Try.results53, go_sem, b5c, zz4, q0, q1, q2]) rfl (MRes.no Hno.out ?_)
        go_grown
      · have Hyes : Hid (kronAll R C xs Rb Cb ys = true) := by show kronAll _ _ _ _ _ _ = true; rw [Hall3.out, hok]
        rw [hok] at Hc4
        go_wp2_with fail
        refine (l2cMatrix_t _ _ _ _ _ _ _ Hc4).mono ?_
        rintro e w5 ⟨rfl, b5⟩
        obtain ⟨b5c, b5f⟩ := bcell b5
        have z5 := b5.size
        have B5 := B4.trans (b5.mono B4.size)
        have y50 : w.heap.size + 2 < w5.heap.size := by omega
        go_wp2
        rw [hrl, mR, mC]
        refine bodyPost_ret (by simp [results, Try.results53, go_sem, b5c, zz4, q0, q1, q2]) rfl (MRes.yes (A := A') (cap := cap') Hyes.out ?_ ?_)
        · refine FlatIn.mono (lo := W3.heap.size) (hi := w4.heap.size) ?_ (by omega) (by go_size) (Nat.le_refl _)
          repeat (refine FlatIn.setFar ?_ (by dsimp only; omega) _)
          exact Hf.out.below b5 (Nat.le_refl _)
        · go_grown
    · have Hno : Hid (kronAll R C xs Rb Cb ys = false) := by
        show kronAll _ _ _ _ _ _ = false
        unfold kronAll
        rw [Hok.out, Hok2.out, mR, mC, Hdr.out, Hdc.out, decide_eq_false hM32]
        simp
      go_enter Try.func53, Try.ntmps53
      go_wp2_with fail
      refine (l3Good_any R C A cap xs _ (((hx.out.alloc _).alloc _).alloc _)).mono ?_
      rintro e w1 ⟨rfl, b1⟩
      obtain ⟨b1c, b1f⟩ := bcell b1
      have z1 := b1.size
      try simp only [World.size_alloc] at z1
      have B1 : Below w.heap.size w w1 := Below.chain (Below.refl _ _) (by go_grown) b1 (by go_size)
      have y10 : w.heap.size < w1.heap.size := by omega
      have y11 : w.heap.size + 1 < w1.heap.size := by omega
      have y12 : w.heap.size + 2 < w1.heap.size := by omega
      rw [Hok.out]
      have L1 : Hid (LocM w1 w.heap.size R C A xs.length cap) := LocM.below (LocM.of_row ((Below.heap_alloc _ _ _ (by go_size)).trans ((Below.heap_alloc _ _ _ (by go_size)).trans (heap_top _ _ rfl)))) b1 (by go_size)
      have K1 : Hid (LocM w1 (w.heap.size + 1) Rb Cb A2 ys.length cap2) := LocM.below (LocM.of_row ((Below.heap_alloc _ _ _ (by go_size)).trans (heap_top _ _ (by simp)))) b1 (by go_size)
      go_wp2_with fail
      refine (l3Good_any Rb Cb A2 cap2 ys _ (by refine hy.out.below B1)).mono ?_
      rintro e w2 ⟨rfl, b2⟩
      have z2 := b2.size
      try simp only [World.size_alloc] at z2
      have C2 := Below.chain b1 (by go_grown) b2 (by go_size)
      have B2 : Below w.heap.size w w2 := Below.chain B1 (by go_grown) b2 (by go_size)
      obtain ⟨b2c, b2f⟩ := bcell b2
      obtain ⟨C2c, C2f⟩ := bcellB C2
      have y20 : w.heap.size < w2.heap.size := by omega
      have y21 : w.heap.size + 1 < w2.heap.size := by omega
      have y22 : w.heap.size + 2 < w2.heap.size := by omega
      try (have v21 : w1.heap.size < w2.heap.size := by omega)
      rw [Hok2.out]
      have L2 := L1.out.call b2
      have K2 := K1.out.call b2
      obtain ⟨_, l0, l1, l2⟩ := L2
      obtain ⟨_, k0, k1, k2⟩ := K2
      go_wp2
      refine bodyPost_ret (by simp [results, Try.results53, go_sem, C2c]) rfl (MRes.no Hno.out ?_)
      go_grown
  · have Hno : Hid (kronAll R C xs Rb Cb ys = false) := by
      show kronAll _ _ _ _ _ _ = false
      unfold kronAll
      rw [Hok.out, Hok2.out, mR, mC, Hdr.out, Hdc.out, decide_eq_false hN32]
      simp
    go_enter Try.func53, Try.ntmps53
    go_wp2_with fail
    refine (l3Good_any R C A cap xs _ (((hx.out.alloc _).alloc _).alloc _)).mono ?_
    rintro e w1 ⟨rfl, b1⟩
    obtain ⟨b1c, b1f⟩ := bcell b1
    have z1 := b1.size
    try simp only [World.size_alloc] at z1
    have B1 : Below w.heap.size w w1 := Below.chain (Below.refl _ _) (by go_grown) b1 (by go_size)
    have y10 : w.heap.size < w1.heap.size := by omega
    have y11 : w.heap.size + 1 < w1.heap.size := by omega
    have y12 : w.heap.size + 2 < w1.heap.size := by omega
    rw [Hok.out]
    have L1 : Hid (LocM w1 w.heap.size R C A xs.length cap) := LocM.below (LocM.of_row ((Below.heap_alloc _ _ _ (by go_size)).trans ((Below.heap_alloc _ _ _ (by go_size)).trans (heap_top _ _ rfl)))) b1 (by go_size)
    have K1 : Hid (LocM w1 (w.heap.size + 1) Rb Cb A2 ys.length cap2) := LocM.below (LocM.of_row ((Below.heap_alloc _ _ _ (by go_size)).trans (heap_top _ _ (by simp)))) b1 (by go_size)
    go_wp2_with fail
    refine (l3Good_any Rb Cb A2 cap2 ys _ (by refine hy.out.below B1)).mono ?_
    rintro e w2 ⟨rfl, b2⟩
    have z2 := b2.size
    try simp only [World.size_alloc] at z2
    have C2 := Below.chain b1 (by go_grown) b2 (by go_size)
    have B2 : Below w.heap.size w w2 := Below.chain B1 (by go_grown) b2 (by go_size)
    obtain ⟨b2c, b2f⟩ := bcell b2
    obtain ⟨C2c, C2f⟩ := bcellB C2
    have y20 : w.heap.size < w2.heap.size := by omega
    have y21 : w.heap.size + 1 < w2.heap.size := by omega
    have y22 : w.heap.size + 2 < w2.heap.size := by omega
    try (have v21 : w1.heap.size < w2.heap.size := by omega)
    rw [Hok2.out]
    have L2 := L1.out.call b2
    have K2 := K1.out.call b2
    obtain ⟨_, l0, l1, l2⟩ := L2
    obtain ⟨_, k0, k1, k2⟩ := K2
    go_wp2
    refine bodyPost_ret (by simp [results, Try.results53, go_sem, C2c]) rfl (MRes.no Hno.out ?_)
    go_grown

theorem kronBd (r c : Int) (xs : List D5) (r' c' : Int) (ys : List D5) : (if kronAll r c xs r' c' ys then kronL r.toNat c.toNat r'.toNat c'.toNat xs ys else []).length ≤ 1048576 := by
  split
  · next h1 =>
    simp only [kronAll, Bool.and_eq_true] at h1
    obtain ⟨R, C, rfl, rfl, _, hR, _, hC, _⟩ := dims h1.1.1
    obtain ⟨R2, C2, rfl, rfl, _, hR2, _, hC2, _⟩ := dims h1.1.2
    rw [kronL, cellsM_len]
    have h2 := Nat.mul_le_mul (Nat.mul_le_mul hR hR2) (Nat.mul_le_mul hC hC2)
    show R * R2 * (C * C2) ≤ _
    omega
  · simp
end Go.Proofs.Ytcmkkjdleihjfaa
