/- NormSquare of the reference. -/
import Derived.Test.YtogafcnaombpaaaMulD
namespace Go.Proofs.Ytogafcnaombpaaa
open Go.RowKit

theorem Cur.new (w : World) (t : TypeId) (b : Bool) : Cur (w.alloc (.cells #[.bool b] t)) w.heap.size b :=
  ⟨by simp, cell_of_row _ _ 0 _ _ _ (heap_top _ _ rfl), frozen_of_row _ _ 0 _ _ (heap_top _ _ rfl)⟩

set_option maxRecDepth 100000 in
set_option maxHeartbeats 4000000 in
theorem specNormSq_any (a b c d e : Int) (w : World) :
    Calls Try.prog 34 #[dv a b c d e] w fun r w' => r = .returned (normSqRes ((a, b, c, d), e)) ∧ Below w.heap.size w w' := by
  rcases hx : dOk a b c d e with _ | _
  · have Hr : Hid (normSqRes ((a, b, c, d), e) = .tuple #[dv 0 0 0 0 0, .bool false]) := mulRes_f1 (x := ((a, b, c, d), e)) hx
    go_enter Try.func34, Try.ntmps34
    go_wp2_with fail
    refine (l2Good_any _ _ _ _ _ _).mono ?_
    rintro e w1 ⟨rfl, b1⟩
    obtain ⟨b1c, b1f⟩ := bcell b1
    have z1 := b1.size
    try simp only [World.size_alloc] at z1
    have B1 : Below w.heap.size w w1 := Below.chain (Below.refl _ _) (by go_grown) b1 (by go_size)
    have y10 : w.heap.size < w1.heap.size := by omega
    have y11 : w.heap.size + 1 < w1.heap.size := by omega
    go_wp2
    rw [Hr.out]
    refine bodyPost_ret (by simp [results, Try.results34, go_sem, b1c]) rfl ⟨rfl, ?_⟩
    go_grown
  · have hy := conj_dOk hx
    have Hx := Lib.hid (dOk_r hx)
    have Hy := Lib.hid (dOk_r hy)
    have He := Lib.hid (dOk_e hx)
    have Hr : Hid (dyRes (!(false || !mulOk ((a, b, c, d), e) ((a, -d, -c, -b), e))) (mulC ((a, b, c, d), e) ((a, -d, -c, -b), e)) = normSqRes ((a, b, c, d), e)) := by
      have h1 : dOkD ((a, b, c, d), e) = true := hx
      have h2 : dOkD ((a, -d, -c, -b), e) = true := hy
      show dyRes _ _ = mulRes _ _
      simp [mulRes, h1, h2, conjD, conjQ]
    clear hy
    go_enter Try.func34, Try.ntmps34
    go_wp2_with fail
    refine (l2Good_any _ _ _ _ _ _).mono ?_
    rintro e w1 ⟨rfl, b1⟩
    obtain ⟨b1c, b1f⟩ := bcell b1
    have z1 := b1.size
    try simp only [World.size_alloc] at z1
    have B1 : Below w.heap.size w w1 := Below.chain (Below.refl _ _) (by go_grown) b1 (by go_size)
    have y10 : w.heap.size < w1.heap.size := by omega
    have y11 : w.heap.size + 1 < w1.heap.size := by omega
    have f1 : ∀ o, w1.frozen? ⟨w.heap.size + 1, o, none⟩ = false := fun o => (b1f _ _ (by go_size)).trans (by go_simp)
    have k0 : ∀ o, w1.cell? ⟨w.heap.size, o, none⟩ = _ := fun o => (b1c _ o (by go_size)).trans (cell_of_row _ w.heap.size o _ _ _ ((Below.heap_alloc _ _ _ (by go_size)).trans (heap_top _ _ rfl)))
    have k1 : ∀ o, w1.cell? ⟨w.heap.size + 1, o, none⟩ = _ := fun o => (b1c _ o (by go_size)).trans (cell_of_row _ (w.heap.size + 1) o _ _ _ (heap_top _ _ (by simp)))
    go_upto_region 4 with fail
    generalize hW0 : w1.alloc (.cells #[.bool false] 79) = W0
    have B0 : Below w1.heap.size w1 W0 := by rw [← hW0]; go_grown
    have HC : Hid (Cur W0 w1.heap.size false) := by rw [← hW0]; exact Cur.new _ _ _
    have y00 : w.heap.size < W0.heap.size := by rw [← hW0]; go_size
    have y01 : w.heap.size + 1 < W0.heap.size := by rw [← hW0]; go_size
    have k0' : ∀ o, W0.cell? ⟨w.heap.size, o, none⟩ = _ := fun o => (B0.cell (p := ⟨w.heap.size, o, none⟩) y10).trans (k0 o)
    have k1' : ∀ o, W0.cell? ⟨w.heap.size + 1, o, none⟩ = _ := fun o => (B0.cell (p := ⟨w.heap.size + 1, o, none⟩) y11).trans (k1 o)
    have f1' : ∀ o, W0.frozen? ⟨w.heap.size + 1, o, none⟩ = false := fun o => (B0.frozen (p := ⟨w.heap.size + 1, o, none⟩) y11).trans (f1 o)
    have HP : Hid (w.heap.size < W0.heap.size ∧ w.heap.size ≠ w1.heap.size ∧ w.heap.size ≠ w.heap.size + 1) := by show _ ∧ _ ∧ _; omega
    clear hW0 b1c b1f k0 k1 f1 b1
    go_region_held3 (fun w' => (∀ o, w'.cell? ⟨w.heap.size, o, none⟩ = W0.cell? ⟨w.heap.size, o, none⟩) ∧ (∀ o, w'.cell? ⟨w.heap.size, o, none⟩ = W0.cell? ⟨w.heap.size, o, none⟩) ∧ Off2 (w1.heap.size) (w.heap.size + 1) W0 w') ((refine O2_mk HP.out HP.out ?_; repeat (first | (with_reducible assumption) | (with_reducible refine Off2.drew ?_) | (with_reducible refine Off2.alloc ?_ _) | (with_reducible refine Off2.set ?_ (by first | (left; rfl) | (right; left; rfl) | (right; right; dsimp only; omega)) _) | (with_reducible exact Off2.refl _ _ _)))) (first | (go_at_call 75; refine (l2Conj_any _ _ _ _ _ _ Hx.out).mono ?_; rintro e wA ⟨rfl, bA⟩; obtain ⟨bAc, bAf⟩ := bcell bA; (try simp only [World.size_drew] at bAc); (try simp only [World.cell?_drew] at bAc); (try simp only [World.size_drew] at bAf); (try simp only [World.frozen?_drew] at bAf); have sA := O2_step (g := w1.heap.size) (R := w.heap.size + 1) (p := w.heap.size) (q := w.heap.size) (W := W0) (by with_reducible assumption) bA; have zA := sA.size; (first | have cA := Lib.hid (Cur.below HC.out bA HC.out.lt) | have cA := Lib.hid (Cur.below (Cur.drew HC.out) bA HC.out.lt)); have qA := Lib.hid (fun o => bAc (w.heap.size + 1) o y01); have rA := Lib.hid (fun o => bAf (w.heap.size + 1) o y01)) | (go_at_call 66; refine (l2cMul_any w1.heap.size false _ _ _ _ _ _ _ _ _ _ _ cA Hx.out Hy.out He.out He.out).mono ?_; rintro e wB ⟨rfl, cB', tB⟩; have cB := Lib.hid cB'; clear cB'; have sB := O2_stepT (g := w1.heap.size) (R := w.heap.size + 1) (p := w.heap.size) (q := w.heap.size) (W := W0) (by with_reducible assumption) tB; have zB := sB.size; have qB := Lib.hid (fun o => (tB.cell (w.heap.size + 1) o (by omega) (by omega)).trans (qA.out o)); have rB := Lib.hid (fun o => (tB.frozen (w.heap.size + 1) o (by omega) (by omega)).trans (rA.out o)); have tB' := Lib.hid tB; clear tB) | (go_at_call 65; refine (l2cOut_any w1.heap.size _ _ _ _ _ _ _ cB.out).mono ?_; rintro e wC ⟨rfl, bC⟩; have sC := O2_step (g := w1.heap.size) (R := w.heap.size + 1) (p := w.heap.size) (q := w.heap.size) (W := W0) (by with_reducible assumption) bC; have zC := sC.size; have qC : ∀ o, wC.cell? ⟨w.heap.size + 1, o, none⟩ = W0.cell? ⟨w.heap.size + 1, o, none⟩ := fun o => (bC.cell (p := ⟨w.heap.size + 1, o, none⟩) (by dsimp only; omega)).trans (qB.out o); have rC : ∀ o, wC.frozen? ⟨w.heap.size + 1, o, none⟩ = W0.frozen? ⟨w.heap.size + 1, o, none⟩ := fun o => (bC.frozen (p := ⟨w.heap.size + 1, o, none⟩) (by dsimp only; omega)).trans (rB.out o); rw [Hr.out]; unfold normSqRes mulRes dyRes))
    all_goals
      go_wp2
      refine bodyPost_ret (by simp [results, Try.results34, go_sem, qC, k1', normSqRes, mulRes, dyRes]) rfl ⟨rfl, ?_⟩
      have h2 : Touch w1.heap.size (w1.heap.size + 1) w wC := Off2.to_touch (R := w.heap.size + 1) (B1.trans (B0.mono (by omega))) sC (by omega) (Nat.le_refl _)
      have B4 : Below w.heap.size w wC := h2.far (by omega) (Nat.le_refl _)
      go_grown
end Go.Proofs.Ytogafcnaombpaaa
