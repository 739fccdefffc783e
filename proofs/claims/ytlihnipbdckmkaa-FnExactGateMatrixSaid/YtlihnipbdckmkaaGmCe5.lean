/- A cell of a gate's matrix: the reference's l6Cell, at every gate. -/
import Derived.Test.YtlihnipbdckmkaaGmCel
import Derived.Test.YtlihnipbdckmkaaGmCe2
import Derived.Test.YtlihnipbdckmkaaGmCe3
import Derived.Test.YtlihnipbdckmkaaGmCe4
namespace Go.Proofs.Ytlihnipbdckmkaa
open Go.RowKit

set_option maxRecDepth 100000 in
set_option maxHeartbeats 2000000 in
theorem celN_any (n k p q sa i j : Nat) (w : World) (h1 : 1 ≤ k) (h8 : k ≤ 8) (hn : n ≤ 5) (hi : i < 32) (hj : j < 32) (hsa : sa < 5) (ha : (n : Int) - 1 - (p : Int) = (sa : Int)) (hm : ¬ (i = j ∨ flq i sa = j)) :
    Calls Try.prog 60 #[.int .i64 (n : Int), tv (k : Int) (p : Int) (q : Int), .int .i64 (i : Int), .int .i64 (j : Int)] w fun e w' => e = .returned (dv 0 0 0 0 0) ∧ Below w.heap.size w w' := by
  obtain ⟨M, hM⟩ : ∃ M, M = bits .andNot .i64 (bits .xor .i64 (i : Int) (j : Int)) (RowKit.wrap64 (2 ^ sa)) := ⟨_, rfl⟩
  have hm0 : ¬ M = 0 := fun e => hm ((mask_at ⟨i, hi⟩ ⟨j, hj⟩ ⟨sa, hsa⟩).1 (hM.symm.trans e))
  have hmk := hM.symm
  have k12 : ¬ (k : Int) = 12 := by omega
  have k9 : ¬ (k : Int) = 9 := by omega
  have k10 : ¬ (k : Int) = 10 := by omega
  have k11 : ¬ (k : Int) = 11 := by omega
  clear hM hm hi hj h1 h8
  go_enter Try.func60, Try.ntmps60
  go_wp2_with fail
  refine (pow0_any _).mono ?_
  rintro e w1 ⟨rfl, b1⟩
  have z1 := b1.size
  simp only [World.size_alloc] at z1
  have B1 : Below w.heap.size w w1 := Below.chain (Below.refl _ _) (by go_grown) b1 (by go_size)
  have HG := Lib.hid ((b1.block w.heap.size (by go_size)).trans ((Below.heap_alloc _ _ _ (by go_size)).trans (heap_top _ _ rfl)))
  have HZ := Lib.hid ((b1.block (w.heap.size + 1) (by go_size)).trans (heap_top _ _ (by simp)))
  have g0 : w1.cell? ⟨w.heap.size, 0, none⟩ = some (.int .i64 (k : Int)) := cell_of_row w1 w.heap.size 0 _ _ _ HG.out
  have g1 : w1.cell? ⟨w.heap.size, 1, none⟩ = some (.int .i64 (p : Int)) := cell_of_row w1 w.heap.size 1 _ _ _ HG.out
  have y0 : w.heap.size < w1.heap.size := by omega
  have y1 : w.heap.size + 1 < w1.heap.size := by omega
  clear b1
  go_upto_region 4 with fail
  generalize hW0 : (w1.alloc (.cells #[.int .i64 1, .int .i64 0, .int .i64 0, .int .i64 0, .int .i64 0] 60)).alloc (.cells #[.int .i64 0, .int .i64 0, .int .i64 0, .int .i64 0, .int .i64 0] 60) = W0
  have B0 : Below w.heap.size w W0 := by rw [← hW0]; clear hW0; go_grown
  have kG0 : W0.cell? ⟨w.heap.size, 0, none⟩ = some (.int .i64 (k : Int)) := cell_of_row W0 w.heap.size 0 _ _ _ (by rw [← hW0]; exact (Below.heap_alloc _ _ _ (by go_size)).trans ((Below.heap_alloc _ _ _ (by go_size)).trans HG.out))
  have kG1 : W0.cell? ⟨w.heap.size, 1, none⟩ = some (.int .i64 (p : Int)) := cell_of_row W0 w.heap.size 1 _ _ _ (by rw [← hW0]; exact (Below.heap_alloc _ _ _ (by go_size)).trans ((Below.heap_alloc _ _ _ (by go_size)).trans HG.out))
  have kG2 : W0.cell? ⟨w.heap.size, 2, none⟩ = some (.int .i64 (q : Int)) := cell_of_row W0 w.heap.size 2 _ _ _ (by rw [← hW0]; exact (Below.heap_alloc _ _ _ (by go_size)).trans ((Below.heap_alloc _ _ _ (by go_size)).trans HG.out))
  have kZ := fun o => cell_of_row W0 (w.heap.size + 1) o _ _ _ (by rw [← hW0]; exact (Below.heap_alloc _ _ _ (by go_size)).trans ((Below.heap_alloc _ _ _ (by go_size)).trans HZ.out))
  have fZ := fun o => frozen_of_row W0 (w.heap.size + 1) o _ _ (by rw [← hW0]; exact (Below.heap_alloc _ _ _ (by go_size)).trans ((Below.heap_alloc _ _ _ (by go_size)).trans HZ.out))
  have kO := fun o => cell_of_row W0 w1.heap.size o _ _ _ (by rw [← hW0]; exact (Below.heap_alloc _ _ _ (by go_size)).trans (heap_top _ _ rfl))
  have fO := fun o => frozen_of_row W0 w1.heap.size o _ _ (by rw [← hW0]; exact (Below.heap_alloc _ _ _ (by go_size)).trans (heap_top _ _ rfl))
  have kN := fun o => cell_of_row W0 (w1.heap.size + 1) o _ _ _ (by rw [← hW0]; exact heap_top _ _ (by simp))
  have s0 : w1.heap.size < W0.heap.size := by rw [← hW0]; clear hW0; go_size
  have s1 : w1.heap.size + 1 < W0.heap.size := by rw [← hW0]; clear hW0; go_size
  have y2 : w.heap.size < W0.heap.size := by omega
  have y3 : w.heap.size + 1 < W0.heap.size := by omega
  have n1 : ¬ w.heap.size + 1 = w1.heap.size := by omega
  have n2 : ¬ w1.heap.size = w.heap.size + 1 := by omega
  clear hW0 g0 g1 HG HZ
  go_wp2
  refine bodyPost_ret (by simp [results, Try.results60, go_sem, kZ]) rfl ⟨rfl, ?_⟩
  go_grown

theorem l6Cell_any (n k p q sa sb i j : Nat) (w : World) (h1 : 1 ≤ k) (h12 : k ≤ 12) (hn : n ≤ 5) (hi : i < 32) (hj : j < 32) (hsa : sa < 5) (hsb : sb < 5) (hne : 9 ≤ k → k ≤ 11 → sa ≠ sb) (ha : (n : Int) - 1 - (p : Int) = (sa : Int)) (hb : (n : Int) - 1 - (q : Int) = (sb : Int)) :
    Calls Try.prog 60 #[.int .i64 (n : Int), tv (k : Int) (p : Int) (q : Int), .int .i64 (i : Int), .int .i64 (j : Int)] w fun e w' => e = .returned (dvD (gmD k sa sb i j)) ∧ Below w.heap.size w w' := by
  by_cases h8 : k ≤ 8
  · by_cases hm : i = j ∨ flq i sa = j
    · rw [gmD_one h8 hm]
      have bx := btq_lt i sa
      have bj := btq_lt j sa
      obtain hX | hX : btq i sa = 0 ∨ btq i sa = 1 := by omega
      · obtain hY | hY : btq j sa = 0 ∨ btq j sa = 1 := by omega
        · rw [hX, hY]; exact celO_00 n k p q sa i j w h1 h8 hn hi hj hsa ha hX hY hm
        · rw [hX, hY]; exact celO_01 n k p q sa i j w h1 h8 hn hi hj hsa ha hX hY hm
      · obtain hY | hY : btq j sa = 0 ∨ btq j sa = 1 := by omega
        · rw [hX, hY]; exact celO_10 n k p q sa i j w h1 h8 hn hi hj hsa ha hX hY hm
        · rw [hX, hY]; exact celO_11 n k p q sa i j w h1 h8 hn hi hj hsa ha hX hY hm
    · rw [gmD_one' h8 hm]
      exact celN_any n k p q sa i j w h1 h8 hn hi hj hsa ha hm
  · obtain rfl | rfl | rfl | rfl : k = 9 ∨ k = 10 ∨ k = 11 ∨ k = 12 := by omega
    · exact cel9_any n p q sa sb i j w hn hi hj hsa hsb (hne (by omega) (by omega)) ha hb
    · exact cel10_any n p q sa sb i j w hn hi hj hsa hsb (hne (by omega) (by omega)) ha hb
    · exact cel11_any n p q sa sb i j w hn hi hj hsa hsb (hne (by omega) (by omega)) ha hb
    · exact celW_any n p q sa sb i j w
end Go.Proofs.Ytlihnipbdckmkaa
