/- A cell of a gate's matrix: the reference's l6Cell at kind 10. -/
import Derived.Test.YtlihnipbdckmkaaGmCep
import Derived.Deep.RegionHeld3
namespace Go.Proofs.Ytlihnipbdckmkaa
open Go.RowKit

set_option maxRecDepth 100000 in
set_option maxHeartbeats 2000000 in
theorem cel10_any (n p q sa sb i j : Nat) (w : World) (hn : n ≤ 5) (hi : i < 32) (hj : j < 32) (hsa : sa < 5) (hsb : sb < 5) (hne : sa ≠ sb) (ha : (n : Int) - 1 - (p : Int) = (sa : Int)) (hb : (n : Int) - 1 - (q : Int) = (sb : Int)) :
    Calls Try.prog 60 #[.int .i64 (n : Int), tv 10 (p : Int) (q : Int), .int .i64 (i : Int), .int .i64 (j : Int)] w fun e w' => e = .returned (dvD (gmD 10 sa sb i j)) ∧ Below w.heap.size w w' := by
  obtain ⟨X, hX⟩ : ∃ X, X = btq j sa := ⟨_, rfl⟩
  obtain ⟨Y, hY⟩ : ∃ Y, Y = btq j sb := ⟨_, rfl⟩
  have hto : gmD 10 sa sb i j = if i = j then (powQ (if X = 1 ∧ Y = 1 then 4 else 0), 0) else zeroD := (gmD_to (k := 10) (Or.inr (Or.inl rfl)) hi hj hsa hsb hne).trans (by rw [hX, hY, show comQ ((10 : Nat) : Int) j sa sb = j from com10 j sa sb]; simp)
  have C1 : Hid (∀ W, Calls Try.prog 73 #[.int .i64 (n : Int), .int .i64 (j : Int), .int .i64 (p : Int)] W fun e w' => e = .returned (.int .i64 (X : Int)) ∧ W = w') := fun W => by rw [hX]; exact l6Bit_any n j p sa W hn hsa hj ha
  have C2 : Hid (∀ W, Calls Try.prog 73 #[.int .i64 (n : Int), .int .i64 (j : Int), .int .i64 (q : Int)] W fun e w' => e = .returned (.int .i64 (Y : Int)) ∧ W = w') := fun W => by rw [hY]; exact l6Bit_any n j q sb W hn hsb hj hb
  clear hX hY hi hj hsa hsb hne ha hb hn
  by_cases hx : X = 1
  · subst hx
    by_cases hy : Y = 1
    · subst hy
      by_cases h : i = j
      · have Hr : Hid (dvD (gmD 10 sa sb i j) = dvD (powQ 4, 0)) := by show _ = _; rw [hto, if_pos h]; simp
        have hie : (i : Int) = (j : Int) := by omega
        clear hto h 
        go_enter Try.func60, Try.ntmps60
        go_wp2_with fail
        refine (pow0_any _).mono ?_
        rintro e w1 ⟨rfl, b1⟩
        have z1 := b1.size
        simp only [World.size_alloc] at z1
        have B1 : Below w.heap.size w w1 := Below.chain (Below.refl _ _) (by go_grown) b1 (by go_size)
        have HG := Lib.hid ((b1.block w.heap.size (by go_size)).trans ((Below.heap_alloc _ _ _ (by go_size)).trans (heap_top _ _ rfl)))
        have HZ := Lib.hid ((b1.block (w.heap.size + 1) (by go_size)).trans (heap_top _ _ (by simp)))
        have g0 : w1.cell? ⟨w.heap.size, 0, none⟩ = some (.int .i64 10) := cell_of_row w1 w.heap.size 0 _ _ _ HG.out
        have g1 : w1.cell? ⟨w.heap.size, 1, none⟩ = some (.int .i64 (p : Int)) := cell_of_row w1 w.heap.size 1 _ _ _ HG.out
        have y0 : w.heap.size < w1.heap.size := by omega
        have y1 : w.heap.size + 1 < w1.heap.size := by omega
        clear b1
        go_wp2_with fail
        generalize hW0 : (w1.alloc (.cells #[.int .i64 1, .int .i64 0, .int .i64 0, .int .i64 0, .int .i64 0] 60)).alloc (.cells #[.int .i64 0, .int .i64 0, .int .i64 0, .int .i64 0, .int .i64 0] 60) = W0
        have B0 : Below w.heap.size w W0 := by rw [← hW0]; clear hW0; go_grown
        have kG0 : W0.cell? ⟨w.heap.size, 0, none⟩ = some (.int .i64 10) := cell_of_row W0 w.heap.size 0 _ _ _ (by rw [← hW0]; exact (Below.heap_alloc _ _ _ (by go_size)).trans ((Below.heap_alloc _ _ _ (by go_size)).trans HG.out))
        have kG1 : W0.cell? ⟨w.heap.size, 1, none⟩ = some (.int .i64 (p : Int)) := cell_of_row W0 w.heap.size 1 _ _ _ (by rw [← hW0]; exact (Below.heap_alloc _ _ _ (by go_size)).trans ((Below.heap_alloc _ _ _ (by go_size)).trans HG.out))
        have kG2 : W0.cell? ⟨w.heap.size, 2, none⟩ = some (.int .i64 (q : Int)) := cell_of_row W0 w.heap.size 2 _ _ _ (by rw [← hW0]; exact (Below.heap_alloc _ _ _ (by go_size)).trans ((Below.heap_alloc _ _ _ (by go_size)).trans HG.out))
        have kZ := fun o => cell_of_row W0 (w.heap.size + 1) o _ _ _ (by rw [← hW0]; exact (Below.heap_alloc _ _ _ (by go_size)).trans ((Below.heap_alloc _ _ _ (by go_size)).trans HZ.out))
        have fZ := fun o => frozen_of_row W0 (w.heap.size + 1) o _ _ (by rw [← hW0]; exact (Below.heap_alloc _ _ _ (by go_size)).trans ((Below.heap_alloc _ _ _ (by go_size)).trans HZ.out))
        have kO := fun o => cell_of_row W0 w1.heap.size o _ _ _ (by rw [← hW0]; exact (Below.heap_alloc _ _ _ (by go_size)).trans (heap_top _ _ rfl))
        have fO := fun o => frozen_of_row W0 w1.heap.size o _ _ (by rw [← hW0]; exact (Below.heap_alloc _ _ _ (by go_size)).trans (heap_top _ _ rfl))
        have kN := fun o => cell_of_row W0 (w1.heap.size + 1) o _ _ _ (by rw [← hW0]; exact heap_top _ _ (by simp))
        have s0 : w1.heap.size < W0.heap.size := by rw [← hW0]; clear hW0; go_size
        have s1 : w1.heap.size + 1 < W0.heap.size := by rw [← hW0]; clear hW0; go_size
        have y2 : w.heap.size < W0.heap.size := by omega
        have y3 : w.heap.size + 1 < W0.heap.size := by omega
        have n1 : ¬ w.heap.size + 1 = w1.heap.size := by omega
        have n2 : ¬ w1.heap.size = w.heap.size + 1 := by omega
        clear hW0 g0 g1 HG HZ
        refine (C1.out _).mono ?_
        rintro e w' ⟨rfl, rfl⟩
        go_wp2_with fail
        refine (C2.out _).mono ?_
        rintro e w' ⟨rfl, rfl⟩
        go_wp2_with fail
        refine (powL4_any _).mono ?_
        rintro e w3 ⟨rfl, b3⟩
        obtain ⟨b3c, b3f⟩ := bcell b3
        have z3 := b3.size
        have B3 := B0.trans (b3.mono B0.size)
        have y4 : w.heap.size + 1 < w3.heap.size := by omega
        go_wp2
        rw [Hr.out]
        refine bodyPost_ret (by simp [results, Try.results60, go_sem, b3c, kZ, y3]) rfl ⟨rfl, ?_⟩
        go_grown
      · have Hr : Hid (dvD (gmD 10 sa sb i j) = dv 0 0 0 0 0) := by show _ = _; rw [hto, if_neg h]; rfl
        have hne' : ¬ (i : Int) = (j : Int) := by omega
        clear hto h 
        go_enter Try.func60, Try.ntmps60
        go_wp2_with fail
        refine (pow0_any _).mono ?_
        rintro e w1 ⟨rfl, b1⟩
        have z1 := b1.size
        simp only [World.size_alloc] at z1
        have B1 : Below w.heap.size w w1 := Below.chain (Below.refl _ _) (by go_grown) b1 (by go_size)
        have HG := Lib.hid ((b1.block w.heap.size (by go_size)).trans ((Below.heap_alloc _ _ _ (by go_size)).trans (heap_top _ _ rfl)))
        have HZ := Lib.hid ((b1.block (w.heap.size + 1) (by go_size)).trans (heap_top _ _ (by simp)))
        have g0 : w1.cell? ⟨w.heap.size, 0, none⟩ = some (.int .i64 10) := cell_of_row w1 w.heap.size 0 _ _ _ HG.out
        have g1 : w1.cell? ⟨w.heap.size, 1, none⟩ = some (.int .i64 (p : Int)) := cell_of_row w1 w.heap.size 1 _ _ _ HG.out
        have y0 : w.heap.size < w1.heap.size := by omega
        have y1 : w.heap.size + 1 < w1.heap.size := by omega
        clear b1
        go_wp2_with fail
        generalize hW0 : (w1.alloc (.cells #[.int .i64 1, .int .i64 0, .int .i64 0, .int .i64 0, .int .i64 0] 60)).alloc (.cells #[.int .i64 0, .int .i64 0, .int .i64 0, .int .i64 0, .int .i64 0] 60) = W0
        have B0 : Below w.heap.size w W0 := by rw [← hW0]; clear hW0; go_grown
        have kG0 : W0.cell? ⟨w.heap.size, 0, none⟩ = some (.int .i64 10) := cell_of_row W0 w.heap.size 0 _ _ _ (by rw [← hW0]; exact (Below.heap_alloc _ _ _ (by go_size)).trans ((Below.heap_alloc _ _ _ (by go_size)).trans HG.out))
        have kG1 : W0.cell? ⟨w.heap.size, 1, none⟩ = some (.int .i64 (p : Int)) := cell_of_row W0 w.heap.size 1 _ _ _ (by rw [← hW0]; exact (Below.heap_alloc _ _ _ (by go_size)).trans ((Below.heap_alloc _ _ _ (by go_size)).trans HG.out))
        have kG2 : W0.cell? ⟨w.heap.size, 2, none⟩ = some (.int .i64 (q : Int)) := cell_of_row W0 w.heap.size 2 _ _ _ (by rw [← hW0]; exact (Below.heap_alloc _ _ _ (by go_size)).trans ((Below.heap_alloc _ _ _ (by go_size)).trans HG.out))
        have kZ := fun o => cell_of_row W0 (w.heap.size + 1) o _ _ _ (by rw [← hW0]; exact (Below.heap_alloc _ _ _ (by go_size)).trans ((Below.heap_alloc _ _ _ (by go_size)).trans HZ.out))
        have fZ := fun o => frozen_of_row W0 (w.heap.size + 1) o _ _ (by rw [← hW0]; exact (Below.heap_alloc _ _ _ (by go_size)).trans ((Below.heap_alloc _ _ _ (by go_size)).trans HZ.out))
        have kO := fun o => cell_of_row W0 w1.heap.size o _ _ _ (by rw [← hW0]; exact (Below.heap_alloc _ _ _ (by go_size)).trans (heap_top _ _ rfl))
        have fO := fun o => frozen_of_row W0 w1.heap.size o _ _ (by rw [← hW0]; exact (Below.heap_alloc _ _ _ (by go_size)).trans (heap_top _ _ rfl))
        have kN := fun o => cell_of_row W0 (w1.heap.size + 1) o _ _ _ (by rw [← hW0]; exact heap_top _ _ (by simp))
        have s0 : w1.heap.size < W0.heap.size := by rw [← hW0]; clear hW0; go_size
        have s1 : w1.heap.size + 1 < W0.heap.size := by rw [← hW0]; clear hW0; go_size
        have y2 : w.heap.size < W0.heap.size := by omega
        have y3 : w.heap.size + 1 < W0.heap.size := by omega
        have n1 : ¬ w.heap.size + 1 = w1.heap.size := by omega
        have n2 : ¬ w1.heap.size = w.heap.size + 1 := by omega
        clear hW0 g0 g1 HG HZ
        refine (C1.out _).mono ?_
        rintro e w' ⟨rfl, rfl⟩
        go_wp2_with fail
        refine (C2.out _).mono ?_
        rintro e w' ⟨rfl, rfl⟩
        go_wp2_with fail
        refine (powL4_any _).mono ?_
        rintro e w3 ⟨rfl, b3⟩
        obtain ⟨b3c, b3f⟩ := bcell b3
        have z3 := b3.size
        have B3 := B0.trans (b3.mono B0.size)
        have y4 : w.heap.size + 1 < w3.heap.size := by omega
        go_wp2
        rw [Hr.out]
        refine bodyPost_ret (by simp [results, Try.results60, go_sem, b3c, kZ, y3]) rfl ⟨rfl, ?_⟩
        go_grown
    · have e4 : (if 1 = 1 ∧ Y = 1 then 4 else 0) = 0 := by simp [hy]
      rw [e4] at hto
      have hy' : ¬ (Y : Int) = 1 := by omega
      clear e4 hy
      by_cases h : i = j
      · have Hr : Hid (dvD (gmD 10 sa sb i j) = dv 1 0 0 0 0) := by show _ = _; rw [hto, if_pos h]; rfl
        have hie : (i : Int) = (j : Int) := by omega
        clear hto h 
        go_enter Try.func60, Try.ntmps60
        go_wp2_with fail
        refine (pow0_any _).mono ?_
        rintro e w1 ⟨rfl, b1⟩
        have z1 := b1.size
        simp only [World.size_alloc] at z1
        have B1 : Below w.heap.size w w1 := Below.chain (Below.refl _ _) (by go_grown) b1 (by go_size)
        have HG := Lib.hid ((b1.block w.heap.size (by go_size)).trans ((Below.heap_alloc _ _ _ (by go_size)).trans (heap_top _ _ rfl)))
        have HZ := Lib.hid ((b1.block (w.heap.size + 1) (by go_size)).trans (heap_top _ _ (by simp)))
        have g0 : w1.cell? ⟨w.heap.size, 0, none⟩ = some (.int .i64 10) := cell_of_row w1 w.heap.size 0 _ _ _ HG.out
        have g1 : w1.cell? ⟨w.heap.size, 1, none⟩ = some (.int .i64 (p : Int)) := cell_of_row w1 w.heap.size 1 _ _ _ HG.out
        have y0 : w.heap.size < w1.heap.size := by omega
        have y1 : w.heap.size + 1 < w1.heap.size := by omega
        clear b1
        go_wp2_with fail
        generalize hW0 : (w1.alloc (.cells #[.int .i64 1, .int .i64 0, .int .i64 0, .int .i64 0, .int .i64 0] 60)).alloc (.cells #[.int .i64 0, .int .i64 0, .int .i64 0, .int .i64 0, .int .i64 0] 60) = W0
        have B0 : Below w.heap.size w W0 := by rw [← hW0]; clear hW0; go_grown
        have kG0 : W0.cell? ⟨w.heap.size, 0, none⟩ = some (.int .i64 10) := cell_of_row W0 w.heap.size 0 _ _ _ (by rw [← hW0]; exact (Below.heap_alloc _ _ _ (by go_size)).trans ((Below.heap_alloc _ _ _ (by go_size)).trans HG.out))
        have kG1 : W0.cell? ⟨w.heap.size, 1, none⟩ = some (.int .i64 (p : Int)) := cell_of_row W0 w.heap.size 1 _ _ _ (by rw [← hW0]; exact (Below.heap_alloc _ _ _ (by go_size)).trans ((Below.heap_alloc _ _ _ (by go_size)).trans HG.out))
        have kG2 : W0.cell? ⟨w.heap.size, 2, none⟩ = some (.int .i64 (q : Int)) := cell_of_row W0 w.heap.size 2 _ _ _ (by rw [← hW0]; exact (Below.heap_alloc _ _ _ (by go_size)).trans ((Below.heap_alloc _ _ _ (by go_size)).trans HG.out))
        have kZ := fun o => cell_of_row W0 (w.heap.size + 1) o _ _ _ (by rw [← hW0]; exact (Below.heap_alloc _ _ _ (by go_size)).trans ((Below.heap_alloc _ _ _ (by go_size)).trans HZ.out))
        have fZ := fun o => frozen_of_row W0 (w.heap.size + 1) o _ _ (by rw [← hW0]; exact (Below.heap_alloc _ _ _ (by go_size)).trans ((Below.heap_alloc _ _ _ (by go_size)).trans HZ.out))
        have kO := fun o => cell_of_row W0 w1.heap.size o _ _ _ (by rw [← hW0]; exact (Below.heap_alloc _ _ _ (by go_size)).trans (heap_top _ _ rfl))
        have fO := fun o => frozen_of_row W0 w1.heap.size o _ _ (by rw [← hW0]; exact (Below.heap_alloc _ _ _ (by go_size)).trans (heap_top _ _ rfl))
        have kN := fun o => cell_of_row W0 (w1.heap.size + 1) o _ _ _ (by rw [← hW0]; exact heap_top _ _ (by simp))
        have s0 : w1.heap.size < W0.heap.size := by rw [← hW0]; clear hW0; go_size
        have s1 : w1.heap.size + 1 < W0.heap.size := by rw [← hW0]; clear hW0; go_size
        have y2 : w.heap.size < W0.heap.size := by omega
        have y3 : w.heap.size + 1 < W0.heap.size := by omega
        have n1 : ¬ w.heap.size + 1 = w1.heap.size := by omega
        have n2 : ¬ w1.heap.size = w.heap.size + 1 := by omega
        clear hW0 g0 g1 HG HZ
        refine (C1.out _).mono ?_
        rintro e w' ⟨rfl, rfl⟩
        go_wp2_with fail
        refine (C2.out _).mono ?_
        rintro e w' ⟨rfl, rfl⟩
        go_wp2
        rw [Hr.out]
        refine bodyPost_ret (by simp [results, Try.results60, go_sem, kZ]) rfl ⟨rfl, ?_⟩
        go_grown
      · have Hr : Hid (dvD (gmD 10 sa sb i j) = dv 0 0 0 0 0) := by show _ = _; rw [hto, if_neg h]; rfl
        have hne' : ¬ (i : Int) = (j : Int) := by omega
        clear hto h 
        go_enter Try.func60, Try.ntmps60
        go_wp2_with fail
        refine (pow0_any _).mono ?_
        rintro e w1 ⟨rfl, b1⟩
        have z1 := b1.size
        simp only [World.size_alloc] at z1
        have B1 : Below w.heap.size w w1 := Below.chain (Below.refl _ _) (by go_grown) b1 (by go_size)
        have HG := Lib.hid ((b1.block w.heap.size (by go_size)).trans ((Below.heap_alloc _ _ _ (by go_size)).trans (heap_top _ _ rfl)))
        have HZ := Lib.hid ((b1.block (w.heap.size + 1) (by go_size)).trans (heap_top _ _ (by simp)))
        have g0 : w1.cell? ⟨w.heap.size, 0, none⟩ = some (.int .i64 10) := cell_of_row w1 w.heap.size 0 _ _ _ HG.out
        have g1 : w1.cell? ⟨w.heap.size, 1, none⟩ = some (.int .i64 (p : Int)) := cell_of_row w1 w.heap.size 1 _ _ _ HG.out
        have y0 : w.heap.size < w1.heap.size := by omega
        have y1 : w.heap.size + 1 < w1.heap.size := by omega
        clear b1
        go_wp2_with fail
        generalize hW0 : (w1.alloc (.cells #[.int .i64 1, .int .i64 0, .int .i64 0, .int .i64 0, .int .i64 0] 60)).alloc (.cells #[.int .i64 0, .int .i64 0, .int .i64 0, .int .i64 0, .int .i64 0] 60) = W0
        have B0 : Below w.heap.size w W0 := by rw [← hW0]; clear hW0; go_grown
        have kG0 : W0.cell? ⟨w.heap.size, 0, none⟩ = some (.int .i64 10) := cell_of_row W0 w.heap.size 0 _ _ _ (by rw [← hW0]; exact (Below.heap_alloc _ _ _ (by go_size)).trans ((Below.heap_alloc _ _ _ (by go_size)).trans HG.out))
        have kG1 : W0.cell? ⟨w.heap.size, 1, none⟩ = some (.int .i64 (p : Int)) := cell_of_row W0 w.heap.size 1 _ _ _ (by rw [← hW0]; exact (Below.heap_alloc _ _ _ (by go_size)).trans ((Below.heap_alloc _ _ _ (by go_size)).trans HG.out))
        have kG2 : W0.cell? ⟨w.heap.size, 2, none⟩ = some (.int .i64 (q : Int)) := cell_of_row W0 w.heap.size 2 _ _ _ (by rw [← hW0]; exact (Below.heap_alloc _ _ _ (by go_size)).trans ((Below.heap_alloc _ _ _ (by go_size)).trans HG.out))
        have kZ := fun o => cell_of_row W0 (w.heap.size + 1) o _ _ _ (by rw [← hW0]; exact (Below.heap_alloc _ _ _ (by go_size)).trans ((Below.heap_alloc _ _ _ (by go_size)).trans HZ.out))
        have fZ := fun o => frozen_of_row W0 (w.heap.size + 1) o _ _ (by rw [← hW0]; exact (Below.heap_alloc _ _ _ (by go_size)).trans ((Below.heap_alloc _ _ _ (by go_size)).trans HZ.out))
        have kO := fun o => cell_of_row W0 w1.heap.size o _ _ _ (by rw [← hW0]; exact (Below.heap_alloc _ _ _ (by go_size)).trans (heap_top _ _ rfl))
        have fO := fun o => frozen_of_row W0 w1.heap.size o _ _ (by rw [← hW0]; exact (Below.heap_alloc _ _ _ (by go_size)).trans (heap_top _ _ rfl))
        have kN := fun o => cell_of_row W0 (w1.heap.size + 1) o _ _ _ (by rw [← hW0]; exact heap_top _ _ (by simp))
        have s0 : w1.heap.size < W0.heap.size := by rw [← hW0]; clear hW0; go_size
        have s1 : w1.heap.size + 1 < W0.heap.size := by rw [← hW0]; clear hW0; go_size
        have y2 : w.heap.size < W0.heap.size := by omega
        have y3 : w.heap.size + 1 < W0.heap.size := by omega
        have n1 : ¬ w.heap.size + 1 = w1.heap.size := by omega
        have n2 : ¬ w1.heap.size = w.heap.size + 1 := by omega
        clear hW0 g0 g1 HG HZ
        refine (C1.out _).mono ?_
        rintro e w' ⟨rfl, rfl⟩
        go_wp2_with fail
        refine (C2.out _).mono ?_
        rintro e w' ⟨rfl, rfl⟩
        go_wp2
        rw [Hr.out]
        refine bodyPost_ret (by simp [results, Try.results60, go_sem, kZ]) rfl ⟨rfl, ?_⟩
        go_grown
  · have e4 : (if X = 1 ∧ Y = 1 then 4 else 0) = 0 := by simp [hx]
    rw [e4] at hto
    have hx' : ¬ (X : Int) = 1 := by omega
    clear e4 hx
    by_cases h : i = j
    · have Hr : Hid (dvD (gmD 10 sa sb i j) = dv 1 0 0 0 0) := by show _ = _; rw [hto, if_pos h]; rfl
      have hie : (i : Int) = (j : Int) := by omega
      clear hto h 
      go_enter Try.func60, Try.ntmps60
      go_wp2_with fail
      refine (pow0_any _).mono ?_
      rintro e w1 ⟨rfl, b1⟩
      have z1 := b1.size
      simp only [World.size_alloc] at z1
      have B1 : Below w.heap.size w w1 := Below.chain (Below.refl _ _) (by go_grown) b1 (by go_size)
      have HG := Lib.hid ((b1.block w.heap.size (by go_size)).trans ((Below.heap_alloc _ _ _ (by go_size)).trans (heap_top _ _ rfl)))
      have HZ := Lib.hid ((b1.block (w.heap.size + 1) (by go_size)).trans (heap_top _ _ (by simp)))
      have g0 : w1.cell? ⟨w.heap.size, 0, none⟩ = some (.int .i64 10) := cell_of_row w1 w.heap.size 0 _ _ _ HG.out
      have g1 : w1.cell? ⟨w.heap.size, 1, none⟩ = some (.int .i64 (p : Int)) := cell_of_row w1 w.heap.size 1 _ _ _ HG.out
      have y0 : w.heap.size < w1.heap.size := by omega
      have y1 : w.heap.size + 1 < w1.heap.size := by omega
      clear b1
      go_wp2_with fail
      generalize hW0 : (w1.alloc (.cells #[.int .i64 1, .int .i64 0, .int .i64 0, .int .i64 0, .int .i64 0] 60)).alloc (.cells #[.int .i64 0, .int .i64 0, .int .i64 0, .int .i64 0, .int .i64 0] 60) = W0
      have B0 : Below w.heap.size w W0 := by rw [← hW0]; clear hW0; go_grown
      have kG0 : W0.cell? ⟨w.heap.size, 0, none⟩ = some (.int .i64 10) := cell_of_row W0 w.heap.size 0 _ _ _ (by rw [← hW0]; exact (Below.heap_alloc _ _ _ (by go_size)).trans ((Below.heap_alloc _ _ _ (by go_size)).trans HG.out))
      have kG1 : W0.cell? ⟨w.heap.size, 1, none⟩ = some (.int .i64 (p : Int)) := cell_of_row W0 w.heap.size 1 _ _ _ (by rw [← hW0]; exact (Below.heap_alloc _ _ _ (by go_size)).trans ((Below.heap_alloc _ _ _ (by go_size)).trans HG.out))
      have kG2 : W0.cell? ⟨w.heap.size, 2, none⟩ = some (.int .i64 (q : Int)) := cell_of_row W0 w.heap.size 2 _ _ _ (by rw [← hW0]; exact (Below.heap_alloc _ _ _ (by go_size)).trans ((Below.heap_alloc _ _ _ (by go_size)).trans HG.out))
      have kZ := fun o => cell_of_row W0 (w.heap.size + 1) o _ _ _ (by rw [← hW0]; exact (Below.heap_alloc _ _ _ (by go_size)).trans ((Below.heap_alloc _ _ _ (by go_size)).trans HZ.out))
      have fZ := fun o => frozen_of_row W0 (w.heap.size + 1) o _ _ (by rw [← hW0]; exact (Below.heap_alloc _ _ _ (by go_size)).trans ((Below.heap_alloc _ _ _ (by go_size)).trans HZ.out))
      have kO := fun o => cell_of_row W0 w1.heap.size o _ _ _ (by rw [← hW0]; exact (Below.heap_alloc _ _ _ (by go_size)).trans (heap_top _ _ rfl))
      have fO := fun o => frozen_of_row W0 w1.heap.size o _ _ (by rw [← hW0]; exact (Below.heap_alloc _ _ _ (by go_size)).trans (heap_top _ _ rfl))
      have kN := fun o => cell_of_row W0 (w1.heap.size + 1) o _ _ _ (by rw [← hW0]; exact heap_top _ _ (by simp))
      have s0 : w1.heap.size < W0.heap.size := by rw [← hW0]; clear hW0; go_size
      have s1 : w1.heap.size + 1 < W0.heap.size := by rw [← hW0]; clear hW0; go_size
      have y2 : w.heap.size < W0.heap.size := by omega
      have y3 : w.heap.size + 1 < W0.heap.size := by omega
      have n1 : ¬ w.heap.size + 1 = w1.heap.size := by omega
      have n2 : ¬ w1.heap.size = w.heap.size + 1 := by omega
      clear hW0 g0 g1 HG HZ
      refine (C1.out _).mono ?_
      rintro e w' ⟨rfl, rfl⟩
      go_wp2
      rw [Hr.out]
      refine bodyPost_ret (by simp [results, Try.results60, go_sem, kZ]) rfl ⟨rfl, ?_⟩
      go_grown
    · have Hr : Hid (dvD (gmD 10 sa sb i j) = dv 0 0 0 0 0) := by show _ = _; rw [hto, if_neg h]; rfl
      have hne' : ¬ (i : Int) = (j : Int) := by omega
      clear hto h 
      go_enter Try.func60, Try.ntmps60
      go_wp2_with fail
      refine (pow0_any _).mono ?_
      rintro e w1 ⟨rfl, b1⟩
      have z1 := b1.size
      simp only [World.size_alloc] at z1
      have B1 : Below w.heap.size w w1 := Below.chain (Below.refl _ _) (by go_grown) b1 (by go_size)
      have HG := Lib.hid ((b1.block w.heap.size (by go_size)).trans ((Below.heap_alloc _ _ _ (by go_size)).trans (heap_top _ _ rfl)))
      have HZ := Lib.hid ((b1.block (w.heap.size + 1) (by go_size)).trans (heap_top _ _ (by simp)))
      have g0 : w1.cell? ⟨w.heap.size, 0, none⟩ = some (.int .i64 10) := cell_of_row w1 w.heap.size 0 _ _ _ HG.out
      have g1 : w1.cell? ⟨w.heap.size, 1, none⟩ = some (.int .i64 (p : Int)) := cell_of_row w1 w.heap.size 1 _ _ _ HG.out
      have y0 : w.heap.size < w1.heap.size := by omega
      have y1 : w.heap.size + 1 < w1.heap.size := by omega
      clear b1
      go_wp2_with fail
      generalize hW0 : (w1.alloc (.cells #[.int .i64 1, .int .i64 0, .int .i64 0, .int .i64 0, .int .i64 0] 60)).alloc (.cells #[.int .i64 0, .int .i64 0, .int .i64 0, .int .i64 0, .int .i64 0] 60) = W0
      have B0 : Below w.heap.size w W0 := by rw [← hW0]; clear hW0; go_grown
      have kG0 : W0.cell? ⟨w.heap.size, 0, none⟩ = some (.int .i64 10) := cell_of_row W0 w.heap.size 0 _ _ _ (by rw [← hW0]; exact (Below.heap_alloc _ _ _ (by go_size)).trans ((Below.heap_alloc _ _ _ (by go_size)).trans HG.out))
      have kG1 : W0.cell? ⟨w.heap.size, 1, none⟩ = some (.int .i64 (p : Int)) := cell_of_row W0 w.heap.size 1 _ _ _ (by rw [← hW0]; exact (Below.heap_alloc _ _ _ (by go_size)).trans ((Below.heap_alloc _ _ _ (by go_size)).trans HG.out))
      have kG2 : W0.cell? ⟨w.heap.size, 2, none⟩ = some (.int .i64 (q : Int)) := cell_of_row W0 w.heap.size 2 _ _ _ (by rw [← hW0]; exact (Below.heap_alloc _ _ _ (by go_size)).trans ((Below.heap_alloc _ _ _ (by go_size)).trans HG.out))
      have kZ := fun o => cell_of_row W0 (w.heap.size + 1) o _ _ _ (by rw [← hW0]; exact (Below.heap_alloc _ _ _ (by go_size)).trans ((Below.heap_alloc _ _ _ (by go_size)).trans HZ.out))
      have fZ := fun o => frozen_of_row W0 (w.heap.size + 1) o _ _ (by rw [← hW0]; exact (Below.heap_alloc _ _ _ (by go_size)).trans ((Below.heap_alloc _ _ _ (by go_size)).trans HZ.out))
      have kO := fun o => cell_of_row W0 w1.heap.size o _ _ _ (by rw [← hW0]; exact (Below.heap_alloc _ _ _ (by go_size)).trans (heap_top _ _ rfl))
      have fO := fun o => frozen_of_row W0 w1.heap.size o _ _ (by rw [← hW0]; exact (Below.heap_alloc _ _ _ (by go_size)).trans (heap_top _ _ rfl))
      have kN := fun o => cell_of_row W0 (w1.heap.size + 1) o _ _ _ (by rw [← hW0]; exact heap_top _ _ (by simp))
      have s0 : w1.heap.size < W0.heap.size := by rw [← hW0]; clear hW0; go_size
      have s1 : w1.heap.size + 1 < W0.heap.size := by rw [← hW0]; clear hW0; go_size
      have y2 : w.heap.size < W0.heap.size := by omega
      have y3 : w.heap.size + 1 < W0.heap.size := by omega
      have n1 : ¬ w.heap.size + 1 = w1.heap.size := by omega
      have n2 : ¬ w1.heap.size = w.heap.size + 1 := by omega
      clear hW0 g0 g1 HG HZ
      refine (C1.out _).mono ?_
      rintro e w' ⟨rfl, rfl⟩
      go_wp2
      rw [Hr.out]
      refine bodyPost_ret (by simp [results, Try.results60, go_sem, kZ]) rfl ⟨rfl, ?_⟩
      go_grown
end Go.Proofs.Ytlihnipbdckmkaa
