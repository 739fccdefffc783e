/- A cell of a gate's matrix: the reference's l6Cell at kind 11. -/
import Derived.Test.YtlihnipbdckmkaaGmCep
import Derived.Deep.RegionHeld3
namespace Go.Proofs.Ytlihnipbdckmkaa
open Go.RowKit

set_option maxRecDepth 100000 in
set_option maxHeartbeats 2000000 in
theorem cel11_any (n p q sa sb i j : Nat) (w : World) (hn : n ≤ 5) (hi : i < 32) (hj : j < 32) (hsa : sa < 5) (hsb : sb < 5) (hne : sa ≠ sb) (ha : (n : Int) - 1 - (p : Int) = (sa : Int)) (hb : (n : Int) - 1 - (q : Int) = (sb : Int)) :
    Calls Try.prog 60 #[.int .i64 (n : Int), tv 11 (p : Int) (q : Int), .int .i64 (i : Int), .int .i64 (j : Int)] w fun e w' => e = .returned (dvD (gmD 11 sa sb i j)) ∧ Below w.heap.size w w' := by
  have hto : gmD 11 sa sb i j = if i = comQ 11 j sa sb then (powQ 0, 0) else zeroD := (gmD_to (k := 11) (Or.inr (Or.inr rfl)) hi hj hsa hsb hne).trans (by simp)
  obtain ⟨X, hX⟩ : ∃ X, X = btq j sa := ⟨_, rfl⟩
  obtain ⟨Y, hY⟩ : ∃ Y, Y = btq j sb := ⟨_, rfl⟩
  obtain ⟨G, hG⟩ : ∃ G, G = flq j sa := ⟨_, rfl⟩
  obtain ⟨F, hF⟩ : ∃ F, F = flq G sb := ⟨_, rfl⟩
  have C1 : Hid (∀ W, Calls Try.prog 73 #[.int .i64 (n : Int), .int .i64 (j : Int), .int .i64 (p : Int)] W fun e w' => e = .returned (.int .i64 (X : Int)) ∧ Below W.heap.size W w') := fun W => by rw [hX]; exact (l6Bit_any n j p sa W hn hsa hj ha).mono (by rintro e w' ⟨h, rfl⟩; exact ⟨h, Below.refl _ _⟩)
  have C2 : Hid (∀ W, Calls Try.prog 73 #[.int .i64 (n : Int), .int .i64 (j : Int), .int .i64 (q : Int)] W fun e w' => e = .returned (.int .i64 (Y : Int)) ∧ Below W.heap.size W w') := fun W => by rw [hY]; exact (l6Bit_any n j q sb W hn hsb hj hb).mono (by rintro e w' ⟨h, rfl⟩; exact ⟨h, Below.refl _ _⟩)
  have hxor : bits .xor .i64 (j : Int) (RowKit.wrap64 (2 ^ sa)) = (G : Int) := by rw [hG]; exact xor_at ⟨j, hj⟩ ⟨sa, hsa⟩
  have hxor2 : bits .xor .i64 (G : Int) (RowKit.wrap64 (2 ^ sb)) = (F : Int) := by rw [hF]; exact xor_at ⟨G, by rw [hG]; exact flq_lt ⟨j, hj⟩ ⟨sa, hsa⟩⟩ ⟨sb, hsb⟩
  by_cases hx : X = Y
  · have ht : comQ 11 j sa sb = j := by simp [comQ, ← hX, ← hY, hx]
    rw [ht] at hto
    have hxb : ((X : Int) == (Y : Int)) = true := by simp [hx]
    have hxn : ((X : Int) != (Y : Int)) = false := by simp [hx]
    clear ht hF hG hX hY hi hj hsa hsb hne ha hb hn hx hxor hxor2
    by_cases h : i = j
    · have Hr : Hid (dvD (gmD 11 sa sb i j) = dv 1 0 0 0 0) := by show _ = _; rw [hto, if_pos h]; rfl
      have hie : (i : Int) = (j : Int) := by omega
      clear hto h 
      go_enter Try.func60, Try.ntmps60
      go_wp2_with fail
      refine (pow0_any _).mono ?_
      rintro e w1 ⟨rfl, b1⟩
      have z1 := b1.size
      simp only [World.size_alloc] at z1
      have B1 : Below w.heap.size w w1 := Below.chain (Below.refl _ _) (by go_grown) b1 (by go_size)
      have HG := Lib.hid ((b1.block w.heap.size (by go_size)).trans ((Below.heap_alloc _ _ _ (by go_size)).trans (heap_top _ _ rfl)))
      have HZ := Lib.hid ((b1.block (w.heap.size + 1) (by go_size)).trans (heap_top _ _ (by simp)))
      have g0 : w1.cell? ⟨w.heap.size, 0, none⟩ = some (.int .i64 11) := cell_of_row w1 w.heap.size 0 _ _ _ HG.out
      have g1 : w1.cell? ⟨w.heap.size, 1, none⟩ = some (.int .i64 (p : Int)) := cell_of_row w1 w.heap.size 1 _ _ _ HG.out
      have y0 : w.heap.size < w1.heap.size := by omega
      have y1 : w.heap.size + 1 < w1.heap.size := by omega
      clear b1
      go_wp2_with fail
      generalize hW0 : (w1.alloc (.cells #[.int .i64 1, .int .i64 0, .int .i64 0, .int .i64 0, .int .i64 0] 60)).alloc (.cells #[.int .i64 0, .int .i64 0, .int .i64 0, .int .i64 0, .int .i64 0] 60) = W0
      have B0 : Below w.heap.size w W0 := by rw [← hW0]; clear hW0; go_grown
      have kG0 : W0.cell? ⟨w.heap.size, 0, none⟩ = some (.int .i64 11) := cell_of_row W0 w.heap.size 0 _ _ _ (by rw [← hW0]; exact (Below.heap_alloc _ _ _ (by go_size)).trans ((Below.heap_alloc _ _ _ (by go_size)).trans HG.out))
      have kG1 : W0.cell? ⟨w.heap.size, 1, none⟩ = some (.int .i64 (p : Int)) := cell_of_row W0 w.heap.size 1 _ _ _ (by rw [← hW0]; exact (Below.heap_alloc _ _ _ (by go_size)).trans ((Below.heap_alloc _ _ _ (by go_size)).trans HG.out))
      have kG2 : W0.cell? ⟨w.heap.size, 2, none⟩ = some (.int .i64 (q : Int)) := cell_of_row W0 w.heap.size 2 _ _ _ (by rw [← hW0]; exact (Below.heap_alloc _ _ _ (by go_size)).trans ((Below.heap_alloc _ _ _ (by go_size)).trans HG.out))
      have kZ := fun o => cell_of_row W0 (w.heap.size + 1) o _ _ _ (by rw [← hW0]; exact (Below.heap_alloc _ _ _ (by go_size)).trans ((Below.heap_alloc _ _ _ (by go_size)).trans HZ.out))
      have fZ := fun o => frozen_of_row W0 (w.heap.size + 1) o _ _ (by rw [← hW0]; exact (Below.heap_alloc _ _ _ (by go_size)).trans ((Below.heap_alloc _ _ _ (by go_size)).trans HZ.out))
      have kO := fun o => cell_of_row W0 w1.heap.size o _ _ _ (by rw [← hW0]; exact (Below.heap_alloc _ _ _ (by go_size)).trans (heap_top _ _ rfl))
      have fO := fun o => frozen_of_row W0 w1.heap.size o _ _ (by rw [← hW0]; exact (Below.heap_alloc _ _ _ (by go_size)).trans (heap_top _ _ rfl))
      have kN := fun o => cell_of_row W0 (w1.heap.size + 1) o _ _ _ (by rw [← hW0]; exact heap_top _ _ (by simp))
      have s0 : w1.heap.size < W0.heap.size := by rw [← hW0]; clear hW0; go_size
      have s1 : w1.heap.size + 1 < W0.heap.size := by rw [← hW0]; clear hW0; go_size
      have y2 : w.heap.size < W0.heap.size := by omega
      have y3 : w.heap.size + 1 < W0.heap.size := by omega
      have n1 : ¬ w.heap.size + 1 = w1.heap.size := by omega
      have n2 : ¬ w1.heap.size = w.heap.size + 1 := by omega
      clear hW0 g0 g1 HG HZ
      go_region_held3 (fun w' => (∀ b o, b < W0.heap.size → w'.cell? ⟨b, o, none⟩ = W0.cell? ⟨b, o, none⟩) ∧ Below W0.heap.size W0 w') ((refine SB_mk ?_; go_grown)) (first | (go_at_call 73; with_reducible refine (C1.out _).mono ?_; rintro e wA ⟨rfl, bA⟩; obtain ⟨bAc, bAf⟩ := bcell bA; (try with_reducible have yA := lt_size bA); (try with_reducible have yA := lt_sizeD bA); (try with_reducible have yB := Nat.lt_of_lt_of_le (by assumption) bA.size); have sA := (SB_step (W := W0) (by with_reducible assumption) bA).2; have zA := sA.size) | (go_at_call 73; with_reducible refine (C2.out _).mono ?_; rintro e wA ⟨rfl, bA⟩; obtain ⟨bAc, bAf⟩ := bcell bA; (try with_reducible have yA := lt_size bA); (try with_reducible have yA := lt_sizeD bA); (try with_reducible have yB := Nat.lt_of_lt_of_le (by assumption) bA.size); have sA := (SB_step (W := W0) (by with_reducible assumption) bA).2; have zA := sA.size))
      all_goals
        clear bA bAc bAf
        obtain ⟨cA, gA⟩ := bcell sA
        have B9 : Below w.heap.size w wA := B0.trans (sA.mono B0.size)
        have y9 : w.heap.size + 1 < wA.heap.size := Nat.lt_of_lt_of_le y3 sA.size
        go_wp2
        rw [Hr.out]
        refine bodyPost_ret (by simp [results, Try.results60, go_sem, cA, kZ, y3]) rfl ⟨rfl, ?_⟩
        go_grown
    · have Hr : Hid (dvD (gmD 11 sa sb i j) = dv 0 0 0 0 0) := by show _ = _; rw [hto, if_neg h]; rfl
      have hne' : ¬ (i : Int) = (j : Int) := by omega
      clear hto h 
      go_enter Try.func60, Try.ntmps60
      go_wp2_with fail
      refine (pow0_any _).mono ?_
      rintro e w1 ⟨rfl, b1⟩
      have z1 := b1.size
      simp only [World.size_alloc] at z1
      have B1 : Below w.heap.size w w1 := Below.chain (Below.refl _ _) (by go_grown) b1 (by go_size)
      have HG := Lib.hid ((b1.block w.heap.size (by go_size)).trans ((Below.heap_alloc _ _ _ (by go_size)).trans (heap_top _ _ rfl)))
      have HZ := Lib.hid ((b1.block (w.heap.size + 1) (by go_size)).trans (heap_top _ _ (by simp)))
      have g0 : w1.cell? ⟨w.heap.size, 0, none⟩ = some (.int .i64 11) := cell_of_row w1 w.heap.size 0 _ _ _ HG.out
      have g1 : w1.cell? ⟨w.heap.size, 1, none⟩ = some (.int .i64 (p : Int)) := cell_of_row w1 w.heap.size 1 _ _ _ HG.out
      have y0 : w.heap.size < w1.heap.size := by omega
      have y1 : w.heap.size + 1 < w1.heap.size := by omega
      clear b1
      go_wp2_with fail
      generalize hW0 : (w1.alloc (.cells #[.int .i64 1, .int .i64 0, .int .i64 0, .int .i64 0, .int .i64 0] 60)).alloc (.cells #[.int .i64 0, .int .i64 0, .int .i64 0, .int .i64 0, .int .i64 0] 60) = W0
      have B0 : Below w.heap.size w W0 := by rw [← hW0]; clear hW0; go_grown
      have kG0 : W0.cell? ⟨w.heap.size, 0, none⟩ = some (.int .i64 11) := cell_of_row W0 w.heap.size 0 _ _ _ (by rw [← hW0]; exact (Below.heap_alloc _ _ _ (by go_size)).trans ((Below.heap_alloc _ _ _ (by go_size)).trans HG.out))
      have kG1 : W0.cell? ⟨w.heap.size, 1, none⟩ = some (.int .i64 (p : Int)) := cell_of_row W0 w.heap.size 1 _ _ _ (by rw [← hW0]; exact (Below.heap_alloc _ _ _ (by go_size)).trans ((Below.heap_alloc _ _ _ (by go_size)).trans HG.out))
      have kG2 : W0.cell? ⟨w.heap.size, 2, none⟩ = some (.int .i64 (q : Int)) := cell_of_row W0 w.heap.size 2 _ _ _ (by rw [← hW0]; exact (Below.heap_alloc _ _ _ (by go_size)).trans ((Below.heap_alloc _ _ _ (by go_size)).trans HG.out))
      have kZ := fun o => cell_of_row W0 (w.heap.size + 1) o _ _ _ (by rw [← hW0]; exact (Below.heap_alloc _ _ _ (by go_size)).trans ((Below.heap_alloc _ _ _ (by go_size)).trans HZ.out))
      have fZ := fun o => frozen_of_row W0 (w.heap.size + 1) o _ _ (by rw [← hW0]; exact (Below.heap_alloc _ _ _ (by go_size)).trans ((Below.heap_alloc _ _ _ (by go_size)).trans HZ.out))
      have kO := fun o => cell_of_row W0 w1.heap.size o _ _ _ (by rw [← hW0]; exact (Below.heap_alloc _ _ _ (by go_size)).trans (heap_top _ _ rfl))
      have fO := fun o => frozen_of_row W0 w1.heap.size o _ _ (by rw [← hW0]; exact (Below.heap_alloc _ _ _ (by go_size)).trans (heap_top _ _ rfl))
      have kN := fun o => cell_of_row W0 (w1.heap.size + 1) o _ _ _ (by rw [← hW0]; exact heap_top _ _ (by simp))
      have s0 : w1.heap.size < W0.heap.size := by rw [← hW0]; clear hW0; go_size
      have s1 : w1.heap.size + 1 < W0.heap.size := by rw [← hW0]; clear hW0; go_size
      have y2 : w.heap.size < W0.heap.size := by omega
      have y3 : w.heap.size + 1 < W0.heap.size := by omega
      have n1 : ¬ w.heap.size + 1 = w1.heap.size := by omega
      have n2 : ¬ w1.heap.size = w.heap.size + 1 := by omega
      clear hW0 g0 g1 HG HZ
      go_region_held3 (fun w' => (∀ b o, b < W0.heap.size → w'.cell? ⟨b, o, none⟩ = W0.cell? ⟨b, o, none⟩) ∧ Below W0.heap.size W0 w') ((refine SB_mk ?_; go_grown)) (first | (go_at_call 73; with_reducible refine (C1.out _).mono ?_; rintro e wA ⟨rfl, bA⟩; obtain ⟨bAc, bAf⟩ := bcell bA; (try with_reducible have yA := lt_size bA); (try with_reducible have yA := lt_sizeD bA); (try with_reducible have yB := Nat.lt_of_lt_of_le (by assumption) bA.size); have sA := (SB_step (W := W0) (by with_reducible assumption) bA).2; have zA := sA.size) | (go_at_call 73; with_reducible refine (C2.out _).mono ?_; rintro e wA ⟨rfl, bA⟩; obtain ⟨bAc, bAf⟩ := bcell bA; (try with_reducible have yA := lt_size bA); (try with_reducible have yA := lt_sizeD bA); (try with_reducible have yB := Nat.lt_of_lt_of_le (by assumption) bA.size); have sA := (SB_step (W := W0) (by with_reducible assumption) bA).2; have zA := sA.size))
      all_goals
        clear bA bAc bAf
        obtain ⟨cA, gA⟩ := bcell sA
        have B9 : Below w.heap.size w wA := B0.trans (sA.mono B0.size)
        have y9 : w.heap.size + 1 < wA.heap.size := Nat.lt_of_lt_of_le y3 sA.size
        go_wp2
        rw [Hr.out]
        refine bodyPost_ret (by simp [results, Try.results60, go_sem, cA, kZ, y3]) rfl ⟨rfl, ?_⟩
        go_grown
  · have ht : comQ 11 j sa sb = F := by rw [hF, hG]; simp [comQ, ← hX, ← hY, hx]
    rw [ht] at hto
    have hxi : (X : Int) ≠ (Y : Int) := fun e => hx (by omega)
    have hxb : ((X : Int) == (Y : Int)) = false := beq_eq_false_iff_ne.2 hxi
    have hxn : ((X : Int) != (Y : Int)) = true := bne_iff_ne.2 hxi
    clear ht hF hG hX hY hi hj hne hx hxi
    by_cases h : i = F
    · have Hr : Hid (dvD (gmD 11 sa sb i j) = dv 1 0 0 0 0) := by show _ = _; rw [hto, if_pos h]; rfl
      have hie : (i : Int) = (F : Int) := by omega
      clear hto h 
      go_enter Try.func60, Try.ntmps60
      go_wp2_with fail
      refine (pow0_any _).mono ?_
      rintro e w1 ⟨rfl, b1⟩
      have z1 := b1.size
      simp only [World.size_alloc] at z1
      have B1 : Below w.heap.size w w1 := Below.chain (Below.refl _ _) (by go_grown) b1 (by go_size)
      have HG := Lib.hid ((b1.block w.heap.size (by go_size)).trans ((Below.heap_alloc _ _ _ (by go_size)).trans (heap_top _ _ rfl)))
      have HZ := Lib.hid ((b1.block (w.heap.size + 1) (by go_size)).trans (heap_top _ _ (by simp)))
      have g0 : w1.cell? ⟨w.heap.size, 0, none⟩ = some (.int .i64 11) := cell_of_row w1 w.heap.size 0 _ _ _ HG.out
      have g1 : w1.cell? ⟨w.heap.size, 1, none⟩ = some (.int .i64 (p : Int)) := cell_of_row w1 w.heap.size 1 _ _ _ HG.out
      have y0 : w.heap.size < w1.heap.size := by omega
      have y1 : w.heap.size + 1 < w1.heap.size := by omega
      clear b1
      go_wp2_with fail
      generalize hW0 : (w1.alloc (.cells #[.int .i64 1, .int .i64 0, .int .i64 0, .int .i64 0, .int .i64 0] 60)).alloc (.cells #[.int .i64 0, .int .i64 0, .int .i64 0, .int .i64 0, .int .i64 0] 60) = W0
      have B0 : Below w.heap.size w W0 := by rw [← hW0]; clear hW0; go_grown
      have kG0 : W0.cell? ⟨w.heap.size, 0, none⟩ = some (.int .i64 11) := cell_of_row W0 w.heap.size 0 _ _ _ (by rw [← hW0]; exact (Below.heap_alloc _ _ _ (by go_size)).trans ((Below.heap_alloc _ _ _ (by go_size)).trans HG.out))
      have kG1 : W0.cell? ⟨w.heap.size, 1, none⟩ = some (.int .i64 (p : Int)) := cell_of_row W0 w.heap.size 1 _ _ _ (by rw [← hW0]; exact (Below.heap_alloc _ _ _ (by go_size)).trans ((Below.heap_alloc _ _ _ (by go_size)).trans HG.out))
      have kG2 : W0.cell? ⟨w.heap.size, 2, none⟩ = some (.int .i64 (q : Int)) := cell_of_row W0 w.heap.size 2 _ _ _ (by rw [← hW0]; exact (Below.heap_alloc _ _ _ (by go_size)).trans ((Below.heap_alloc _ _ _ (by go_size)).trans HG.out))
      have kZ := fun o => cell_of_row W0 (w.heap.size + 1) o _ _ _ (by rw [← hW0]; exact (Below.heap_alloc _ _ _ (by go_size)).trans ((Below.heap_alloc _ _ _ (by go_size)).trans HZ.out))
      have fZ := fun o => frozen_of_row W0 (w.heap.size + 1) o _ _ (by rw [← hW0]; exact (Below.heap_alloc _ _ _ (by go_size)).trans ((Below.heap_alloc _ _ _ (by go_size)).trans HZ.out))
      have kO := fun o => cell_of_row W0 w1.heap.size o _ _ _ (by rw [← hW0]; exact (Below.heap_alloc _ _ _ (by go_size)).trans (heap_top _ _ rfl))
      have fO := fun o => frozen_of_row W0 w1.heap.size o _ _ (by rw [← hW0]; exact (Below.heap_alloc _ _ _ (by go_size)).trans (heap_top _ _ rfl))
      have kN := fun o => cell_of_row W0 (w1.heap.size + 1) o _ _ _ (by rw [← hW0]; exact heap_top _ _ (by simp))
      have s0 : w1.heap.size < W0.heap.size := by rw [← hW0]; clear hW0; go_size
      have s1 : w1.heap.size + 1 < W0.heap.size := by rw [← hW0]; clear hW0; go_size
      have y2 : w.heap.size < W0.heap.size := by omega
      have y3 : w.heap.size + 1 < W0.heap.size := by omega
      have n1 : ¬ w.heap.size + 1 = w1.heap.size := by omega
      have n2 : ¬ w1.heap.size = w.heap.size + 1 := by omega
      clear hW0 g0 g1 HG HZ
      go_region_held3 (fun w' => (∀ b o, b < W0.heap.size → w'.cell? ⟨b, o, none⟩ = W0.cell? ⟨b, o, none⟩) ∧ Below W0.heap.size W0 w') ((refine SB_mk ?_; go_grown)) (first | (go_at_call 73; with_reducible refine (C1.out _).mono ?_; rintro e wA ⟨rfl, bA⟩; obtain ⟨bAc, bAf⟩ := bcell bA; (try with_reducible have yA := lt_size bA); (try with_reducible have yA := lt_sizeD bA); (try with_reducible have yB := Nat.lt_of_lt_of_le (by assumption) bA.size); have sA := (SB_step (W := W0) (by with_reducible assumption) bA).2; have zA := sA.size) | (go_at_call 73; with_reducible refine (C2.out _).mono ?_; rintro e wA ⟨rfl, bA⟩; obtain ⟨bAc, bAf⟩ := bcell bA; (try with_reducible have yA := lt_size bA); (try with_reducible have yA := lt_sizeD bA); (try with_reducible have yB := Nat.lt_of_lt_of_le (by assumption) bA.size); have sA := (SB_step (W := W0) (by with_reducible assumption) bA).2; have zA := sA.size))
      all_goals
        clear bA bAc bAf
        obtain ⟨cA, gA⟩ := bcell sA
        have B9 : Below w.heap.size w wA := B0.trans (sA.mono B0.size)
        have y9 : w.heap.size + 1 < wA.heap.size := Nat.lt_of_lt_of_le y3 sA.size
        go_wp2
        rw [Hr.out]
        refine bodyPost_ret (by simp [results, Try.results60, go_sem, cA, kZ, y3]) rfl ⟨rfl, ?_⟩
        go_grown
    · have Hr : Hid (dvD (gmD 11 sa sb i j) = dv 0 0 0 0 0) := by show _ = _; rw [hto, if_neg h]; rfl
      have hne' : ¬ (i : Int) = (F : Int) := by omega
      clear hto h 
      go_enter Try.func60, Try.ntmps60
      go_wp2_with fail
      refine (pow0_any _).mono ?_
      rintro e w1 ⟨rfl, b1⟩
      have z1 := b1.size
      simp only [World.size_alloc] at z1
      have B1 : Below w.heap.size w w1 := Below.chain (Below.refl _ _) (by go_grown) b1 (by go_size)
      have HG := Lib.hid ((b1.block w.heap.size (by go_size)).trans ((Below.heap_alloc _ _ _ (by go_size)).trans (heap_top _ _ rfl)))
      have HZ := Lib.hid ((b1.block (w.heap.size + 1) (by go_size)).trans (heap_top _ _ (by simp)))
      have g0 : w1.cell? ⟨w.heap.size, 0, none⟩ = some (.int .i64 11) := cell_of_row w1 w.heap.size 0 _ _ _ HG.out
      have g1 : w1.cell? ⟨w.heap.size, 1, none⟩ = some (.int .i64 (p : Int)) := cell_of_row w1 w.heap.size 1 _ _ _ HG.out
      have y0 : w.heap.size < w1.heap.size := by omega
      have y1 : w.heap.size + 1 < w1.heap.size := by omega
      clear b1
      go_wp2_with fail
      generalize hW0 : (w1.alloc (.cells #[.int .i64 1, .int .i64 0, .int .i64 0, .int .i64 0, .int .i64 0] 60)).alloc (.cells #[.int .i64 0, .int .i64 0, .int .i64 0, .int .i64 0, .int .i64 0] 60) = W0
      have B0 : Below w.heap.size w W0 := by rw [← hW0]; clear hW0; go_grown
      have kG0 : W0.cell? ⟨w.heap.size, 0, none⟩ = some (.int .i64 11) := cell_of_row W0 w.heap.size 0 _ _ _ (by rw [← hW0]; exact (Below.heap_alloc _ _ _ (by go_size)).trans ((Below.heap_alloc _ _ _ (by go_size)).trans HG.out))
      have kG1 : W0.cell? ⟨w.heap.size, 1, none⟩ = some (.int .i64 (p : Int)) := cell_of_row W0 w.heap.size 1 _ _ _ (by rw [← hW0]; exact (Below.heap_alloc _ _ _ (by go_size)).trans ((Below.heap_alloc _ _ _ (by go_size)).trans HG.out))
      have kG2 : W0.cell? ⟨w.heap.size, 2, none⟩ = some (.int .i64 (q : Int)) := cell_of_row W0 w.heap.size 2 _ _ _ (by rw [← hW0]; exact (Below.heap_alloc _ _ _ (by go_size)).trans ((Below.heap_alloc _ _ _ (by go_size)).trans HG.out))
      have kZ := fun o => cell_of_row W0 (w.heap.size + 1) o _ _ _ (by rw [← hW0]; exact (Below.heap_alloc _ _ _ (by go_size)).trans ((Below.heap_alloc _ _ _ (by go_size)).trans HZ.out))
      have fZ := fun o => frozen_of_row W0 (w.heap.size + 1) o _ _ (by rw [← hW0]; exact (Below.heap_alloc _ _ _ (by go_size)).trans ((Below.heap_alloc _ _ _ (by go_size)).trans HZ.out))
      have kO := fun o => cell_of_row W0 w1.heap.size o _ _ _ (by rw [← hW0]; exact (Below.heap_alloc _ _ _ (by go_size)).trans (heap_top _ _ rfl))
      have fO := fun o => frozen_of_row W0 w1.heap.size o _ _ (by rw [← hW0]; exact (Below.heap_alloc _ _ _ (by go_size)).trans (heap_top _ _ rfl))
      have kN := fun o => cell_of_row W0 (w1.heap.size + 1) o _ _ _ (by rw [← hW0]; exact heap_top _ _ (by simp))
      have s0 : w1.heap.size < W0.heap.size := by rw [← hW0]; clear hW0; go_size
      have s1 : w1.heap.size + 1 < W0.heap.size := by rw [← hW0]; clear hW0; go_size
      have y2 : w.heap.size < W0.heap.size := by omega
      have y3 : w.heap.size + 1 < W0.heap.size := by omega
      have n1 : ¬ w.heap.size + 1 = w1.heap.size := by omega
      have n2 : ¬ w1.heap.size = w.heap.size + 1 := by omega
      clear hW0 g0 g1 HG HZ
      go_region_held3 (fun w' => (∀ b o, b < W0.heap.size → w'.cell? ⟨b, o, none⟩ = W0.cell? ⟨b, o, none⟩) ∧ Below W0.heap.size W0 w') ((refine SB_mk ?_; go_grown)) (first | (go_at_call 73; with_reducible refine (C1.out _).mono ?_; rintro e wA ⟨rfl, bA⟩; obtain ⟨bAc, bAf⟩ := bcell bA; (try with_reducible have yA := lt_size bA); (try with_reducible have yA := lt_sizeD bA); (try with_reducible have yB := Nat.lt_of_lt_of_le (by assumption) bA.size); have sA := (SB_step (W := W0) (by with_reducible assumption) bA).2; have zA := sA.size) | (go_at_call 73; with_reducible refine (C2.out _).mono ?_; rintro e wA ⟨rfl, bA⟩; obtain ⟨bAc, bAf⟩ := bcell bA; (try with_reducible have yA := lt_size bA); (try with_reducible have yA := lt_sizeD bA); (try with_reducible have yB := Nat.lt_of_lt_of_le (by assumption) bA.size); have sA := (SB_step (W := W0) (by with_reducible assumption) bA).2; have zA := sA.size))
      all_goals
        clear bA bAc bAf
        obtain ⟨cA, gA⟩ := bcell sA
        have B9 : Below w.heap.size w wA := B0.trans (sA.mono B0.size)
        have y9 : w.heap.size + 1 < wA.heap.size := Nat.lt_of_lt_of_le y3 sA.size
        go_wp2
        rw [Hr.out]
        refine bodyPost_ret (by simp [results, Try.results60, go_sem, cA, kZ, y3]) rfl ⟨rfl, ?_⟩
        go_grown
end Go.Proofs.Ytlihnipbdckmkaa
