/- The row that a two-qubit gate takes a row of the state to: impl.comesFrom. -/
import Derived.Test.YtlihnipbdckmkaaBitQ
import Derived.Test.YtlihnipbdckmkaaGate
import Derived.Test.YtlihnipbdckmkaaDraw
namespace Go.Proofs.Ytlihnipbdckmkaa
open Go.RowKit

def comQ (k : Int) (i sa sb : Nat) : Nat := if k = 9 ∧ btq i sa = 1 then flq i sb else if k = 11 ∧ btq i sa ≠ btq i sb then flq (flq i sa) sb else i

set_option maxRecDepth 100000 in
set_option maxHeartbeats 4000000 in
theorem comesFrom_any (n i a b sa sb : Nat) (k : Int) (w : World) (hn : n ≤ 5) (hsa : sa < 5) (hsb : sb < 5) (hi : i < 32) (ha : (n : Int) - 1 - (a : Int) = (sa : Int)) (hb : (n : Int) - 1 - (b : Int) = (sb : Int)) :
    Calls Try.prog 32 #[.int .i64 (n : Int), tv k (a : Int) (b : Int), .int .i64 (i : Int)] w fun e w' => e = .returned (.int .i64 ((comQ k i sa sb : Nat) : Int)) ∧ Below w.heap.size w w' := by
  have hf := flq_lt ⟨i, hi⟩ ⟨sa, hsa⟩
  obtain ⟨X, hX⟩ : ∃ X, X = btq i sa := ⟨_, rfl⟩
  obtain ⟨Y, hY⟩ : ∃ Y, Y = btq i sb := ⟨_, rfl⟩
  obtain ⟨F, hF⟩ : ∃ F, F = flq i sb := ⟨_, rfl⟩
  obtain ⟨G, hG⟩ : ∃ G, G = flq i sa := ⟨_, rfl⟩
  obtain ⟨H, hH⟩ : ∃ H, H = flq G sb := ⟨_, rfl⟩
  have C1 : Hid (∀ W, Calls Try.prog 34 #[.int .i64 (n : Int), .int .i64 (i : Int), .int .i64 (a : Int)] W fun e w' => e = .returned (.int .i64 (X : Int)) ∧ Below W.heap.size W w') := fun W => by rw [hX]; exact (bitOf_any n i a sa W hn hsa hi ha).mono (by rintro e w' ⟨h, rfl⟩; exact ⟨h, Below.refl _ _⟩)
  have C2 : Hid (∀ W, Calls Try.prog 34 #[.int .i64 (n : Int), .int .i64 (i : Int), .int .i64 (b : Int)] W fun e w' => e = .returned (.int .i64 (Y : Int)) ∧ Below W.heap.size W w') := fun W => by rw [hY]; exact (bitOf_any n i b sb W hn hsb hi hb).mono (by rintro e w' ⟨h, rfl⟩; exact ⟨h, Below.refl _ _⟩)
  have C3 : Hid (∀ W, Calls Try.prog 35 #[.int .i64 (n : Int), .int .i64 (i : Int), .int .i64 (b : Int)] W fun e w' => e = .returned (.int .i64 (F : Int)) ∧ W = w') := fun W => by rw [hF]; exact flipped_any n i b sb W hn hsb hi hb
  have C4 : Hid (∀ W, Calls Try.prog 35 #[.int .i64 (n : Int), .int .i64 (i : Int), .int .i64 (a : Int)] W fun e w' => e = .returned (.int .i64 (G : Int)) ∧ Below W.heap.size W w') := fun W => by rw [hG]; exact (flipped_any n i a sa W hn hsa hi ha).mono (by rintro e w' ⟨h, rfl⟩; exact ⟨h, Below.refl _ _⟩)
  have C5 : Hid (∀ W, Calls Try.prog 35 #[.int .i64 (n : Int), .int .i64 (G : Int), .int .i64 (b : Int)] W fun e w' => e = .returned (.int .i64 (H : Int)) ∧ Below W.heap.size W w') := fun W => by rw [hH]; exact (flipped_any n G b sb W hn hsb (by rw [hG]; exact hf) hb).mono (by rintro e w' ⟨h, rfl⟩; exact ⟨h, Below.refl _ _⟩)
  have hr : comQ k i sa sb = if k = 9 ∧ X = 1 then F else if k = 11 ∧ X ≠ Y then H else i := by rw [comQ, hX, hY, hF, hH, hG]
  rw [hr]
  clear hr hX hY hF hG hH hf ha hb hi hsa hsb hn
  by_cases h9 : k = 9
  · subst h9
    by_cases hx : X = 1
    · have Hr : Hid ((if (9 : Int) = 9 ∧ X = 1 then F else if (9 : Int) = 11 ∧ X ≠ Y then H else i) = F) := by show _ = _; simp [hx]
      rw [Hr.out]
      subst hx
      go_enter Try.func32, Try.ntmps32
      go_wp2_with fail
      generalize hW0 : w.alloc (.cells #[.int .i64 9, .int .i64 (a : Int), .int .i64 (b : Int)] 29) = W0
      have B0 : Below w.heap.size w W0 := by rw [← hW0]; clear hW0; go_grown
      have k0 := fun o => cell_of_row W0 w.heap.size o _ _ _ (by rw [← hW0]; exact heap_top _ _ rfl)
      have yA0 : w.heap.size < W0.heap.size := by rw [← hW0]; clear hW0; go_size
      clear hW0
      go_region_held3 (fun w' => (∀ b o, b < W0.heap.size → w'.cell? ⟨b, o, none⟩ = W0.cell? ⟨b, o, none⟩) ∧ Below W0.heap.size W0 w') ((refine SB_mk ?_; go_grown)) (first | (go_at_call 34; with_reducible refine (C1.out _).mono ?_; rintro e wA ⟨rfl, bA⟩; obtain ⟨bAc, bAf⟩ := bcell bA; (try with_reducible have yA := lt_size bA); (try with_reducible have yA := lt_sizeD bA); (try with_reducible have yB := Nat.lt_of_lt_of_le (by assumption) bA.size); have sA := (SB_step (W := W0) (by with_reducible assumption) bA).2; have zA := sA.size) | (go_at_call 34; with_reducible refine (C2.out _).mono ?_; rintro e wA ⟨rfl, bA⟩; obtain ⟨bAc, bAf⟩ := bcell bA; (try with_reducible have yA := lt_size bA); (try with_reducible have yA := lt_sizeD bA); (try with_reducible have yB := Nat.lt_of_lt_of_le (by assumption) bA.size); have sA := (SB_step (W := W0) (by with_reducible assumption) bA).2; have zA := sA.size))
      all_goals
        clear bA bAc bAf
        obtain ⟨cA, gA⟩ := bcell sA
        go_wp2_with (go_at_call 35; refine (C3.out _).mono ?_; rintro e w' ⟨rfl, rfl⟩)
        go_ret
        exact ⟨rfl, B0.trans (sA.mono B0.size)⟩
    · have Hr : Hid ((if (9 : Int) = 9 ∧ X = 1 then F else if (9 : Int) = 11 ∧ X ≠ Y then H else i) = i) := by show _ = _; simp [hx]
      rw [Hr.out]
      have hx' : ¬ (X : Int) = 1 := by omega
      clear hx
      go_enter Try.func32, Try.ntmps32
      go_wp2_with fail
      generalize hW0 : w.alloc (.cells #[.int .i64 9, .int .i64 (a : Int), .int .i64 (b : Int)] 29) = W0
      have B0 : Below w.heap.size w W0 := by rw [← hW0]; clear hW0; go_grown
      have k0 := fun o => cell_of_row W0 w.heap.size o _ _ _ (by rw [← hW0]; exact heap_top _ _ rfl)
      have yA0 : w.heap.size < W0.heap.size := by rw [← hW0]; clear hW0; go_size
      clear hW0
      go_region_held3 (fun w' => (∀ b o, b < W0.heap.size → w'.cell? ⟨b, o, none⟩ = W0.cell? ⟨b, o, none⟩) ∧ Below W0.heap.size W0 w') ((refine SB_mk ?_; go_grown)) (first | (go_at_call 34; with_reducible refine (C1.out _).mono ?_; rintro e wA ⟨rfl, bA⟩; obtain ⟨bAc, bAf⟩ := bcell bA; (try with_reducible have yA := lt_size bA); (try with_reducible have yA := lt_sizeD bA); (try with_reducible have yB := Nat.lt_of_lt_of_le (by assumption) bA.size); have sA := (SB_step (W := W0) (by with_reducible assumption) bA).2; have zA := sA.size) | (go_at_call 34; with_reducible refine (C2.out _).mono ?_; rintro e wA ⟨rfl, bA⟩; obtain ⟨bAc, bAf⟩ := bcell bA; (try with_reducible have yA := lt_size bA); (try with_reducible have yA := lt_sizeD bA); (try with_reducible have yB := Nat.lt_of_lt_of_le (by assumption) bA.size); have sA := (SB_step (W := W0) (by with_reducible assumption) bA).2; have zA := sA.size))
      all_goals
        clear bA bAc bAf
        obtain ⟨cA, gA⟩ := bcell sA
        go_wp2
        go_ret
        exact ⟨rfl, B0.trans (sA.mono B0.size)⟩
  by_cases h11 : k = 11
  · subst h11
    by_cases hx : X = Y
    · have Hr : Hid ((if (11 : Int) = 9 ∧ X = 1 then F else if (11 : Int) = 11 ∧ X ≠ Y then H else i) = i) := by show _ = _; simp [hx]
      rw [Hr.out]
      subst hx
      go_enter Try.func32, Try.ntmps32
      go_wp2_with fail
      generalize hW0 : w.alloc (.cells #[.int .i64 11, .int .i64 (a : Int), .int .i64 (b : Int)] 29) = W0
      have B0 : Below w.heap.size w W0 := by rw [← hW0]; clear hW0; go_grown
      have k0 := fun o => cell_of_row W0 w.heap.size o _ _ _ (by rw [← hW0]; exact heap_top _ _ rfl)
      have yA0 : w.heap.size < W0.heap.size := by rw [← hW0]; clear hW0; go_size
      clear hW0
      go_region_held3 (fun w' => (∀ b o, b < W0.heap.size → w'.cell? ⟨b, o, none⟩ = W0.cell? ⟨b, o, none⟩) ∧ Below W0.heap.size W0 w') ((refine SB_mk ?_; go_grown)) (first | (go_at_call 34; with_reducible refine (C1.out _).mono ?_; rintro e wA ⟨rfl, bA⟩; obtain ⟨bAc, bAf⟩ := bcell bA; (try with_reducible have yA := lt_size bA); (try with_reducible have yA := lt_sizeD bA); (try with_reducible have yB := Nat.lt_of_lt_of_le (by assumption) bA.size); have sA := (SB_step (W := W0) (by with_reducible assumption) bA).2; have zA := sA.size) | (go_at_call 34; with_reducible refine (C2.out _).mono ?_; rintro e wA ⟨rfl, bA⟩; obtain ⟨bAc, bAf⟩ := bcell bA; (try with_reducible have yA := lt_size bA); (try with_reducible have yA := lt_sizeD bA); (try with_reducible have yB := Nat.lt_of_lt_of_le (by assumption) bA.size); have sA := (SB_step (W := W0) (by with_reducible assumption) bA).2; have zA := sA.size))
      all_goals
        clear bA bAc bAf
        obtain ⟨cA, gA⟩ := bcell sA
        go_wp2
        go_ret
        exact ⟨rfl, B0.trans (sA.mono B0.size)⟩
    · have Hr : Hid ((if (11 : Int) = 9 ∧ X = 1 then F else if (11 : Int) = 11 ∧ X ≠ Y then H else i) = H) := by show _ = _; simp [hx]
      rw [Hr.out]
      have hx' : ¬ (X : Int) = (Y : Int) := by omega
      clear hx
      go_enter Try.func32, Try.ntmps32
      go_wp2_with fail
      generalize hW0 : w.alloc (.cells #[.int .i64 11, .int .i64 (a : Int), .int .i64 (b : Int)] 29) = W0
      have B0 : Below w.heap.size w W0 := by rw [← hW0]; clear hW0; go_grown
      have k0 := fun o => cell_of_row W0 w.heap.size o _ _ _ (by rw [← hW0]; exact heap_top _ _ rfl)
      have yA0 : w.heap.size < W0.heap.size := by rw [← hW0]; clear hW0; go_size
      clear hW0
      go_region_held3 (fun w' => (∀ b o, b < W0.heap.size → w'.cell? ⟨b, o, none⟩ = W0.cell? ⟨b, o, none⟩) ∧ Below W0.heap.size W0 w') ((refine SB_mk ?_; go_grown)) (first | (go_at_call 34; with_reducible refine (C1.out _).mono ?_; rintro e wA ⟨rfl, bA⟩; obtain ⟨bAc, bAf⟩ := bcell bA; (try with_reducible have yA := lt_size bA); (try with_reducible have yA := lt_sizeD bA); (try with_reducible have yB := Nat.lt_of_lt_of_le (by assumption) bA.size); have sA := (SB_step (W := W0) (by with_reducible assumption) bA).2; have zA := sA.size) | (go_at_call 34; with_reducible refine (C2.out _).mono ?_; rintro e wA ⟨rfl, bA⟩; obtain ⟨bAc, bAf⟩ := bcell bA; (try with_reducible have yA := lt_size bA); (try with_reducible have yA := lt_sizeD bA); (try with_reducible have yB := Nat.lt_of_lt_of_le (by assumption) bA.size); have sA := (SB_step (W := W0) (by with_reducible assumption) bA).2; have zA := sA.size))
      all_goals
        clear bA bAc bAf
        obtain ⟨cA, gA⟩ := bcell sA
        go_wp2_with fail
        generalize wA = W2 at *
        have BW : Below w.heap.size w W2 := B0.trans (sA.mono B0.size)
        have d1 := (cA w.heap.size 1 yA0).trans (k0 1)
        have d2 := (cA w.heap.size 2 yA0).trans (k0 2)
        have yW : w.heap.size < W2.heap.size := by omega
        clear cA gA sA zA
        go_region_held3 (fun w' => (∀ b o, b < W2.heap.size → w'.cell? ⟨b, o, none⟩ = W2.cell? ⟨b, o, none⟩) ∧ Below W2.heap.size W2 w') ((refine SB_mk ?_; go_grown)) (first | (go_at_call 35; with_reducible refine (C4.out _).mono ?_; rintro e wA ⟨rfl, bA⟩; obtain ⟨bAc, bAf⟩ := bcell bA; (try with_reducible have yA := lt_size bA); (try with_reducible have yA := lt_sizeD bA); (try with_reducible have yB := Nat.lt_of_lt_of_le (by assumption) bA.size); have sA := (SB_step (W := W2) (by with_reducible assumption) bA).2; have zA := sA.size) | (go_at_call 35; with_reducible refine (C5.out _).mono ?_; rintro e wA ⟨rfl, bA⟩; obtain ⟨bAc, bAf⟩ := bcell bA; (try with_reducible have yA := lt_size bA); (try with_reducible have yA := lt_sizeD bA); (try with_reducible have yB := Nat.lt_of_lt_of_le (by assumption) bA.size); have sA := (SB_step (W := W2) (by with_reducible assumption) bA).2; have zA := sA.size))
        all_goals
          clear bA bAc bAf
          go_wp2
          go_ret
          exact ⟨rfl, BW.trans (sA.mono BW.size)⟩
  · have Hr : Hid ((if k = 9 ∧ X = 1 then F else if k = 11 ∧ X ≠ Y then H else i) = i) := by show _ = _; simp [h9, h11]
    rw [Hr.out]
    go_enter Try.func32, Try.ntmps32
    go_wp2_with fail
    generalize hW0 : w.alloc (.cells #[.int .i64 k, .int .i64 (a : Int), .int .i64 (b : Int)] 29) = W0
    have B0 : Below w.heap.size w W0 := by rw [← hW0]; clear hW0; go_grown
    have k0 := fun o => cell_of_row W0 w.heap.size o _ _ _ (by rw [← hW0]; exact heap_top _ _ rfl)
    have yA0 : w.heap.size < W0.heap.size := by rw [← hW0]; clear hW0; go_size
    clear hW0
    go_region_held3 (fun w' => (∀ b o, b < W0.heap.size → w'.cell? ⟨b, o, none⟩ = W0.cell? ⟨b, o, none⟩) ∧ Below W0.heap.size W0 w') ((refine SB_mk ?_; go_grown)) (first | (go_at_call 34; with_reducible refine (C1.out _).mono ?_; rintro e wA ⟨rfl, bA⟩; obtain ⟨bAc, bAf⟩ := bcell bA; (try with_reducible have yA := lt_size bA); (try with_reducible have yA := lt_sizeD bA); (try with_reducible have yB := Nat.lt_of_lt_of_le (by assumption) bA.size); have sA := (SB_step (W := W0) (by with_reducible assumption) bA).2; have zA := sA.size) | (go_at_call 34; with_reducible refine (C2.out _).mono ?_; rintro e wA ⟨rfl, bA⟩; obtain ⟨bAc, bAf⟩ := bcell bA; (try with_reducible have yA := lt_size bA); (try with_reducible have yA := lt_sizeD bA); (try with_reducible have yB := Nat.lt_of_lt_of_le (by assumption) bA.size); have sA := (SB_step (W := W0) (by with_reducible assumption) bA).2; have zA := sA.size))
    all_goals
      clear bA bAc bAf
      obtain ⟨cA, gA⟩ := bcell sA
      go_wp2
      go_ret
      exact ⟨rfl, B0.trans (sA.mono B0.size)⟩
end Go.Proofs.Ytlihnipbdckmkaa
