/- A cell of a gate's matrix: the reference's l6Cell at the kinds 1 to 8. -/
import Derived.Test.YtlihnipbdckmkaaGmCep
import Derived.Deep.RegionHeld3
namespace Go.Proofs.Ytlihnipbdckmkaa
open Go.RowKit

set_option maxRecDepth 100000 in
set_option maxHeartbeats 4000000 in
theorem celO_00 (n k p q sa i j : Nat) (w : World) (h1 : 1 ≤ k) (h8 : k ≤ 8) (hn : n ≤ 5) (hi : i < 32) (hj : j < 32) (hsa : sa < 5) (ha : (n : Int) - 1 - (p : Int) = (sa : Int)) (hX : btq i sa = 0) (hY : btq j sa = 0) (hm : i = j ∨ flq i sa = j) :
    Calls Try.prog 60 #[.int .i64 (n : Int), tv (k : Int) (p : Int) (q : Int), .int .i64 (i : Int), .int .i64 (j : Int)] w fun e w' => e = .returned (dvD (entD k 0 0)) ∧ Below w.heap.size w w' := by
  have C1 : Hid (∀ W, Calls Try.prog 73 #[.int .i64 (n : Int), .int .i64 (i : Int), .int .i64 (p : Int)] W fun e w' => e = .returned (.int .i64 0) ∧ W = w') := fun W => (l6Bit_any n i p sa W hn hsa hi ha).mono (by rintro e w' ⟨h, rfl⟩; exact ⟨by rw [h, hX]; rfl, rfl⟩)
  have C2 : Hid (∀ W, Calls Try.prog 73 #[.int .i64 (n : Int), .int .i64 (j : Int), .int .i64 (p : Int)] W fun e w' => e = .returned (.int .i64 0) ∧ W = w') := fun W => (l6Bit_any n j p sa W hn hsa hj ha).mono (by rintro e w' ⟨h, rfl⟩; exact ⟨by rw [h, hY]; rfl, rfl⟩)
  obtain ⟨A, hA⟩ : ∃ A, A = entD k 0 0 := ⟨_, rfl⟩
  obtain ⟨B, hB⟩ : ∃ B, B = entD k 0 1 := ⟨_, rfl⟩
  obtain ⟨C, hC⟩ : ∃ C, C = entD k 1 0 := ⟨_, rfl⟩
  obtain ⟨D, hD⟩ : ∃ D, D = entD k 1 1 := ⟨_, rfl⟩
  have C3 : Hid (∀ W, Calls Try.prog 74 #[.int .i64 (k : Int)] W fun e w' => ∃ g, e = .returned (.slice (some ⟨g, 0, none⟩) 4 4) ∧ W.heap.size ≤ g ∧ FourD w' g A B C D ∧ Below W.heap.size W w') := fun W => by rw [hA, hB, hC, hD]; exact one_any k W h1 h8
  rw [← hA]
  have hmk := (mask_at ⟨i, hi⟩ ⟨j, hj⟩ ⟨sa, hsa⟩).2 hm
  simp only at hmk
  have k12 : ¬ (k : Int) = 12 := by omega
  have k9 : ¬ (k : Int) = 9 := by omega
  have k10 : ¬ (k : Int) = 10 := by omega
  have k11 : ¬ (k : Int) = 11 := by omega
  have hw0 : IntKind.wrap .i64 0 = 0 := by decide
  have hw1 : IntKind.wrap .i64 1 = 1 := by decide
  have hw2 : IntKind.wrap .i64 2 = 2 := by decide
  have hw3 : IntKind.wrap .i64 3 = 3 := by decide
  clear hA hB hC hD h1 h8 hi hj hX hY hm
  go_enter Try.func60, Try.ntmps60
  go_wp2_with fail
  refine (pow0_any _).mono ?_
  rintro e w1 ⟨rfl, b1⟩
  have z1 := b1.size
  simp only [World.size_alloc] at z1
  have B1 : Below w.heap.size w w1 := Below.chain (Below.refl _ _) (by go_grown) b1 (by go_size)
  have HG := Lib.hid ((b1.block w.heap.size (by go_size)).trans ((Below.heap_alloc _ _ _ (by go_size)).trans (heap_top _ _ rfl)))
  have HZ := Lib.hid ((b1.block (w.heap.size + 1) (by go_size)).trans (heap_top _ _ (by simp)))
  have g0 : w1.cell? ⟨w.heap.size, 0, none⟩ = some (.int .i64 (k : Int)) := cell_of_row w1 w.heap.size 0 _ _ _ HG.out
  have g1 : w1.cell? ⟨w.heap.size, 1, none⟩ = some (.int .i64 (p : Int)) := cell_of_row w1 w.heap.size 1 _ _ _ HG.out
  have y0 : w.heap.size < w1.heap.size := by omega
  have y1 : w.heap.size + 1 < w1.heap.size := by omega
  clear b1
  go_wp2_with fail
  generalize hW0 : (w1.alloc (.cells #[.int .i64 1, .int .i64 0, .int .i64 0, .int .i64 0, .int .i64 0] 60)).alloc (.cells #[.int .i64 0, .int .i64 0, .int .i64 0, .int .i64 0, .int .i64 0] 60) = W0
  have B0 : Below w.heap.size w W0 := by rw [← hW0]; clear hW0; go_grown
  have kG0 : W0.cell? ⟨w.heap.size, 0, none⟩ = some (.int .i64 (k : Int)) := cell_of_row W0 w.heap.size 0 _ _ _ (by rw [← hW0]; exact (Below.heap_alloc _ _ _ (by go_size)).trans ((Below.heap_alloc _ _ _ (by go_size)).trans HG.out))
  have kG1 : W0.cell? ⟨w.heap.size, 1, none⟩ = some (.int .i64 (p : Int)) := cell_of_row W0 w.heap.size 1 _ _ _ (by rw [← hW0]; exact (Below.heap_alloc _ _ _ (by go_size)).trans ((Below.heap_alloc _ _ _ (by go_size)).trans HG.out))
  have kG2 : W0.cell? ⟨w.heap.size, 2, none⟩ = some (.int .i64 (q : Int)) := cell_of_row W0 w.heap.size 2 _ _ _ (by rw [← hW0]; exact (Below.heap_alloc _ _ _ (by go_size)).trans ((Below.heap_alloc _ _ _ (by go_size)).trans HG.out))
  have kZ := fun o => cell_of_row W0 (w.heap.size + 1) o _ _ _ (by rw [← hW0]; exact (Below.heap_alloc _ _ _ (by go_size)).trans ((Below.heap_alloc _ _ _ (by go_size)).trans HZ.out))
  have fZ := fun o => frozen_of_row W0 (w.heap.size + 1) o _ _ (by rw [← hW0]; exact (Below.heap_alloc _ _ _ (by go_size)).trans ((Below.heap_alloc _ _ _ (by go_size)).trans HZ.out))
  have kO := fun o => cell_of_row W0 w1.heap.size o _ _ _ (by rw [← hW0]; exact (Below.heap_alloc _ _ _ (by go_size)).trans (heap_top _ _ rfl))
  have fO := fun o => frozen_of_row W0 w1.heap.size o _ _ (by rw [← hW0]; exact (Below.heap_alloc _ _ _ (by go_size)).trans (heap_top _ _ rfl))
  have kN := fun o => cell_of_row W0 (w1.heap.size + 1) o _ _ _ (by rw [← hW0]; exact heap_top _ _ (by simp))
  have s0 : w1.heap.size < W0.heap.size := by rw [← hW0]; clear hW0; go_size
  have s1 : w1.heap.size + 1 < W0.heap.size := by rw [← hW0]; clear hW0; go_size
  have y2 : w.heap.size < W0.heap.size := by omega
  have y3 : w.heap.size + 1 < W0.heap.size := by omega
  have n1 : ¬ w.heap.size + 1 = w1.heap.size := by omega
  have n2 : ¬ w1.heap.size = w.heap.size + 1 := by omega
  clear hW0 g0 g1 HG HZ
  refine wp_region_held_drew (S := fun w' => (∀ b o, b < W0.heap.size → b ≠ w.heap.size + 1 → w'.cell? ⟨b, o, none⟩ = W0.cell? ⟨b, o, none⟩) ∧ W0.grownBy w' (some (w.heap.size + 1))) (by kernel_rfl) ?_ (fun h0 => ?_)
  · try dsimp only
    exact GB_mk (only_drew (grownBy_refl' _ _))
  refine wpAnyH_take (i := 0) (v := ?_) rfl (by kernel_rfl) (by kernel_rfl) (by kernel_rfl) (fun _ _ _ h => h) (Or.inl ⟨by rfl, ?_⟩) h0 ?_
  rotate_left
  · intro wS hSw
    try dsimp only at hSw
    go_simp
    try (with_reducible rfl)
  try simp only [Act.put]
  refine wpAnyH_take (i := 1) (v := ?_) rfl (by kernel_rfl) (by kernel_rfl) (by kernel_rfl) (fun _ _ _ h => h) (Or.inl ⟨by rfl, ?_⟩) h0 ?_
  rotate_left
  · intro wS hSw
    try dsimp only at hSw
    go_simp
    try (with_reducible rfl)
  try simp only [Act.put]
  refine wpAnyH_take (i := 3) (v := ?_) rfl (by kernel_rfl) (by kernel_rfl) (by kernel_rfl) (fun _ _ _ h => h) (Or.inl ⟨by rfl, ?_⟩) h0 ?_
  rotate_left
  · intro wS hSw
    try dsimp only at hSw
    go_simp
    try (with_reducible rfl)
  try simp only [Act.put]
  refine wpAnyH_take (i := 4) (v := ?_) rfl (by kernel_rfl) (by kernel_rfl) (by kernel_rfl) (fun _ _ _ h => h) (Or.inl ⟨by rfl, ?_⟩) h0 ?_
  rotate_left
  · intro wS hSw
    try dsimp only at hSw
    go_simp
    try (with_reducible rfl)
  try simp only [Act.put]
  refine wpAnyH_take (i := 5) (v := ?_) rfl (by kernel_rfl) (by kernel_rfl) (by kernel_rfl) (fun _ _ _ h => h) (Or.inl ⟨by rfl, ?_⟩) h0 ?_
  rotate_left
  · intro wS hSw
    try dsimp only at hSw
    go_simp
    try (with_reducible rfl)
  try simp only [Act.put]
  refine wpAnyH_take (i := 6) (v := ?_) rfl (by kernel_rfl) (by kernel_rfl) (by kernel_rfl) (fun _ _ _ h => h) (Or.inl ⟨by rfl, ?_⟩) h0 ?_
  rotate_left
  · intro wS hSw
    try dsimp only at hSw
    go_simp
    try (with_reducible rfl)
  try simp only [Act.put]
  refine wpAnyH_take (i := 9) (v := ?_) rfl (by kernel_rfl) (by kernel_rfl) (by kernel_rfl) (fun _ _ _ h => h) (Or.inl ⟨by rfl, ?_⟩) h0 ?_
  rotate_left
  · intro wS hSw
    try dsimp only at hSw
    go_simp
    try (with_reducible rfl)
  try simp only [Act.put]
  refine wpAnyH_take (i := 10) (v := ?_) rfl (by kernel_rfl) (by kernel_rfl) (by kernel_rfl) (fun _ _ _ h => h) (Or.inl ⟨by rfl, ?_⟩) h0 ?_
  rotate_left
  · intro wS hSw
    try dsimp only at hSw
    go_simp
    try (with_reducible rfl)
  try simp only [Act.put]
  refine wpAnyH_take (i := 11) (v := ?_) rfl (by kernel_rfl) (by kernel_rfl) (by kernel_rfl) (fun _ _ _ h => h) (Or.inl ⟨by rfl, ?_⟩) h0 ?_
  rotate_left
  · intro wS hSw
    try dsimp only at hSw
    go_simp
    try (with_reducible rfl)
  try simp only [Act.put]
  refine wpAnyH_take (i := 12) (v := ?_) rfl (by kernel_rfl) (by kernel_rfl) (by kernel_rfl) (fun _ _ _ h => h) (Or.inl ⟨by rfl, ?_⟩) h0 ?_
  rotate_left
  · intro wS hSw
    try dsimp only at hSw
    go_simp
    try (with_reducible rfl)
  try simp only [Act.put]
  refine wpAnyH_ready (rs := [2]) (by kernel_rfl) (by simp) ?_
  refine AllReadyH.cons rfl (fun K hK => ?_) AllReadyH.nil
  go_simp
  go_at_call 74
  refine (C3.out _).mono ?_
  rintro e wA ⟨g, rfl, hg, hF, bA⟩
  obtain ⟨bAc, bAf⟩ := bcell bA
  (try simp only [World.size_drew] at bAc)
  (try simp only [World.cell?_drew] at bAc)
  (try simp only [World.size_drew] at bAf)
  (try simp only [World.frozen?_drew] at bAf)
  have sA := GB_step (W := W0) h0 bA
  have zA := sA.2.size
  have f0 : wA.cell? ⟨g, 0, none⟩ = some (.int .i64 A.1.1) := cell_of_row wA g 0 _ _ _ hF
  have f1 : wA.cell? ⟨g, 1, none⟩ = some (.int .i64 A.1.2.1) := cell_of_row wA g 1 _ _ _ hF
  have f2 : wA.cell? ⟨g, 2, none⟩ = some (.int .i64 A.1.2.2.1) := cell_of_row wA g 2 _ _ _ hF
  have f3 : wA.cell? ⟨g, 3, none⟩ = some (.int .i64 A.1.2.2.2) := cell_of_row wA g 3 _ _ _ hF
  have f4 : wA.cell? ⟨g, 4, none⟩ = some (.int .i64 A.2) := cell_of_row wA g 4 _ _ _ hF
  have yA : w.heap.size + 1 < wA.heap.size := by omega
  clear hF
  try go_wp2_with fail
  refine hK.out _ _ ?_ (fun h1 => ?_)
  · exact sA
  clear hK K
  try simp only [Act.put]
  refine wpAnyH_ready (rs := [7]) (by kernel_rfl) (by simp) ?_
  refine AllReadyH.cons rfl (fun K hK => ?_) AllReadyH.nil
  go_simp
  go_at_call 73
  refine (C1.out _).mono ?_
  rintro e w' ⟨rfl, rfl⟩
  try go_wp2_with fail
  refine hK.out _ _ ?_ (fun h2 => ?_)
  · exact sA
  clear hK K
  try simp only [Act.put]
  refine wpAnyH_take (i := 8) (v := ?_) rfl (by kernel_rfl) (by kernel_rfl) (by kernel_rfl) (fun _ _ _ h => h) (Or.inl ⟨by rfl, ?_⟩) h2 ?_
  rotate_left
  · intro wS hSw
    try dsimp only at hSw
    go_simp
    try (with_reducible rfl)
  try simp only [Act.put]
  refine wpAnyH_ready (rs := [13]) (by kernel_rfl) (by simp) ?_
  refine AllReadyH.cons rfl (fun K hK => ?_) AllReadyH.nil
  go_simp
  go_at_call 73
  refine (C2.out _).mono ?_
  rintro e w' ⟨rfl, rfl⟩
  try go_wp2_with fail
  refine hK.out _ _ ?_ (fun h3 => ?_)
  · exact sA
  clear hK K
  try simp only [Act.put]
  refine wpAnyH_take (i := 14) (v := ?_) rfl (by kernel_rfl) (by kernel_rfl) (by kernel_rfl) (fun _ _ _ h => h) (Or.inl ⟨by rfl, ?_⟩) h3 ?_
  rotate_left
  · intro wS hSw
    try dsimp only at hSw
    go_simp
    try (with_reducible rfl)
  try simp only [Act.put]
  refine wpAnyH_take (i := 15) (v := ?_) rfl (by kernel_rfl) (by kernel_rfl) (by kernel_rfl) (fun _ _ _ h => h) (Or.inl ⟨by rfl, ?_⟩) h3 ?_
  rotate_left
  · intro wS hSw
    try dsimp only at hSw
    go_simp
    try (with_reducible rfl)
  try simp only [Act.put]
  refine wpAnyH_ready (rs := [16]) (by kernel_rfl) (by simp) ?_
  refine AllReadyH.cons rfl (fun K hK => ?_) AllReadyH.nil
  go_simp
  refine hK.out _ _ ?_ (fun h4 => ?_)
  · exact sA
  clear hK K
  try simp only [Act.put]
  refine wpAnyH_ready (rs := [17]) (by kernel_rfl) (by simp) ?_
  refine AllReadyH.cons rfl (fun K hK => ?_) AllReadyH.nil
  go_simp
  refine hK.out _ _ ?_ (fun h5 => ?_)
  · exact GB_mk (only_setCell (only_setCell (only_setCell (only_setCell (only_setCell sA.2 (Or.inl rfl) _) (Or.inl rfl) _) (Or.inl rfl) _) (Or.inl rfl) _) (Or.inl rfl) _)
  clear hK K
  try simp only [Act.put]
  refine wpAnyH_done (by kernel_rfl) ?_ _
  go_wp2
  refine bodyPost_ret (by simp [results, Try.results60, go_sem, bAc, kZ, y3]) rfl ⟨rfl, ?_⟩
  refine below_only B0 (R := w.heap.size + 1) ?_ (by omega) (by omega)
  exact h5.2

set_option maxRecDepth 100000 in
set_option maxHeartbeats 4000000 in
theorem celO_01 (n k p q sa i j : Nat) (w : World) (h1 : 1 ≤ k) (h8 : k ≤ 8) (hn : n ≤ 5) (hi : i < 32) (hj : j < 32) (hsa : sa < 5) (ha : (n : Int) - 1 - (p : Int) = (sa : Int)) (hX : btq i sa = 0) (hY : btq j sa = 1) (hm : i = j ∨ flq i sa = j) :
    Calls Try.prog 60 #[.int .i64 (n : Int), tv (k : Int) (p : Int) (q : Int), .int .i64 (i : Int), .int .i64 (j : Int)] w fun e w' => e = .returned (dvD (entD k 0 1)) ∧ Below w.heap.size w w' := by
  have C1 : Hid (∀ W, Calls Try.prog 73 #[.int .i64 (n : Int), .int .i64 (i : Int), .int .i64 (p : Int)] W fun e w' => e = .returned (.int .i64 0) ∧ W = w') := fun W => (l6Bit_any n i p sa W hn hsa hi ha).mono (by rintro e w' ⟨h, rfl⟩; exact ⟨by rw [h, hX]; rfl, rfl⟩)
  have C2 : Hid (∀ W, Calls Try.prog 73 #[.int .i64 (n : Int), .int .i64 (j : Int), .int .i64 (p : Int)] W fun e w' => e = .returned (.int .i64 1) ∧ W = w') := fun W => (l6Bit_any n j p sa W hn hsa hj ha).mono (by rintro e w' ⟨h, rfl⟩; exact ⟨by rw [h, hY]; rfl, rfl⟩)
  obtain ⟨A, hA⟩ : ∃ A, A = entD k 0 0 := ⟨_, rfl⟩
  obtain ⟨B, hB⟩ : ∃ B, B = entD k 0 1 := ⟨_, rfl⟩
  obtain ⟨C, hC⟩ : ∃ C, C = entD k 1 0 := ⟨_, rfl⟩
  obtain ⟨D, hD⟩ : ∃ D, D = entD k 1 1 := ⟨_, rfl⟩
  have C3 : Hid (∀ W, Calls Try.prog 74 #[.int .i64 (k : Int)] W fun e w' => ∃ g, e = .returned (.slice (some ⟨g, 0, none⟩) 4 4) ∧ W.heap.size ≤ g ∧ FourD w' g A B C D ∧ Below W.heap.size W w') := fun W => by rw [hA, hB, hC, hD]; exact one_any k W h1 h8
  rw [← hB]
  have hmk := (mask_at ⟨i, hi⟩ ⟨j, hj⟩ ⟨sa, hsa⟩).2 hm
  simp only at hmk
  have k12 : ¬ (k : Int) = 12 := by omega
  have k9 : ¬ (k : Int) = 9 := by omega
  have k10 : ¬ (k : Int) = 10 := by omega
  have k11 : ¬ (k : Int) = 11 := by omega
  have hw0 : IntKind.wrap .i64 0 = 0 := by decide
  have hw1 : IntKind.wrap .i64 1 = 1 := by decide
  have hw2 : IntKind.wrap .i64 2 = 2 := by decide
  have hw3 : IntKind.wrap .i64 3 = 3 := by decide
  clear hA hB hC hD h1 h8 hi hj hX hY hm
  go_enter Try.func60, Try.ntmps60
  go_wp2_with fail
  refine (pow0_any _).mono ?_
  rintro e w1 ⟨rfl, b1⟩
  have z1 := b1.size
  simp only [World.size_alloc] at z1
  have B1 : Below w.heap.size w w1 := Below.chain (Below.refl _ _) (by go_grown) b1 (by go_size)
  have HG := Lib.hid ((b1.block w.heap.size (by go_size)).trans ((Below.heap_alloc _ _ _ (by go_size)).trans (heap_top _ _ rfl)))
  have HZ := Lib.hid ((b1.block (w.heap.size + 1) (by go_size)).trans (heap_top _ _ (by simp)))
  have g0 : w1.cell? ⟨w.heap.size, 0, none⟩ = some (.int .i64 (k : Int)) := cell_of_row w1 w.heap.size 0 _ _ _ HG.out
  have g1 : w1.cell? ⟨w.heap.size, 1, none⟩ = some (.int .i64 (p : Int)) := cell_of_row w1 w.heap.size 1 _ _ _ HG.out
  have y0 : w.heap.size < w1.heap.size := by omega
  have y1 : w.heap.size + 1 < w1.heap.size := by omega
  clear b1
  go_wp2_with fail
  generalize hW0 : (w1.alloc (.cells #[.int .i64 1, .int .i64 0, .int .i64 0, .int .i64 0, .int .i64 0] 60)).alloc (.cells #[.int .i64 0, .int .i64 0, .int .i64 0, .int .i64 0, .int .i64 0] 60) = W0
  have B0 : Below w.heap.size w W0 := by rw [← hW0]; clear hW0; go_grown
  have kG0 : W0.cell? ⟨w.heap.size, 0, none⟩ = some (.int .i64 (k : Int)) := cell_of_row W0 w.heap.size 0 _ _ _ (by rw [← hW0]; exact (Below.heap_alloc _ _ _ (by go_size)).trans ((Below.heap_alloc _ _ _ (by go_size)).trans HG.out))
  have kG1 : W0.cell? ⟨w.heap.size, 1, none⟩ = some (.int .i64 (p : Int)) := cell_of_row W0 w.heap.size 1 _ _ _ (by rw [← hW0]; exact (Below.heap_alloc _ _ _ (by go_size)).trans ((Below.heap_alloc _ _ _ (by go_size)).trans HG.out))
  have kG2 : W0.cell? ⟨w.heap.size, 2, none⟩ = some (.int .i64 (q : Int)) := cell_of_row W0 w.heap.size 2 _ _ _ (by rw [← hW0]; exact (Below.heap_alloc _ _ _ (by go_size)).trans ((Below.heap_alloc _ _ _ (by go_size)).trans HG.out))
  have kZ := fun o => cell_of_row W0 (w.heap.size + 1) o _ _ _ (by rw [← hW0]; exact (Below.heap_alloc _ _ _ (by go_size)).trans ((Below.heap_alloc _ _ _ (by go_size)).trans HZ.out))
  have fZ := fun o => frozen_of_row W0 (w.heap.size + 1) o _ _ (by rw [← hW0]; exact (Below.heap_alloc _ _ _ (by go_size)).trans ((Below.heap_alloc _ _ _ (by go_size)).trans HZ.out))
  have kO := fun o => cell_of_row W0 w1.heap.size o _ _ _ (by rw [← hW0]; exact (Below.heap_alloc _ _ _ (by go_size)).trans (heap_top _ _ rfl))
  have fO := fun o => frozen_of_row W0 w1.heap.size o _ _ (by rw [← hW0]; exact (Below.heap_alloc _ _ _ (by go_size)).trans (heap_top _ _ rfl))
  have kN := fun o => cell_of_row W0 (w1.heap.size + 1) o _ _ _ (by rw [← hW0]; exact heap_top _ _ (by simp))
  have s0 : w1.heap.size < W0.heap.size := by rw [← hW0]; clear hW0; go_size
  have s1 : w1.heap.size + 1 < W0.heap.size := by rw [← hW0]; clear hW0; go_size
  have y2 : w.heap.size < W0.heap.size := by omega
  have y3 : w.heap.size + 1 < W0.heap.size := by omega
  have n1 : ¬ w.heap.size + 1 = w1.heap.size := by omega
  have n2 : ¬ w1.heap.size = w.heap.size + 1 := by omega
  clear hW0 g0 g1 HG HZ
  refine wp_region_held_drew (S := fun w' => (∀ b o, b < W0.heap.size → b ≠ w.heap.size + 1 → w'.cell? ⟨b, o, none⟩ = W0.cell? ⟨b, o, none⟩) ∧ W0.grownBy w' (some (w.heap.size + 1))) (by kernel_rfl) ?_ (fun h0 => ?_)
  · try dsimp only
    exact GB_mk (only_drew (grownBy_refl' _ _))
  refine wpAnyH_take (i := 0) (v := ?_) rfl (by kernel_rfl) (by kernel_rfl) (by kernel_rfl) (fun _ _ _ h => h) (Or.inl ⟨by rfl, ?_⟩) h0 ?_
  rotate_left
  · intro wS hSw
    try dsimp only at hSw
    go_simp
    try (with_reducible rfl)
  try simp only [Act.put]
  refine wpAnyH_take (i := 1) (v := ?_) rfl (by kernel_rfl) (by kernel_rfl) (by kernel_rfl) (fun _ _ _ h => h) (Or.inl ⟨by rfl, ?_⟩) h0 ?_
  rotate_left
  · intro wS hSw
    try dsimp only at hSw
    go_simp
    try (with_reducible rfl)
  try simp only [Act.put]
  refine wpAnyH_take (i := 3) (v := ?_) rfl (by kernel_rfl) (by kernel_rfl) (by kernel_rfl) (fun _ _ _ h => h) (Or.inl ⟨by rfl, ?_⟩) h0 ?_
  rotate_left
  · intro wS hSw
    try dsimp only at hSw
    go_simp
    try (with_reducible rfl)
  try simp only [Act.put]
  refine wpAnyH_take (i := 4) (v := ?_) rfl (by kernel_rfl) (by kernel_rfl) (by kernel_rfl) (fun _ _ _ h => h) (Or.inl ⟨by rfl, ?_⟩) h0 ?_
  rotate_left
  · intro wS hSw
    try dsimp only at hSw
    go_simp
    try (with_reducible rfl)
  try simp only [Act.put]
  refine wpAnyH_take (i := 5) (v := ?_) rfl (by kernel_rfl) (by kernel_rfl) (by kernel_rfl) (fun _ _ _ h => h) (Or.inl ⟨by rfl, ?_⟩) h0 ?_
  rotate_left
  · intro wS hSw
    try dsimp only at hSw
    go_simp
    try (with_reducible rfl)
  try simp only [Act.put]
  refine wpAnyH_take (i := 6) (v := ?_) rfl (by kernel_rfl) (by kernel_rfl) (by kernel_rfl) (fun _ _ _ h => h) (Or.inl ⟨by rfl, ?_⟩) h0 ?_
  rotate_left
  · intro wS hSw
    try dsimp only at hSw
    go_simp
    try (with_reducible rfl)
  try simp only [Act.put]
  refine wpAnyH_take (i := 9) (v := ?_) rfl (by kernel_rfl) (by kernel_rfl) (by kernel_rfl) (fun _ _ _ h => h) (Or.inl ⟨by rfl, ?_⟩) h0 ?_
  rotate_left
  · intro wS hSw
    try dsimp only at hSw
    go_simp
    try (with_reducible rfl)
  try simp only [Act.put]
  refine wpAnyH_take (i := 10) (v := ?_) rfl (by kernel_rfl) (by kernel_rfl) (by kernel_rfl) (fun _ _ _ h => h) (Or.inl ⟨by rfl, ?_⟩) h0 ?_
  rotate_left
  · intro wS hSw
    try dsimp only at hSw
    go_simp
    try (with_reducible rfl)
  try simp only [Act.put]
  refine wpAnyH_take (i := 11) (v := ?_) rfl (by kernel_rfl) (by kernel_rfl) (by kernel_rfl) (fun _ _ _ h => h) (Or.inl ⟨by rfl, ?_⟩) h0 ?_
  rotate_left
  · intro wS hSw
    try dsimp only at hSw
    go_simp
    try (with_reducible rfl)
  try simp only [Act.put]
  refine wpAnyH_take (i := 12) (v := ?_) rfl (by kernel_rfl) (by kernel_rfl) (by kernel_rfl) (fun _ _ _ h => h) (Or.inl ⟨by rfl, ?_⟩) h0 ?_
  rotate_left
  · intro wS hSw
    try dsimp only at hSw
    go_simp
    try (with_reducible rfl)
  try simp only [Act.put]
  refine wpAnyH_ready (rs := [2]) (by kernel_rfl) (by simp) ?_
  refine AllReadyH.cons rfl (fun K hK => ?_) AllReadyH.nil
  go_simp
  go_at_call 74
  refine (C3.out _).mono ?_
  rintro e wA ⟨g, rfl, hg, hF, bA⟩
  obtain ⟨bAc, bAf⟩ := bcell bA
  (try simp only [World.size_drew] at bAc)
  (try simp only [World.cell?_drew] at bAc)
  (try simp only [World.size_drew] at bAf)
  (try simp only [World.frozen?_drew] at bAf)
  have sA := GB_step (W := W0) h0 bA
  have zA := sA.2.size
  have f0 : wA.cell? ⟨g, 5, none⟩ = some (.int .i64 B.1.1) := cell_of_row wA g 5 _ _ _ hF
  have f1 : wA.cell? ⟨g, 6, none⟩ = some (.int .i64 B.1.2.1) := cell_of_row wA g 6 _ _ _ hF
  have f2 : wA.cell? ⟨g, 7, none⟩ = some (.int .i64 B.1.2.2.1) := cell_of_row wA g 7 _ _ _ hF
  have f3 : wA.cell? ⟨g, 8, none⟩ = some (.int .i64 B.1.2.2.2) := cell_of_row wA g 8 _ _ _ hF
  have f4 : wA.cell? ⟨g, 9, none⟩ = some (.int .i64 B.2) := cell_of_row wA g 9 _ _ _ hF
  have yA : w.heap.size + 1 < wA.heap.size := by omega
  clear hF
  try go_wp2_with fail
  refine hK.out _ _ ?_ (fun h1 => ?_)
  · exact sA
  clear hK K
  try simp only [Act.put]
  refine wpAnyH_ready (rs := [7]) (by kernel_rfl) (by simp) ?_
  refine AllReadyH.cons rfl (fun K hK => ?_) AllReadyH.nil
  go_simp
  go_at_call 73
  refine (C1.out _).mono ?_
  rintro e w' ⟨rfl, rfl⟩
  try go_wp2_with fail
  refine hK.out _ _ ?_ (fun h2 => ?_)
  · exact sA
  clear hK K
  try simp only [Act.put]
  refine wpAnyH_take (i := 8) (v := ?_) rfl (by kernel_rfl) (by kernel_rfl) (by kernel_rfl) (fun _ _ _ h => h) (Or.inl ⟨by rfl, ?_⟩) h2 ?_
  rotate_left
  · intro wS hSw
    try dsimp only at hSw
    go_simp
    try (with_reducible rfl)
  try simp only [Act.put]
  refine wpAnyH_ready (rs := [13]) (by kernel_rfl) (by simp) ?_
  refine AllReadyH.cons rfl (fun K hK => ?_) AllReadyH.nil
  go_simp
  go_at_call 73
  refine (C2.out _).mono ?_
  rintro e w' ⟨rfl, rfl⟩
  try go_wp2_with fail
  refine hK.out _ _ ?_ (fun h3 => ?_)
  · exact sA
  clear hK K
  try simp only [Act.put]
  refine wpAnyH_take (i := 14) (v := ?_) rfl (by kernel_rfl) (by kernel_rfl) (by kernel_rfl) (fun _ _ _ h => h) (Or.inl ⟨by rfl, ?_⟩) h3 ?_
  rotate_left
  · intro wS hSw
    try dsimp only at hSw
    go_simp
    try (with_reducible rfl)
  try simp only [Act.put]
  refine wpAnyH_take (i := 15) (v := ?_) rfl (by kernel_rfl) (by kernel_rfl) (by kernel_rfl) (fun _ _ _ h => h) (Or.inl ⟨by rfl, ?_⟩) h3 ?_
  rotate_left
  · intro wS hSw
    try dsimp only at hSw
    go_simp
    try (with_reducible rfl)
  try simp only [Act.put]
  refine wpAnyH_ready (rs := [16]) (by kernel_rfl) (by simp) ?_
  refine AllReadyH.cons rfl (fun K hK => ?_) AllReadyH.nil
  go_simp
  refine hK.out _ _ ?_ (fun h4 => ?_)
  · exact sA
  clear hK K
  try simp only [Act.put]
  refine wpAnyH_ready (rs := [17]) (by kernel_rfl) (by simp) ?_
  refine AllReadyH.cons rfl (fun K hK => ?_) AllReadyH.nil
  go_simp
  refine hK.out _ _ ?_ (fun h5 => ?_)
  · exact GB_mk (only_setCell (only_setCell (only_setCell (only_setCell (only_setCell sA.2 (Or.inl rfl) _) (Or.inl rfl) _) (Or.inl rfl) _) (Or.inl rfl) _) (Or.inl rfl) _)
  clear hK K
  try simp only [Act.put]
  refine wpAnyH_done (by kernel_rfl) ?_ _
  go_wp2
  refine bodyPost_ret (by simp [results, Try.results60, go_sem, bAc, kZ, y3]) rfl ⟨rfl, ?_⟩
  refine below_only B0 (R := w.heap.size + 1) ?_ (by omega) (by omega)
  exact h5.2

set_option maxRecDepth 100000 in
set_option maxHeartbeats 4000000 in
theorem celO_10 (n k p q sa i j : Nat) (w : World) (h1 : 1 ≤ k) (h8 : k ≤ 8) (hn : n ≤ 5) (hi : i < 32) (hj : j < 32) (hsa : sa < 5) (ha : (n : Int) - 1 - (p : Int) = (sa : Int)) (hX : btq i sa = 1) (hY : btq j sa = 0) (hm : i = j ∨ flq i sa = j) :
    Calls Try.prog 60 #[.int .i64 (n : Int), tv (k : Int) (p : Int) (q : Int), .int .i64 (i : Int), .int .i64 (j : Int)] w fun e w' => e = .returned (dvD (entD k 1 0)) ∧ Below w.heap.size w w' := by
  have C1 : Hid (∀ W, Calls Try.prog 73 #[.int .i64 (n : Int), .int .i64 (i : Int), .int .i64 (p : Int)] W fun e w' => e = .returned (.int .i64 1) ∧ W = w') := fun W => (l6Bit_any n i p sa W hn hsa hi ha).mono (by rintro e w' ⟨h, rfl⟩; exact ⟨by rw [h, hX]; rfl, rfl⟩)
  have C2 : Hid (∀ W, Calls Try.prog 73 #[.int .i64 (n : Int), .int .i64 (j : Int), .int .i64 (p : Int)] W fun e w' => e = .returned (.int .i64 0) ∧ W = w') := fun W => (l6Bit_any n j p sa W hn hsa hj ha).mono (by rintro e w' ⟨h, rfl⟩; exact ⟨by rw [h, hY]; rfl, rfl⟩)
  obtain ⟨A, hA⟩ : ∃ A, A = entD k 0 0 := ⟨_, rfl⟩
  obtain ⟨B, hB⟩ : ∃ B, B = entD k 0 1 := ⟨_, rfl⟩
  obtain ⟨C, hC⟩ : ∃ C, C = entD k 1 0 := ⟨_, rfl⟩
  obtain ⟨D, hD⟩ : ∃ D, D = entD k 1 1 := ⟨_, rfl⟩
  have C3 : Hid (∀ W, Calls Try.prog 74 #[.int .i64 (k : Int)] W fun e w' => ∃ g, e = .returned (.slice (some ⟨g, 0, none⟩) 4 4) ∧ W.heap.size ≤ g ∧ FourD w' g A B C D ∧ Below W.heap.size W w') := fun W => by rw [hA, hB, hC, hD]; exact one_any k W h1 h8
  rw [← hC]
  have hmk := (mask_at ⟨i, hi⟩ ⟨j, hj⟩ ⟨sa, hsa⟩).2 hm
  simp only at hmk
  have k12 : ¬ (k : Int) = 12 := by omega
  have k9 : ¬ (k : Int) = 9 := by omega
  have k10 : ¬ (k : Int) = 10 := by omega
  have k11 : ¬ (k : Int) = 11 := by omega
  have hw0 : IntKind.wrap .i64 0 = 0 := by decide
  have hw1 : IntKind.wrap .i64 1 = 1 := by decide
  have hw2 : IntKind.wrap .i64 2 = 2 := by decide
  have hw3 : IntKind.wrap .i64 3 = 3 := by decide
  clear hA hB hC hD h1 h8 hi hj hX hY hm
  go_enter Try.func60, Try.ntmps60
  go_wp2_with fail
  refine (pow0_any _).mono ?_
  rintro e w1 ⟨rfl, b1⟩
  have z1 := b1.size
  simp only [World.size_alloc] at z1
  have B1 : Below w.heap.size w w1 := Below.chain (Below.refl _ _) (by go_grown) b1 (by go_size)
  have HG := Lib.hid ((b1.block w.heap.size (by go_size)).trans ((Below.heap_alloc _ _ _ (by go_size)).trans (heap_top _ _ rfl)))
  have HZ := Lib.hid ((b1.block (w.heap.size + 1) (by go_size)).trans (heap_top _ _ (by simp)))
  have g0 : w1.cell? ⟨w.heap.size, 0, none⟩ = some (.int .i64 (k : Int)) := cell_of_row w1 w.heap.size 0 _ _ _ HG.out
  have g1 : w1.cell? ⟨w.heap.size, 1, none⟩ = some (.int .i64 (p : Int)) := cell_of_row w1 w.heap.size 1 _ _ _ HG.out
  have y0 : w.heap.size < w1.heap.size := by omega
  have y1 : w.heap.size + 1 < w1.heap.size := by omega
  clear b1
  go_wp2_with fail
  generalize hW0 : (w1.alloc (.cells #[.int .i64 1, .int .i64 0, .int .i64 0, .int .i64 0, .int .i64 0] 60)).alloc (.cells #[.int .i64 0, .int .i64 0, .int .i64 0, .int .i64 0, .int .i64 0] 60) = W0
  have B0 : Below w.heap.size w W0 := by rw [← hW0]; clear hW0; go_grown
  have kG0 : W0.cell? ⟨w.heap.size, 0, none⟩ = some (.int .i64 (k : Int)) := cell_of_row W0 w.heap.size 0 _ _ _ (by rw [← hW0]; exact (Below.heap_alloc _ _ _ (by go_size)).trans ((Below.heap_alloc _ _ _ (by go_size)).trans HG.out))
  have kG1 : W0.cell? ⟨w.heap.size, 1, none⟩ = some (.int .i64 (p : Int)) := cell_of_row W0 w.heap.size 1 _ _ _ (by rw [← hW0]; exact (Below.heap_alloc _ _ _ (by go_size)).trans ((Below.heap_alloc _ _ _ (by go_size)).trans HG.out))
  have kG2 : W0.cell? ⟨w.heap.size, 2, none⟩ = some (.int .i64 (q : Int)) := cell_of_row W0 w.heap.size 2 _ _ _ (by rw [← hW0]; exact (Below.heap_alloc _ _ _ (by go_size)).trans ((Below.heap_alloc _ _ _ (by go_size)).trans HG.out))
  have kZ := fun o => cell_of_row W0 (w.heap.size + 1) o _ _ _ (by rw [← hW0]; exact (Below.heap_alloc _ _ _ (by go_size)).trans ((Below.heap_alloc _ _ _ (by go_size)).trans HZ.out))
  have fZ := fun o => frozen_of_row W0 (w.heap.size + 1) o _ _ (by rw [← hW0]; exact (Below.heap_alloc _ _ _ (by go_size)).trans ((Below.heap_alloc _ _ _ (by go_size)).trans HZ.out))
  have kO := fun o => cell_of_row W0 w1.heap.size o _ _ _ (by rw [← hW0]; exact (Below.heap_alloc _ _ _ (by go_size)).trans (heap_top _ _ rfl))
  have fO := fun o => frozen_of_row W0 w1.heap.size o _ _ (by rw [← hW0]; exact (Below.heap_alloc _ _ _ (by go_size)).trans (heap_top _ _ rfl))
  have kN := fun o => cell_of_row W0 (w1.heap.size + 1) o _ _ _ (by rw [← hW0]; exact heap_top _ _ (by simp))
  have s0 : w1.heap.size < W0.heap.size := by rw [← hW0]; clear hW0; go_size
  have s1 : w1.heap.size + 1 < W0.heap.size := by rw [← hW0]; clear hW0; go_size
  have y2 : w.heap.size < W0.heap.size := by omega
  have y3 : w.heap.size + 1 < W0.heap.size := by omega
  have n1 : ¬ w.heap.size + 1 = w1.heap.size := by omega
  have n2 : ¬ w1.heap.size = w.heap.size + 1 := by omega
  clear hW0 g0 g1 HG HZ
  refine wp_region_held_drew (S := fun w' => (∀ b o, b < W0.heap.size → b ≠ w.heap.size + 1 → w'.cell? ⟨b, o, none⟩ = W0.cell? ⟨b, o, none⟩) ∧ W0.grownBy w' (some (w.heap.size + 1))) (by kernel_rfl) ?_ (fun h0 => ?_)
  · try dsimp only
    exact GB_mk (only_drew (grownBy_refl' _ _))
  refine wpAnyH_take (i := 0) (v := ?_) rfl (by kernel_rfl) (by kernel_rfl) (by kernel_rfl) (fun _ _ _ h => h) (Or.inl ⟨by rfl, ?_⟩) h0 ?_
  rotate_left
  · intro wS hSw
    try dsimp only at hSw
    go_simp
    try (with_reducible rfl)
  try simp only [Act.put]
  refine wpAnyH_take (i := 1) (v := ?_) rfl (by kernel_rfl) (by kernel_rfl) (by kernel_rfl) (fun _ _ _ h => h) (Or.inl ⟨by rfl, ?_⟩) h0 ?_
  rotate_left
  · intro wS hSw
    try dsimp only at hSw
    go_simp
    try (with_reducible rfl)
  try simp only [Act.put]
  refine wpAnyH_take (i := 3) (v := ?_) rfl (by kernel_rfl) (by kernel_rfl) (by kernel_rfl) (fun _ _ _ h => h) (Or.inl ⟨by rfl, ?_⟩) h0 ?_
  rotate_left
  · intro wS hSw
    try dsimp only at hSw
    go_simp
    try (with_reducible rfl)
  try simp only [Act.put]
  refine wpAnyH_take (i := 4) (v := ?_) rfl (by kernel_rfl) (by kernel_rfl) (by kernel_rfl) (fun _ _ _ h => h) (Or.inl ⟨by rfl, ?_⟩) h0 ?_
  rotate_left
  · intro wS hSw
    try dsimp only at hSw
    go_simp
    try (with_reducible rfl)
  try simp only [Act.put]
  refine wpAnyH_take (i := 5) (v := ?_) rfl (by kernel_rfl) (by kernel_rfl) (by kernel_rfl) (fun _ _ _ h => h) (Or.inl ⟨by rfl, ?_⟩) h0 ?_
  rotate_left
  · intro wS hSw
    try dsimp only at hSw
    go_simp
    try (with_reducible rfl)
  try simp only [Act.put]
  refine wpAnyH_take (i := 6) (v := ?_) rfl (by kernel_rfl) (by kernel_rfl) (by kernel_rfl) (fun _ _ _ h => h) (Or.inl ⟨by rfl, ?_⟩) h0 ?_
  rotate_left
  · intro wS hSw
    try dsimp only at hSw
    go_simp
    try (with_reducible rfl)
  try simp only [Act.put]
  refine wpAnyH_take (i := 9) (v := ?_) rfl (by kernel_rfl) (by kernel_rfl) (by kernel_rfl) (fun _ _ _ h => h) (Or.inl ⟨by rfl, ?_⟩) h0 ?_
  rotate_left
  · intro wS hSw
    try dsimp only at hSw
    go_simp
    try (with_reducible rfl)
  try simp only [Act.put]
  refine wpAnyH_take (i := 10) (v := ?_) rfl (by kernel_rfl) (by kernel_rfl) (by kernel_rfl) (fun _ _ _ h => h) (Or.inl ⟨by rfl, ?_⟩) h0 ?_
  rotate_left
  · intro wS hSw
    try dsimp only at hSw
    go_simp
    try (with_reducible rfl)
  try simp only [Act.put]
  refine wpAnyH_take (i := 11) (v := ?_) rfl (by kernel_rfl) (by kernel_rfl) (by kernel_rfl) (fun _ _ _ h => h) (Or.inl ⟨by rfl, ?_⟩) h0 ?_
  rotate_left
  · intro wS hSw
    try dsimp only at hSw
    go_simp
    try (with_reducible rfl)
  try simp only [Act.put]
  refine wpAnyH_take (i := 12) (v := ?_) rfl (by kernel_rfl) (by kernel_rfl) (by kernel_rfl) (fun _ _ _ h => h) (Or.inl ⟨by rfl, ?_⟩) h0 ?_
  rotate_left
  · intro wS hSw
    try dsimp only at hSw
    go_simp
    try (with_reducible rfl)
  try simp only [Act.put]
  refine wpAnyH_ready (rs := [2]) (by kernel_rfl) (by simp) ?_
  refine AllReadyH.cons rfl (fun K hK => ?_) AllReadyH.nil
  go_simp
  go_at_call 74
  refine (C3.out _).mono ?_
  rintro e wA ⟨g, rfl, hg, hF, bA⟩
  obtain ⟨bAc, bAf⟩ := bcell bA
  (try simp only [World.size_drew] at bAc)
  (try simp only [World.cell?_drew] at bAc)
  (try simp only [World.size_drew] at bAf)
  (try simp only [World.frozen?_drew] at bAf)
  have sA := GB_step (W := W0) h0 bA
  have zA := sA.2.size
  have f0 : wA.cell? ⟨g, 10, none⟩ = some (.int .i64 C.1.1) := cell_of_row wA g 10 _ _ _ hF
  have f1 : wA.cell? ⟨g, 11, none⟩ = some (.int .i64 C.1.2.1) := cell_of_row wA g 11 _ _ _ hF
  have f2 : wA.cell? ⟨g, 12, none⟩ = some (.int .i64 C.1.2.2.1) := cell_of_row wA g 12 _ _ _ hF
  have f3 : wA.cell? ⟨g, 13, none⟩ = some (.int .i64 C.1.2.2.2) := cell_of_row wA g 13 _ _ _ hF
  have f4 : wA.cell? ⟨g, 14, none⟩ = some (.int .i64 C.2) := cell_of_row wA g 14 _ _ _ hF
  have yA : w.heap.size + 1 < wA.heap.size := by omega
  clear hF
  try go_wp2_with fail
  refine hK.out _ _ ?_ (fun h1 => ?_)
  · exact sA
  clear hK K
  try simp only [Act.put]
  refine wpAnyH_ready (rs := [7]) (by kernel_rfl) (by simp) ?_
  refine AllReadyH.cons rfl (fun K hK => ?_) AllReadyH.nil
  go_simp
  go_at_call 73
  refine (C1.out _).mono ?_
  rintro e w' ⟨rfl, rfl⟩
  try go_wp2_with fail
  refine hK.out _ _ ?_ (fun h2 => ?_)
  · exact sA
  clear hK K
  try simp only [Act.put]
  refine wpAnyH_take (i := 8) (v := ?_) rfl (by kernel_rfl) (by kernel_rfl) (by kernel_rfl) (fun _ _ _ h => h) (Or.inl ⟨by rfl, ?_⟩) h2 ?_
  rotate_left
  · intro wS hSw
    try dsimp only at hSw
    go_simp
    try (with_reducible rfl)
  try simp only [Act.put]
  refine wpAnyH_ready (rs := [13]) (by kernel_rfl) (by simp) ?_
  refine AllReadyH.cons rfl (fun K hK => ?_) AllReadyH.nil
  go_simp
  go_at_call 73
  refine (C2.out _).mono ?_
  rintro e w' ⟨rfl, rfl⟩
  try go_wp2_with fail
  refine hK.out _ _ ?_ (fun h3 => ?_)
  · exact sA
  clear hK K
  try simp only [Act.put]
  refine wpAnyH_take (i := 14) (v := ?_) rfl (by kernel_rfl) (by kernel_rfl) (by kernel_rfl) (fun _ _ _ h => h) (Or.inl ⟨by rfl, ?_⟩) h3 ?_
  rotate_left
  · intro wS hSw
    try dsimp only at hSw
    go_simp
    try (with_reducible rfl)
  try simp only [Act.put]
  refine wpAnyH_take (i := 15) (v := ?_) rfl (by kernel_rfl) (by kernel_rfl) (by kernel_rfl) (fun _ _ _ h => h) (Or.inl ⟨by rfl, ?_⟩) h3 ?_
  rotate_left
  · intro wS hSw
    try dsimp only at hSw
    go_simp
    try (with_reducible rfl)
  try simp only [Act.put]
  refine wpAnyH_ready (rs := [16]) (by kernel_rfl) (by simp) ?_
  refine AllReadyH.cons rfl (fun K hK => ?_) AllReadyH.nil
  go_simp
  refine hK.out _ _ ?_ (fun h4 => ?_)
  · exact sA
  clear hK K
  try simp only [Act.put]
  refine wpAnyH_ready (rs := [17]) (by kernel_rfl) (by simp) ?_
  refine AllReadyH.cons rfl (fun K hK => ?_) AllReadyH.nil
  go_simp
  refine hK.out _ _ ?_ (fun h5 => ?_)
  · exact GB_mk (only_setCell (only_setCell (only_setCell (only_setCell (only_setCell sA.2 (Or.inl rfl) _) (Or.inl rfl) _) (Or.inl rfl) _) (Or.inl rfl) _) (Or.inl rfl) _)
  clear hK K
  try simp only [Act.put]
  refine wpAnyH_done (by kernel_rfl) ?_ _
  go_wp2
  refine bodyPost_ret (by simp [results, Try.results60, go_sem, bAc, kZ, y3]) rfl ⟨rfl, ?_⟩
  refine below_only B0 (R := w.heap.size + 1) ?_ (by omega) (by omega)
  exact h5.2

set_option maxRecDepth 100000 in
set_option maxHeartbeats 4000000 in
theorem celO_11 (n k p q sa i j : Nat) (w : World) (h1 : 1 ≤ k) (h8 : k ≤ 8) (hn : n ≤ 5) (hi : i < 32) (hj : j < 32) (hsa : sa < 5) (ha : (n : Int) - 1 - (p : Int) = (sa : Int)) (hX : btq i sa = 1) (hY : btq j sa = 1) (hm : i = j ∨ flq i sa = j) :
    Calls Try.prog 60 #[.int .i64 (n : Int), tv (k : Int) (p : Int) (q : Int), .int .i64 (i : Int), .int .i64 (j : Int)] w fun e w' => e = .returned (dvD (entD k 1 1)) ∧ Below w.heap.size w w' := by
  have C1 : Hid (∀ W, Calls Try.prog 73 #[.int .i64 (n : Int), .int .i64 (i : Int), .int .i64 (p : Int)] W fun e w' => e = .returned (.int .i64 1) ∧ W = w') := fun W => (l6Bit_any n i p sa W hn hsa hi ha).mono (by rintro e w' ⟨h, rfl⟩; exact ⟨by rw [h, hX]; rfl, rfl⟩)
  have C2 : Hid (∀ W, Calls Try.prog 73 #[.int .i64 (n : Int), .int .i64 (j : Int), .int .i64 (p : Int)] W fun e w' => e = .returned (.int .i64 1) ∧ W = w') := fun W => (l6Bit_any n j p sa W hn hsa hj ha).mono (by rintro e w' ⟨h, rfl⟩; exact ⟨by rw [h, hY]; rfl, rfl⟩)
  obtain ⟨A, hA⟩ : ∃ A, A = entD k 0 0 := ⟨_, rfl⟩
  obtain ⟨B, hB⟩ : ∃ B, B = entD k 0 1 := ⟨_, rfl⟩
  obtain ⟨C, hC⟩ : ∃ C, C = entD k 1 0 := ⟨_, rfl⟩
  obtain ⟨D, hD⟩ : ∃ D, D = entD k 1 1 := ⟨_, rfl⟩
  have C3 : Hid (∀ W, Calls Try.prog 74 #[.int .i64 (k : Int)] W fun e w' => ∃ g, e = .returned (.slice (some ⟨g, 0, none⟩) 4 4) ∧ W.heap.size ≤ g ∧ FourD w' g A B C D ∧ Below W.heap.size W w') := fun W => by rw [hA, hB, hC, hD]; exact one_any k W h1 h8
  rw [← hD]
  have hmk := (mask_at ⟨i, hi⟩ ⟨j, hj⟩ ⟨sa, hsa⟩).2 hm
  simp only at hmk
  have k12 : ¬ (k : Int) = 12 := by omega
  have k9 : ¬ (k : Int) = 9 := by omega
  have k10 : ¬ (k : Int) = 10 := by omega
  have k11 : ¬ (k : Int) = 11 := by omega
  have hw0 : IntKind.wrap .i64 0 = 0 := by decide
  have hw1 : IntKind.wrap .i64 1 = 1 := by decide
  have hw2 : IntKind.wrap .i64 2 = 2 := by decide
  have hw3 : IntKind.wrap .i64 3 = 3 := by decide
  clear hA hB hC hD h1 h8 hi hj hX hY hm
  go_enter Try.func60, Try.ntmps60
  go_wp2_with fail
  refine (pow0_any _).mono ?_
  rintro e w1 ⟨rfl, b1⟩
  have z1 := b1.size
  simp only [World.size_alloc] at z1
  have B1 : Below w.heap.size w w1 := Below.chain (Below.refl _ _) (by go_grown) b1 (by go_size)
  have HG := Lib.hid ((b1.block w.heap.size (by go_size)).trans ((Below.heap_alloc _ _ _ (by go_size)).trans (heap_top _ _ rfl)))
  have HZ := Lib.hid ((b1.block (w.heap.size + 1) (by go_size)).trans (heap_top _ _ (by simp)))
  have g0 : w1.cell? ⟨w.heap.size, 0, none⟩ = some (.int .i64 (k : Int)) := cell_of_row w1 w.heap.size 0 _ _ _ HG.out
  have g1 : w1.cell? ⟨w.heap.size, 1, none⟩ = some (.int .i64 (p : Int)) := cell_of_row w1 w.heap.size 1 _ _ _ HG.out
  have y0 : w.heap.size < w1.heap.size := by omega
  have y1 : w.heap.size + 1 < w1.heap.size := by omega
  clear b1
  go_wp2_with fail
  generalize hW0 : (w1.alloc (.cells #[.int .i64 1, .int .i64 0, .int .i64 0, .int .i64 0, .int .i64 0] 60)).alloc (.cells #[.int .i64 0, .int .i64 0, .int .i64 0, .int .i64 0, .int .i64 0] 60) = W0
  have B0 : Below w.heap.size w W0 := by rw [← hW0]; clear hW0; go_grown
  have kG0 : W0.cell? ⟨w.heap.size, 0, none⟩ = some (.int .i64 (k : Int)) := cell_of_row W0 w.heap.size 0 _ _ _ (by rw [← hW0]; exact (Below.heap_alloc _ _ _ (by go_size)).trans ((Below.heap_alloc _ _ _ (by go_size)).trans HG.out))
  have kG1 : W0.cell? ⟨w.heap.size, 1, none⟩ = some (.int .i64 (p : Int)) := cell_of_row W0 w.heap.size 1 _ _ _ (by rw [← hW0]; exact (Below.heap_alloc _ _ _ (by go_size)).trans ((Below.heap_alloc _ _ _ (by go_size)).trans HG.out))
  have kG2 : W0.cell? ⟨w.heap.size, 2, none⟩ = some (.int .i64 (q : Int)) := cell_of_row W0 w.heap.size 2 _ _ _ (by rw [← hW0]; exact (Below.heap_alloc _ _ _ (by go_size)).trans ((Below.heap_alloc _ _ _ (by go_size)).trans HG.out))
  have kZ := fun o => cell_of_row W0 (w.heap.size + 1) o _ _ _ (by rw [← hW0]; exact (Below.heap_alloc _ _ _ (by go_size)).trans ((Below.heap_alloc _ _ _ (by go_size)).trans HZ.out))
  have fZ := fun o => frozen_of_row W0 (w.heap.size + 1) o _ _ (by rw [← hW0]; exact (Below.heap_alloc _ _ _ (by go_size)).trans ((Below.heap_alloc _ _ _ (by go_size)).trans HZ.out))
  have kO := fun o => cell_of_row W0 w1.heap.size o _ _ _ (by rw [← hW0]; exact (Below.heap_alloc _ _ _ (by go_size)).trans (heap_top _ _ rfl))
  have fO := fun o => frozen_of_row W0 w1.heap.size o _ _ (by rw [← hW0]; exact (Below.heap_alloc _ _ _ (by go_size)).trans (heap_top _ _ rfl))
  have kN := fun o => cell_of_row W0 (w1.heap.size + 1) o _ _ _ (by rw [← hW0]; exact heap_top _ _ (by simp))
  have s0 : w1.heap.size < W0.heap.size := by rw [← hW0]; clear hW0; go_size
  have s1 : w1.heap.size + 1 < W0.heap.size := by rw [← hW0]; clear hW0; go_size
  have y2 : w.heap.size < W0.heap.size := by omega
  have y3 : w.heap.size + 1 < W0.heap.size := by omega
  have n1 : ¬ w.heap.size + 1 = w1.heap.size := by omega
  have n2 : ¬ w1.heap.size = w.heap.size + 1 := by omega
  clear hW0 g0 g1 HG HZ
  refine wp_region_held_drew (S := fun w' => (∀ b o, b < W0.heap.size → b ≠ w.heap.size + 1 → w'.cell? ⟨b, o, none⟩ = W0.cell? ⟨b, o, none⟩) ∧ W0.grownBy w' (some (w.heap.size + 1))) (by kernel_rfl) ?_ (fun h0 => ?_)
  · try dsimp only
    exact GB_mk (only_drew (grownBy_refl' _ _))
  refine wpAnyH_take (i := 0) (v := ?_) rfl (by kernel_rfl) (by kernel_rfl) (by kernel_rfl) (fun _ _ _ h => h) (Or.inl ⟨by rfl, ?_⟩) h0 ?_
  rotate_left
  · intro wS hSw
    try dsimp only at hSw
    go_simp
    try (with_reducible rfl)
  try simp only [Act.put]
  refine wpAnyH_take (i := 1) (v := ?_) rfl (by kernel_rfl) (by kernel_rfl) (by kernel_rfl) (fun _ _ _ h => h) (Or.inl ⟨by rfl, ?_⟩) h0 ?_
  rotate_left
  · intro wS hSw
    try dsimp only at hSw
    go_simp
    try (with_reducible rfl)
  try simp only [Act.put]
  refine wpAnyH_take (i := 3) (v := ?_) rfl (by kernel_rfl) (by kernel_rfl) (by kernel_rfl) (fun _ _ _ h => h) (Or.inl ⟨by rfl, ?_⟩) h0 ?_
  rotate_left
  · intro wS hSw
    try dsimp only at hSw
    go_simp
    try (with_reducible rfl)
  try simp only [Act.put]
  refine wpAnyH_take (i := 4) (v := ?_) rfl (by kernel_rfl) (by kernel_rfl) (by kernel_rfl) (fun _ _ _ h => h) (Or.inl ⟨by rfl, ?_⟩) h0 ?_
  rotate_left
  · intro wS hSw
    try dsimp only at hSw
    go_simp
    try (with_reducible rfl)
  try simp only [Act.put]
  refine wpAnyH_take (i := 5) (v := ?_) rfl (by kernel_rfl) (by kernel_rfl) (by kernel_rfl) (fun _ _ _ h => h) (Or.inl ⟨by rfl, ?_⟩) h0 ?_
  rotate_left
  · intro wS hSw
    try dsimp only at hSw
    go_simp
    try (with_reducible rfl)
  try simp only [Act.put]
  refine wpAnyH_take (i := 6) (v := ?_) rfl (by kernel_rfl) (by kernel_rfl) (by kernel_rfl) (fun _ _ _ h => h) (Or.inl ⟨by rfl, ?_⟩) h0 ?_
  rotate_left
  · intro wS hSw
    try dsimp only at hSw
    go_simp
    try (with_reducible rfl)
  try simp only [Act.put]
  refine wpAnyH_take (i := 9) (v := ?_) rfl (by kernel_rfl) (by kernel_rfl) (by kernel_rfl) (fun _ _ _ h => h) (Or.inl ⟨by rfl, ?_⟩) h0 ?_
  rotate_left
  · intro wS hSw
    try dsimp only at hSw
    go_simp
    try (with_reducible rfl)
  try simp only [Act.put]
  refine wpAnyH_take (i := 10) (v := ?_) rfl (by kernel_rfl) (by kernel_rfl) (by kernel_rfl) (fun _ _ _ h => h) (Or.inl ⟨by rfl, ?_⟩) h0 ?_
  rotate_left
  · intro wS hSw
    try dsimp only at hSw
    go_simp
    try (with_reducible rfl)
  try simp only [Act.put]
  refine wpAnyH_take (i := 11) (v := ?_) rfl (by kernel_rfl) (by kernel_rfl) (by kernel_rfl) (fun _ _ _ h => h) (Or.inl ⟨by rfl, ?_⟩) h0 ?_
  rotate_left
  · intro wS hSw
    try dsimp only at hSw
    go_simp
    try (with_reducible rfl)
  try simp only [Act.put]
  refine wpAnyH_take (i := 12) (v := ?_) rfl (by kernel_rfl) (by kernel_rfl) (by kernel_rfl) (fun _ _ _ h => h) (Or.inl ⟨by rfl, ?_⟩) h0 ?_
  rotate_left
  · intro wS hSw
    try dsimp only at hSw
    go_simp
    try (with_reducible rfl)
  try simp only [Act.put]
  refine wpAnyH_ready (rs := [2]) (by kernel_rfl) (by simp) ?_
  refine AllReadyH.cons rfl (fun K hK => ?_) AllReadyH.nil
  go_simp
  go_at_call 74
  refine (C3.out _).mono ?_
  rintro e wA ⟨g, rfl, hg, hF, bA⟩
  obtain ⟨bAc, bAf⟩ := bcell bA
  (try simp only [World.size_drew] at bAc)
  (try simp only [World.cell?_drew] at bAc)
  (try simp only [World.size_drew] at bAf)
  (try simp only [World.frozen?_drew] at bAf)
  have sA := GB_step (W := W0) h0 bA
  have zA := sA.2.size
  have f0 : wA.cell? ⟨g, 15, none⟩ = some (.int .i64 D.1.1) := cell_of_row wA g 15 _ _ _ hF
  have f1 : wA.cell? ⟨g, 16, none⟩ = some (.int .i64 D.1.2.1) := cell_of_row wA g 16 _ _ _ hF
  have f2 : wA.cell? ⟨g, 17, none⟩ = some (.int .i64 D.1.2.2.1) := cell_of_row wA g 17 _ _ _ hF
  have f3 : wA.cell? ⟨g, 18, none⟩ = some (.int .i64 D.1.2.2.2) := cell_of_row wA g 18 _ _ _ hF
  have f4 : wA.cell? ⟨g, 19, none⟩ = some (.int .i64 D.2) := cell_of_row wA g 19 _ _ _ hF
  have yA : w.heap.size + 1 < wA.heap.size := by omega
  clear hF
  try go_wp2_with fail
  refine hK.out _ _ ?_ (fun h1 => ?_)
  · exact sA
  clear hK K
  try simp only [Act.put]
  refine wpAnyH_ready (rs := [7]) (by kernel_rfl) (by simp) ?_
  refine AllReadyH.cons rfl (fun K hK => ?_) AllReadyH.nil
  go_simp
  go_at_call 73
  refine (C1.out _).mono ?_
  rintro e w' ⟨rfl, rfl⟩
  try go_wp2_with fail
  refine hK.out _ _ ?_ (fun h2 => ?_)
  · exact sA
  clear hK K
  try simp only [Act.put]
  refine wpAnyH_take (i := 8) (v := ?_) rfl (by kernel_rfl) (by kernel_rfl) (by kernel_rfl) (fun _ _ _ h => h) (Or.inl ⟨by rfl, ?_⟩) h2 ?_
  rotate_left
  · intro wS hSw
    try dsimp only at hSw
    go_simp
    try (with_reducible rfl)
  try simp only [Act.put]
  refine wpAnyH_ready (rs := [13]) (by kernel_rfl) (by simp) ?_
  refine AllReadyH.cons rfl (fun K hK => ?_) AllReadyH.nil
  go_simp
  go_at_call 73
  refine (C2.out _).mono ?_
  rintro e w' ⟨rfl, rfl⟩
  try go_wp2_with fail
  refine hK.out _ _ ?_ (fun h3 => ?_)
  · exact sA
  clear hK K
  try simp only [Act.put]
  refine wpAnyH_take (i := 14) (v := ?_) rfl (by kernel_rfl) (by kernel_rfl) (by kernel_rfl) (fun _ _ _ h => h) (Or.inl ⟨by rfl, ?_⟩) h3 ?_
  rotate_left
  · intro wS hSw
    try dsimp only at hSw
    go_simp
    try (with_reducible rfl)
  try simp only [Act.put]
  refine wpAnyH_take (i := 15) (v := ?_) rfl (by kernel_rfl) (by kernel_rfl) (by kernel_rfl) (fun _ _ _ h => h) (Or.inl ⟨by rfl, ?_⟩) h3 ?_
  rotate_left
  · intro wS hSw
    try dsimp only at hSw
    go_simp
    try (with_reducible rfl)
  try simp only [Act.put]
  refine wpAnyH_ready (rs := [16]) (by kernel_rfl) (by simp) ?_
  refine AllReadyH.cons rfl (fun K hK => ?_) AllReadyH.nil
  go_simp
  refine hK.out _ _ ?_ (fun h4 => ?_)
  · exact sA
  clear hK K
  try simp only [Act.put]
  refine wpAnyH_ready (rs := [17]) (by kernel_rfl) (by simp) ?_
  refine AllReadyH.cons rfl (fun K hK => ?_) AllReadyH.nil
  go_simp
  refine hK.out _ _ ?_ (fun h5 => ?_)
  · exact GB_mk (only_setCell (only_setCell (only_setCell (only_setCell (only_setCell sA.2 (Or.inl rfl) _) (Or.inl rfl) _) (Or.inl rfl) _) (Or.inl rfl) _) (Or.inl rfl) _)
  clear hK K
  try simp only [Act.put]
  refine wpAnyH_done (by kernel_rfl) ?_ _
  go_wp2
  refine bodyPost_ret (by simp [results, Try.results60, go_sem, bAc, kZ, y3]) rfl ⟨rfl, ?_⟩
  refine below_only B0 (R := w.heap.size + 1) ?_ (by omega) (by omega)
  exact h5.2

end Go.Proofs.Ytlihnipbdckmkaa
