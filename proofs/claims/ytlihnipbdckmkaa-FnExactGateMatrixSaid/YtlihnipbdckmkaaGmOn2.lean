/- The four cells of a one-qubit gate: the reference's l6One, kinds 4 to 8. -/
import Derived.Test.YtlihnipbdckmkaaGmOne
import Derived.Deep.RegionHeld3
namespace Go.Proofs.Ytlihnipbdckmkaa
open Go.RowKit

set_option maxRecDepth 100000 in
set_option maxHeartbeats 4000000 in
theorem one_4 (w : World) : Calls Try.prog 74 #[.int .i64 4] w fun e w' => OneRes w 4 e w' := by
  go_enter Try.func74, Try.ntmps74
  go_wp2_with fail
  refine (pow0_any _).mono ?_
  rintro e w1 ⟨rfl, b1⟩
  obtain ⟨b1c, b1f⟩ := bcell b1
  have z1 := b1.size
  try simp only [World.size_alloc] at z1
  have B1 : Below w.heap.size w w1 := Below.chain (Below.refl _ _) (by go_grown) b1 (by go_size)
  clear b1c b1f
  go_wp2_with fail
  generalize hW0 : ((w1.alloc (.cells #[.int .i64 1, .int .i64 0, .int .i64 0, .int .i64 0, .int .i64 0] 60)).alloc (.cells #[.int .i64 0, .int .i64 0, .int .i64 0, .int .i64 0, .int .i64 0] 60)).alloc (.cells #[.int .i64 1, .int .i64 0, .int .i64 0, .int .i64 0, .int .i64 1] 60) = W0
  have B0 : Below w.heap.size w W0 := by rw [← hW0]; clear hW0; go_grown
  have k0 := fun o => cell_of_row W0 w1.heap.size o _ _ _ (by rw [← hW0]; exact (Below.heap_alloc _ _ _ (by go_size)).trans ((Below.heap_alloc _ _ _ (by go_size)).trans (heap_top _ _ rfl)))
  have k1 := fun o => cell_of_row W0 (w1.heap.size + 1) o _ _ _ (by rw [← hW0]; exact (Below.heap_alloc _ _ _ (by go_size)).trans (heap_top _ _ (by simp)))
  have k2 := fun o => cell_of_row W0 (w1.heap.size + 2) o _ _ _ (by rw [← hW0]; exact heap_top _ _ (by simp))
  have s0 : w1.heap.size < W0.heap.size := by rw [← hW0]; clear hW0; go_size
  have s1 : w1.heap.size + 1 < W0.heap.size := by rw [← hW0]; clear hW0; go_size
  have s2 : w1.heap.size + 2 < W0.heap.size := by rw [← hW0]; clear hW0; go_size
  clear hW0 b1
  have hw : IntKind.wrap .i64 0 = 0 := IntWalk.i64_in _ (by omega)
  refine wp_region_held_drew (S := fun w' => (∀ b o, b < W0.heap.size → w'.cell? ⟨b, o, none⟩ = W0.cell? ⟨b, o, none⟩) ∧ Below W0.heap.size W0 w') (by kernel_rfl) ?_ (fun h0 => ?_)
  · try dsimp only
    refine SB_mk ?_
    go_grown
  refine wpAnyH_take (i := 0) (v := ?_) rfl (by kernel_rfl) (by kernel_rfl) (by kernel_rfl) (fun _ _ _ h => h) (Or.inl ⟨by rfl, ?_⟩) h0 ?_
  rotate_left
  · intro wS hSw
    try dsimp only at hSw
    go_simp
    try (with_reducible rfl)
  try simp only [Act.put]
  refine wpAnyH_take (i := 1) (v := ?_) rfl (by kernel_rfl) (by kernel_rfl) (by kernel_rfl) (fun _ _ _ h => h) (Or.inl ⟨by rfl, ?_⟩) h0 ?_
  rotate_left
  · intro wS hSw
    try dsimp only at hSw
    go_simp
    try (with_reducible rfl)
  try simp only [Act.put]
  refine wpAnyH_take (i := 2) (v := ?_) rfl (by kernel_rfl) (by kernel_rfl) (by kernel_rfl) (fun _ _ _ h => h) (Or.inl ⟨by rfl, ?_⟩) h0 ?_
  rotate_left
  · intro wS hSw
    try dsimp only at hSw
    go_simp
    try (with_reducible rfl)
  try simp only [Act.put]
  refine wpAnyH_take (i := 4) (v := ?_) rfl (by kernel_rfl) (by kernel_rfl) (by kernel_rfl) (fun _ _ _ h => h) (Or.inl ⟨by rfl, ?_⟩) h0 ?_
  rotate_left
  · intro wS hSw
    try dsimp only at hSw
    go_simp
    try (with_reducible rfl)
  try simp only [Act.put]
  refine wpAnyH_take (i := 5) (v := ?_) rfl (by kernel_rfl) (by kernel_rfl) (by kernel_rfl) (fun _ _ _ h => h) (Or.inl ⟨by rfl, ?_⟩) h0 ?_
  rotate_left
  · intro wS hSw
    try dsimp only at hSw
    go_simp
    try (with_reducible rfl)
  try simp only [Act.put]
  refine wpAnyH_ready (rs := [3]) (by kernel_rfl) (by simp) ?_
  refine AllReadyH.cons rfl (fun K hK => ?_) AllReadyH.nil
  go_simp
  refine hK.out _ _ ?_ (fun h1 => ?_)
  · try dsimp only
    refine SB_mk ?_
    go_grown
  clear hK K h0
  try simp only [Act.put]
  refine wpAnyH_take (i := 6) (v := ?_) rfl (by kernel_rfl) (by kernel_rfl) (by kernel_rfl) (fun _ _ _ h => h) (Or.inl ⟨by rfl, ?_⟩) h1 ?_
  rotate_left
  · intro wS hSw
    try dsimp only at hSw
    go_simp
    try (with_reducible rfl)
  try simp only [Act.put]
  refine wpAnyH_ready (rs := [7]) (by kernel_rfl) (by simp) ?_
  refine AllReadyH.cons rfl (fun K hK => ?_) AllReadyH.nil
  go_simp
  refine hK.out _ _ ?_ (fun h2 => ?_)
  · try dsimp only
    refine SB_mk ?_
    go_grown
  clear hK K h1
  try simp only [Act.put]
  refine wpAnyH_ready (rs := [8]) (by kernel_rfl) (by simp) ?_
  refine AllReadyH.cons rfl (fun K hK => ?_) AllReadyH.nil
  go_simp
  go_at_call 72
  refine (powL4_any _).mono ?_
  rintro e wA ⟨rfl, bA⟩
  obtain ⟨bAc, bAf⟩ := bcell bA
  (try with_reducible have yA := lt_size bA)
  (try with_reducible have yA := lt_sizeD bA)
  have sA := (SB_step (W := W0) h2 bA).2
  have zA := sA.size
  try go_wp2_with fail
  refine hK.out _ _ ?_ (fun h3 => ?_)
  · try dsimp only
    refine SB_mk ?_
    go_grown
  clear hK K h2
  try simp only [Act.put]
  refine wpAnyH_ready (rs := [9]) (by kernel_rfl) (by simp) ?_
  refine AllReadyH.cons rfl (fun K hK => ?_) AllReadyH.nil
  go_simp
  refine hK.out _ _ ?_ (fun h4 => ?_)
  · try dsimp only
    refine SB_mk ?_
    go_grown
  clear hK K h3
  try simp only [Act.put]
  refine wpAnyH_ready (rs := [10]) (by kernel_rfl) (by simp) ?_
  refine AllReadyH.cons rfl (fun K hK => ?_) AllReadyH.nil
  go_simp
  refine hK.out _ _ ?_ (fun h5 => ?_)
  · try dsimp only
    refine SB_mk ?_
    go_grown
  clear hK K h4
  try simp only [Act.put]
  refine wpAnyH_done (by kernel_rfl) ?_ _
  go_wp2
  go_ret
  refine ⟨wA.heap.size, rfl, ?_, heap_top _ _ (by simp), ?_⟩
  · have := B0.size
    omega
  · have B9 : Below w.heap.size w wA := B0.trans (sA.mono B0.size)
    go_grown

set_option maxRecDepth 100000 in
set_option maxHeartbeats 4000000 in
theorem one_5 (w : World) : Calls Try.prog 74 #[.int .i64 5] w fun e w' => OneRes w 5 e w' := by
  go_enter Try.func74, Try.ntmps74
  go_wp2_with fail
  refine (pow0_any _).mono ?_
  rintro e w1 ⟨rfl, b1⟩
  obtain ⟨b1c, b1f⟩ := bcell b1
  have z1 := b1.size
  try simp only [World.size_alloc] at z1
  have B1 : Below w.heap.size w w1 := Below.chain (Below.refl _ _) (by go_grown) b1 (by go_size)
  clear b1c b1f
  go_wp2_with fail
  generalize hW0 : ((w1.alloc (.cells #[.int .i64 1, .int .i64 0, .int .i64 0, .int .i64 0, .int .i64 0] 60)).alloc (.cells #[.int .i64 0, .int .i64 0, .int .i64 0, .int .i64 0, .int .i64 0] 60)).alloc (.cells #[.int .i64 1, .int .i64 0, .int .i64 0, .int .i64 0, .int .i64 1] 60) = W0
  have B0 : Below w.heap.size w W0 := by rw [← hW0]; clear hW0; go_grown
  have k0 := fun o => cell_of_row W0 w1.heap.size o _ _ _ (by rw [← hW0]; exact (Below.heap_alloc _ _ _ (by go_size)).trans ((Below.heap_alloc _ _ _ (by go_size)).trans (heap_top _ _ rfl)))
  have k1 := fun o => cell_of_row W0 (w1.heap.size + 1) o _ _ _ (by rw [← hW0]; exact (Below.heap_alloc _ _ _ (by go_size)).trans (heap_top _ _ (by simp)))
  have k2 := fun o => cell_of_row W0 (w1.heap.size + 2) o _ _ _ (by rw [← hW0]; exact heap_top _ _ (by simp))
  have s0 : w1.heap.size < W0.heap.size := by rw [← hW0]; clear hW0; go_size
  have s1 : w1.heap.size + 1 < W0.heap.size := by rw [← hW0]; clear hW0; go_size
  have s2 : w1.heap.size + 2 < W0.heap.size := by rw [← hW0]; clear hW0; go_size
  clear hW0 b1
  have hw : IntKind.wrap .i64 1 = 1 := IntWalk.i64_in _ (by omega)
  refine wp_region_held_drew (S := fun w' => (∀ b o, b < W0.heap.size → w'.cell? ⟨b, o, none⟩ = W0.cell? ⟨b, o, none⟩) ∧ Below W0.heap.size W0 w') (by kernel_rfl) ?_ (fun h0 => ?_)
  · try dsimp only
    refine SB_mk ?_
    go_grown
  refine wpAnyH_take (i := 0) (v := ?_) rfl (by kernel_rfl) (by kernel_rfl) (by kernel_rfl) (fun _ _ _ h => h) (Or.inl ⟨by rfl, ?_⟩) h0 ?_
  rotate_left
  · intro wS hSw
    try dsimp only at hSw
    go_simp
    try (with_reducible rfl)
  try simp only [Act.put]
  refine wpAnyH_take (i := 1) (v := ?_) rfl (by kernel_rfl) (by kernel_rfl) (by kernel_rfl) (fun _ _ _ h => h) (Or.inl ⟨by rfl, ?_⟩) h0 ?_
  rotate_left
  · intro wS hSw
    try dsimp only at hSw
    go_simp
    try (with_reducible rfl)
  try simp only [Act.put]
  refine wpAnyH_take (i := 2) (v := ?_) rfl (by kernel_rfl) (by kernel_rfl) (by kernel_rfl) (fun _ _ _ h => h) (Or.inl ⟨by rfl, ?_⟩) h0 ?_
  rotate_left
  · intro wS hSw
    try dsimp only at hSw
    go_simp
    try (with_reducible rfl)
  try simp only [Act.put]
  refine wpAnyH_take (i := 4) (v := ?_) rfl (by kernel_rfl) (by kernel_rfl) (by kernel_rfl) (fun _ _ _ h => h) (Or.inl ⟨by rfl, ?_⟩) h0 ?_
  rotate_left
  · intro wS hSw
    try dsimp only at hSw
    go_simp
    try (with_reducible rfl)
  try simp only [Act.put]
  refine wpAnyH_take (i := 5) (v := ?_) rfl (by kernel_rfl) (by kernel_rfl) (by kernel_rfl) (fun _ _ _ h => h) (Or.inl ⟨by rfl, ?_⟩) h0 ?_
  rotate_left
  · intro wS hSw
    try dsimp only at hSw
    go_simp
    try (with_reducible rfl)
  try simp only [Act.put]
  refine wpAnyH_ready (rs := [3]) (by kernel_rfl) (by simp) ?_
  refine AllReadyH.cons rfl (fun K hK => ?_) AllReadyH.nil
  go_simp
  refine hK.out _ _ ?_ (fun h1 => ?_)
  · try dsimp only
    refine SB_mk ?_
    go_grown
  clear hK K h0
  try simp only [Act.put]
  refine wpAnyH_take (i := 6) (v := ?_) rfl (by kernel_rfl) (by kernel_rfl) (by kernel_rfl) (fun _ _ _ h => h) (Or.inl ⟨by rfl, ?_⟩) h1 ?_
  rotate_left
  · intro wS hSw
    try dsimp only at hSw
    go_simp
    try (with_reducible rfl)
  try simp only [Act.put]
  refine wpAnyH_ready (rs := [7]) (by kernel_rfl) (by simp) ?_
  refine AllReadyH.cons rfl (fun K hK => ?_) AllReadyH.nil
  go_simp
  refine hK.out _ _ ?_ (fun h2 => ?_)
  · try dsimp only
    refine SB_mk ?_
    go_grown
  clear hK K h1
  try simp only [Act.put]
  refine wpAnyH_ready (rs := [8]) (by kernel_rfl) (by simp) ?_
  refine AllReadyH.cons rfl (fun K hK => ?_) AllReadyH.nil
  go_simp
  go_at_call 72
  refine (powL2_any _).mono ?_
  rintro e wA ⟨rfl, bA⟩
  obtain ⟨bAc, bAf⟩ := bcell bA
  (try with_reducible have yA := lt_size bA)
  (try with_reducible have yA := lt_sizeD bA)
  have sA := (SB_step (W := W0) h2 bA).2
  have zA := sA.size
  try go_wp2_with fail
  refine hK.out _ _ ?_ (fun h3 => ?_)
  · try dsimp only
    refine SB_mk ?_
    go_grown
  clear hK K h2
  try simp only [Act.put]
  refine wpAnyH_ready (rs := [9]) (by kernel_rfl) (by simp) ?_
  refine AllReadyH.cons rfl (fun K hK => ?_) AllReadyH.nil
  go_simp
  refine hK.out _ _ ?_ (fun h4 => ?_)
  · try dsimp only
    refine SB_mk ?_
    go_grown
  clear hK K h3
  try simp only [Act.put]
  refine wpAnyH_ready (rs := [10]) (by kernel_rfl) (by simp) ?_
  refine AllReadyH.cons rfl (fun K hK => ?_) AllReadyH.nil
  go_simp
  refine hK.out _ _ ?_ (fun h5 => ?_)
  · try dsimp only
    refine SB_mk ?_
    go_grown
  clear hK K h4
  try simp only [Act.put]
  refine wpAnyH_done (by kernel_rfl) ?_ _
  go_wp2
  go_ret
  refine ⟨wA.heap.size, rfl, ?_, heap_top _ _ (by simp), ?_⟩
  · have := B0.size
    omega
  · have B9 : Below w.heap.size w wA := B0.trans (sA.mono B0.size)
    go_grown

set_option maxRecDepth 100000 in
set_option maxHeartbeats 4000000 in
theorem one_6 (w : World) : Calls Try.prog 74 #[.int .i64 6] w fun e w' => OneRes w 6 e w' := by
  go_enter Try.func74, Try.ntmps74
  go_wp2_with fail
  refine (pow0_any _).mono ?_
  rintro e w1 ⟨rfl, b1⟩
  obtain ⟨b1c, b1f⟩ := bcell b1
  have z1 := b1.size
  try simp only [World.size_alloc] at z1
  have B1 : Below w.heap.size w w1 := Below.chain (Below.refl _ _) (by go_grown) b1 (by go_size)
  clear b1c b1f
  go_wp2_with fail
  generalize hW0 : ((w1.alloc (.cells #[.int .i64 1, .int .i64 0, .int .i64 0, .int .i64 0, .int .i64 0] 60)).alloc (.cells #[.int .i64 0, .int .i64 0, .int .i64 0, .int .i64 0, .int .i64 0] 60)).alloc (.cells #[.int .i64 1, .int .i64 0, .int .i64 0, .int .i64 0, .int .i64 1] 60) = W0
  have B0 : Below w.heap.size w W0 := by rw [← hW0]; clear hW0; go_grown
  have k0 := fun o => cell_of_row W0 w1.heap.size o _ _ _ (by rw [← hW0]; exact (Below.heap_alloc _ _ _ (by go_size)).trans ((Below.heap_alloc _ _ _ (by go_size)).trans (heap_top _ _ rfl)))
  have k1 := fun o => cell_of_row W0 (w1.heap.size + 1) o _ _ _ (by rw [← hW0]; exact (Below.heap_alloc _ _ _ (by go_size)).trans (heap_top _ _ (by simp)))
  have k2 := fun o => cell_of_row W0 (w1.heap.size + 2) o _ _ _ (by rw [← hW0]; exact heap_top _ _ (by simp))
  have s0 : w1.heap.size < W0.heap.size := by rw [← hW0]; clear hW0; go_size
  have s1 : w1.heap.size + 1 < W0.heap.size := by rw [← hW0]; clear hW0; go_size
  have s2 : w1.heap.size + 2 < W0.heap.size := by rw [← hW0]; clear hW0; go_size
  clear hW0 b1
  have hw : IntKind.wrap .i64 2 = 2 := IntWalk.i64_in _ (by omega)
  refine wp_region_held_drew (S := fun w' => (∀ b o, b < W0.heap.size → w'.cell? ⟨b, o, none⟩ = W0.cell? ⟨b, o, none⟩) ∧ Below W0.heap.size W0 w') (by kernel_rfl) ?_ (fun h0 => ?_)
  · try dsimp only
    refine SB_mk ?_
    go_grown
  refine wpAnyH_take (i := 0) (v := ?_) rfl (by kernel_rfl) (by kernel_rfl) (by kernel_rfl) (fun _ _ _ h => h) (Or.inl ⟨by rfl, ?_⟩) h0 ?_
  rotate_left
  · intro wS hSw
    try dsimp only at hSw
    go_simp
    try (with_reducible rfl)
  try simp only [Act.put]
  refine wpAnyH_take (i := 1) (v := ?_) rfl (by kernel_rfl) (by kernel_rfl) (by kernel_rfl) (fun _ _ _ h => h) (Or.inl ⟨by rfl, ?_⟩) h0 ?_
  rotate_left
  · intro wS hSw
    try dsimp only at hSw
    go_simp
    try (with_reducible rfl)
  try simp only [Act.put]
  refine wpAnyH_take (i := 2) (v := ?_) rfl (by kernel_rfl) (by kernel_rfl) (by kernel_rfl) (fun _ _ _ h => h) (Or.inl ⟨by rfl, ?_⟩) h0 ?_
  rotate_left
  · intro wS hSw
    try dsimp only at hSw
    go_simp
    try (with_reducible rfl)
  try simp only [Act.put]
  refine wpAnyH_take (i := 4) (v := ?_) rfl (by kernel_rfl) (by kernel_rfl) (by kernel_rfl) (fun _ _ _ h => h) (Or.inl ⟨by rfl, ?_⟩) h0 ?_
  rotate_left
  · intro wS hSw
    try dsimp only at hSw
    go_simp
    try (with_reducible rfl)
  try simp only [Act.put]
  refine wpAnyH_take (i := 5) (v := ?_) rfl (by kernel_rfl) (by kernel_rfl) (by kernel_rfl) (fun _ _ _ h => h) (Or.inl ⟨by rfl, ?_⟩) h0 ?_
  rotate_left
  · intro wS hSw
    try dsimp only at hSw
    go_simp
    try (with_reducible rfl)
  try simp only [Act.put]
  refine wpAnyH_ready (rs := [3]) (by kernel_rfl) (by simp) ?_
  refine AllReadyH.cons rfl (fun K hK => ?_) AllReadyH.nil
  go_simp
  refine hK.out _ _ ?_ (fun h1 => ?_)
  · try dsimp only
    refine SB_mk ?_
    go_grown
  clear hK K h0
  try simp only [Act.put]
  refine wpAnyH_take (i := 6) (v := ?_) rfl (by kernel_rfl) (by kernel_rfl) (by kernel_rfl) (fun _ _ _ h => h) (Or.inl ⟨by rfl, ?_⟩) h1 ?_
  rotate_left
  · intro wS hSw
    try dsimp only at hSw
    go_simp
    try (with_reducible rfl)
  try simp only [Act.put]
  refine wpAnyH_ready (rs := [7]) (by kernel_rfl) (by simp) ?_
  refine AllReadyH.cons rfl (fun K hK => ?_) AllReadyH.nil
  go_simp
  refine hK.out _ _ ?_ (fun h2 => ?_)
  · try dsimp only
    refine SB_mk ?_
    go_grown
  clear hK K h1
  try simp only [Act.put]
  refine wpAnyH_ready (rs := [8]) (by kernel_rfl) (by simp) ?_
  refine AllReadyH.cons rfl (fun K hK => ?_) AllReadyH.nil
  go_simp
  go_at_call 72
  refine (powL6_any _).mono ?_
  rintro e wA ⟨rfl, bA⟩
  obtain ⟨bAc, bAf⟩ := bcell bA
  (try with_reducible have yA := lt_size bA)
  (try with_reducible have yA := lt_sizeD bA)
  have sA := (SB_step (W := W0) h2 bA).2
  have zA := sA.size
  try go_wp2_with fail
  refine hK.out _ _ ?_ (fun h3 => ?_)
  · try dsimp only
    refine SB_mk ?_
    go_grown
  clear hK K h2
  try simp only [Act.put]
  refine wpAnyH_ready (rs := [9]) (by kernel_rfl) (by simp) ?_
  refine AllReadyH.cons rfl (fun K hK => ?_) AllReadyH.nil
  go_simp
  refine hK.out _ _ ?_ (fun h4 => ?_)
  · try dsimp only
    refine SB_mk ?_
    go_grown
  clear hK K h3
  try simp only [Act.put]
  refine wpAnyH_ready (rs := [10]) (by kernel_rfl) (by simp) ?_
  refine AllReadyH.cons rfl (fun K hK => ?_) AllReadyH.nil
  go_simp
  refine hK.out _ _ ?_ (fun h5 => ?_)
  · try dsimp only
    refine SB_mk ?_
    go_grown
  clear hK K h4
  try simp only [Act.put]
  refine wpAnyH_done (by kernel_rfl) ?_ _
  go_wp2
  go_ret
  refine ⟨wA.heap.size, rfl, ?_, heap_top _ _ (by simp), ?_⟩
  · have := B0.size
    omega
  · have B9 : Below w.heap.size w wA := B0.trans (sA.mono B0.size)
    go_grown

set_option maxRecDepth 100000 in
set_option maxHeartbeats 4000000 in
theorem one_7 (w : World) : Calls Try.prog 74 #[.int .i64 7] w fun e w' => OneRes w 7 e w' := by
  go_enter Try.func74, Try.ntmps74
  go_wp2_with fail
  refine (pow0_any _).mono ?_
  rintro e w1 ⟨rfl, b1⟩
  obtain ⟨b1c, b1f⟩ := bcell b1
  have z1 := b1.size
  try simp only [World.size_alloc] at z1
  have B1 : Below w.heap.size w w1 := Below.chain (Below.refl _ _) (by go_grown) b1 (by go_size)
  clear b1c b1f
  go_wp2_with fail
  generalize hW0 : ((w1.alloc (.cells #[.int .i64 1, .int .i64 0, .int .i64 0, .int .i64 0, .int .i64 0] 60)).alloc (.cells #[.int .i64 0, .int .i64 0, .int .i64 0, .int .i64 0, .int .i64 0] 60)).alloc (.cells #[.int .i64 1, .int .i64 0, .int .i64 0, .int .i64 0, .int .i64 1] 60) = W0
  have B0 : Below w.heap.size w W0 := by rw [← hW0]; clear hW0; go_grown
  have k0 := fun o => cell_of_row W0 w1.heap.size o _ _ _ (by rw [← hW0]; exact (Below.heap_alloc _ _ _ (by go_size)).trans ((Below.heap_alloc _ _ _ (by go_size)).trans (heap_top _ _ rfl)))
  have k1 := fun o => cell_of_row W0 (w1.heap.size + 1) o _ _ _ (by rw [← hW0]; exact (Below.heap_alloc _ _ _ (by go_size)).trans (heap_top _ _ (by simp)))
  have k2 := fun o => cell_of_row W0 (w1.heap.size + 2) o _ _ _ (by rw [← hW0]; exact heap_top _ _ (by simp))
  have s0 : w1.heap.size < W0.heap.size := by rw [← hW0]; clear hW0; go_size
  have s1 : w1.heap.size + 1 < W0.heap.size := by rw [← hW0]; clear hW0; go_size
  have s2 : w1.heap.size + 2 < W0.heap.size := by rw [← hW0]; clear hW0; go_size
  clear hW0 b1
  have hw : IntKind.wrap .i64 3 = 3 := IntWalk.i64_in _ (by omega)
  refine wp_region_held_drew (S := fun w' => (∀ b o, b < W0.heap.size → w'.cell? ⟨b, o, none⟩ = W0.cell? ⟨b, o, none⟩) ∧ Below W0.heap.size W0 w') (by kernel_rfl) ?_ (fun h0 => ?_)
  · try dsimp only
    refine SB_mk ?_
    go_grown
  refine wpAnyH_take (i := 0) (v := ?_) rfl (by kernel_rfl) (by kernel_rfl) (by kernel_rfl) (fun _ _ _ h => h) (Or.inl ⟨by rfl, ?_⟩) h0 ?_
  rotate_left
  · intro wS hSw
    try dsimp only at hSw
    go_simp
    try (with_reducible rfl)
  try simp only [Act.put]
  refine wpAnyH_take (i := 1) (v := ?_) rfl (by kernel_rfl) (by kernel_rfl) (by kernel_rfl) (fun _ _ _ h => h) (Or.inl ⟨by rfl, ?_⟩) h0 ?_
  rotate_left
  · intro wS hSw
    try dsimp only at hSw
    go_simp
    try (with_reducible rfl)
  try simp only [Act.put]
  refine wpAnyH_take (i := 2) (v := ?_) rfl (by kernel_rfl) (by kernel_rfl) (by kernel_rfl) (fun _ _ _ h => h) (Or.inl ⟨by rfl, ?_⟩) h0 ?_
  rotate_left
  · intro wS hSw
    try dsimp only at hSw
    go_simp
    try (with_reducible rfl)
  try simp only [Act.put]
  refine wpAnyH_take (i := 4) (v := ?_) rfl (by kernel_rfl) (by kernel_rfl) (by kernel_rfl) (fun _ _ _ h => h) (Or.inl ⟨by rfl, ?_⟩) h0 ?_
  rotate_left
  · intro wS hSw
    try dsimp only at hSw
    go_simp
    try (with_reducible rfl)
  try simp only [Act.put]
  refine wpAnyH_take (i := 5) (v := ?_) rfl (by kernel_rfl) (by kernel_rfl) (by kernel_rfl) (fun _ _ _ h => h) (Or.inl ⟨by rfl, ?_⟩) h0 ?_
  rotate_left
  · intro wS hSw
    try dsimp only at hSw
    go_simp
    try (with_reducible rfl)
  try simp only [Act.put]
  refine wpAnyH_ready (rs := [3]) (by kernel_rfl) (by simp) ?_
  refine AllReadyH.cons rfl (fun K hK => ?_) AllReadyH.nil
  go_simp
  refine hK.out _ _ ?_ (fun h1 => ?_)
  · try dsimp only
    refine SB_mk ?_
    go_grown
  clear hK K h0
  try simp only [Act.put]
  refine wpAnyH_take (i := 6) (v := ?_) rfl (by kernel_rfl) (by kernel_rfl) (by kernel_rfl) (fun _ _ _ h => h) (Or.inl ⟨by rfl, ?_⟩) h1 ?_
  rotate_left
  · intro wS hSw
    try dsimp only at hSw
    go_simp
    try (with_reducible rfl)
  try simp only [Act.put]
  refine wpAnyH_ready (rs := [7]) (by kernel_rfl) (by simp) ?_
  refine AllReadyH.cons rfl (fun K hK => ?_) AllReadyH.nil
  go_simp
  refine hK.out _ _ ?_ (fun h2 => ?_)
  · try dsimp only
    refine SB_mk ?_
    go_grown
  clear hK K h1
  try simp only [Act.put]
  refine wpAnyH_ready (rs := [8]) (by kernel_rfl) (by simp) ?_
  refine AllReadyH.cons rfl (fun K hK => ?_) AllReadyH.nil
  go_simp
  go_at_call 72
  refine (powL1_any _).mono ?_
  rintro e wA ⟨rfl, bA⟩
  obtain ⟨bAc, bAf⟩ := bcell bA
  (try with_reducible have yA := lt_size bA)
  (try with_reducible have yA := lt_sizeD bA)
  have sA := (SB_step (W := W0) h2 bA).2
  have zA := sA.size
  try go_wp2_with fail
  refine hK.out _ _ ?_ (fun h3 => ?_)
  · try dsimp only
    refine SB_mk ?_
    go_grown
  clear hK K h2
  try simp only [Act.put]
  refine wpAnyH_ready (rs := [9]) (by kernel_rfl) (by simp) ?_
  refine AllReadyH.cons rfl (fun K hK => ?_) AllReadyH.nil
  go_simp
  refine hK.out _ _ ?_ (fun h4 => ?_)
  · try dsimp only
    refine SB_mk ?_
    go_grown
  clear hK K h3
  try simp only [Act.put]
  refine wpAnyH_ready (rs := [10]) (by kernel_rfl) (by simp) ?_
  refine AllReadyH.cons rfl (fun K hK => ?_) AllReadyH.nil
  go_simp
  refine hK.out _ _ ?_ (fun h5 => ?_)
  · try dsimp only
    refine SB_mk ?_
    go_grown
  clear hK K h4
  try simp only [Act.put]
  refine wpAnyH_done (by kernel_rfl) ?_ _
  go_wp2
  go_ret
  refine ⟨wA.heap.size, rfl, ?_, heap_top _ _ (by simp), ?_⟩
  · have := B0.size
    omega
  · have B9 : Below w.heap.size w wA := B0.trans (sA.mono B0.size)
    go_grown

set_option maxRecDepth 100000 in
set_option maxHeartbeats 4000000 in
theorem one_8 (w : World) : Calls Try.prog 74 #[.int .i64 8] w fun e w' => OneRes w 8 e w' := by
  go_enter Try.func74, Try.ntmps74
  go_wp2_with fail
  refine (pow0_any _).mono ?_
  rintro e w1 ⟨rfl, b1⟩
  obtain ⟨b1c, b1f⟩ := bcell b1
  have z1 := b1.size
  try simp only [World.size_alloc] at z1
  have B1 : Below w.heap.size w w1 := Below.chain (Below.refl _ _) (by go_grown) b1 (by go_size)
  clear b1c b1f
  go_wp2_with fail
  generalize hW0 : ((w1.alloc (.cells #[.int .i64 1, .int .i64 0, .int .i64 0, .int .i64 0, .int .i64 0] 60)).alloc (.cells #[.int .i64 0, .int .i64 0, .int .i64 0, .int .i64 0, .int .i64 0] 60)).alloc (.cells #[.int .i64 1, .int .i64 0, .int .i64 0, .int .i64 0, .int .i64 1] 60) = W0
  have B0 : Below w.heap.size w W0 := by rw [← hW0]; clear hW0; go_grown
  have k0 := fun o => cell_of_row W0 w1.heap.size o _ _ _ (by rw [← hW0]; exact (Below.heap_alloc _ _ _ (by go_size)).trans ((Below.heap_alloc _ _ _ (by go_size)).trans (heap_top _ _ rfl)))
  have k1 := fun o => cell_of_row W0 (w1.heap.size + 1) o _ _ _ (by rw [← hW0]; exact (Below.heap_alloc _ _ _ (by go_size)).trans (heap_top _ _ (by simp)))
  have k2 := fun o => cell_of_row W0 (w1.heap.size + 2) o _ _ _ (by rw [← hW0]; exact heap_top _ _ (by simp))
  have s0 : w1.heap.size < W0.heap.size := by rw [← hW0]; clear hW0; go_size
  have s1 : w1.heap.size + 1 < W0.heap.size := by rw [← hW0]; clear hW0; go_size
  have s2 : w1.heap.size + 2 < W0.heap.size := by rw [← hW0]; clear hW0; go_size
  clear hW0 b1
  have hw : IntKind.wrap .i64 4 = 4 := IntWalk.i64_in _ (by omega)
  refine wp_region_held_drew (S := fun w' => (∀ b o, b < W0.heap.size → w'.cell? ⟨b, o, none⟩ = W0.cell? ⟨b, o, none⟩) ∧ Below W0.heap.size W0 w') (by kernel_rfl) ?_ (fun h0 => ?_)
  · try dsimp only
    refine SB_mk ?_
    go_grown
  refine wpAnyH_take (i := 0) (v := ?_) rfl (by kernel_rfl) (by kernel_rfl) (by kernel_rfl) (fun _ _ _ h => h) (Or.inl ⟨by rfl, ?_⟩) h0 ?_
  rotate_left
  · intro wS hSw
    try dsimp only at hSw
    go_simp
    try (with_reducible rfl)
  try simp only [Act.put]
  refine wpAnyH_take (i := 1) (v := ?_) rfl (by kernel_rfl) (by kernel_rfl) (by kernel_rfl) (fun _ _ _ h => h) (Or.inl ⟨by rfl, ?_⟩) h0 ?_
  rotate_left
  · intro wS hSw
    try dsimp only at hSw
    go_simp
    try (with_reducible rfl)
  try simp only [Act.put]
  refine wpAnyH_take (i := 2) (v := ?_) rfl (by kernel_rfl) (by kernel_rfl) (by kernel_rfl) (fun _ _ _ h => h) (Or.inl ⟨by rfl, ?_⟩) h0 ?_
  rotate_left
  · intro wS hSw
    try dsimp only at hSw
    go_simp
    try (with_reducible rfl)
  try simp only [Act.put]
  refine wpAnyH_take (i := 4) (v := ?_) rfl (by kernel_rfl) (by kernel_rfl) (by kernel_rfl) (fun _ _ _ h => h) (Or.inl ⟨by rfl, ?_⟩) h0 ?_
  rotate_left
  · intro wS hSw
    try dsimp only at hSw
    go_simp
    try (with_reducible rfl)
  try simp only [Act.put]
  refine wpAnyH_take (i := 5) (v := ?_) rfl (by kernel_rfl) (by kernel_rfl) (by kernel_rfl) (fun _ _ _ h => h) (Or.inl ⟨by rfl, ?_⟩) h0 ?_
  rotate_left
  · intro wS hSw
    try dsimp only at hSw
    go_simp
    try (with_reducible rfl)
  try simp only [Act.put]
  refine wpAnyH_ready (rs := [3]) (by kernel_rfl) (by simp) ?_
  refine AllReadyH.cons rfl (fun K hK => ?_) AllReadyH.nil
  go_simp
  refine hK.out _ _ ?_ (fun h1 => ?_)
  · try dsimp only
    refine SB_mk ?_
    go_grown
  clear hK K h0
  try simp only [Act.put]
  refine wpAnyH_take (i := 6) (v := ?_) rfl (by kernel_rfl) (by kernel_rfl) (by kernel_rfl) (fun _ _ _ h => h) (Or.inl ⟨by rfl, ?_⟩) h1 ?_
  rotate_left
  · intro wS hSw
    try dsimp only at hSw
    go_simp
    try (with_reducible rfl)
  try simp only [Act.put]
  refine wpAnyH_ready (rs := [7]) (by kernel_rfl) (by simp) ?_
  refine AllReadyH.cons rfl (fun K hK => ?_) AllReadyH.nil
  go_simp
  refine hK.out _ _ ?_ (fun h2 => ?_)
  · try dsimp only
    refine SB_mk ?_
    go_grown
  clear hK K h1
  try simp only [Act.put]
  refine wpAnyH_ready (rs := [8]) (by kernel_rfl) (by simp) ?_
  refine AllReadyH.cons rfl (fun K hK => ?_) AllReadyH.nil
  go_simp
  go_at_call 72
  refine (powL7_any _).mono ?_
  rintro e wA ⟨rfl, bA⟩
  obtain ⟨bAc, bAf⟩ := bcell bA
  (try with_reducible have yA := lt_size bA)
  (try with_reducible have yA := lt_sizeD bA)
  have sA := (SB_step (W := W0) h2 bA).2
  have zA := sA.size
  try go_wp2_with fail
  refine hK.out _ _ ?_ (fun h3 => ?_)
  · try dsimp only
    refine SB_mk ?_
    go_grown
  clear hK K h2
  try simp only [Act.put]
  refine wpAnyH_ready (rs := [9]) (by kernel_rfl) (by simp) ?_
  refine AllReadyH.cons rfl (fun K hK => ?_) AllReadyH.nil
  go_simp
  refine hK.out _ _ ?_ (fun h4 => ?_)
  · try dsimp only
    refine SB_mk ?_
    go_grown
  clear hK K h3
  try simp only [Act.put]
  refine wpAnyH_ready (rs := [10]) (by kernel_rfl) (by simp) ?_
  refine AllReadyH.cons rfl (fun K hK => ?_) AllReadyH.nil
  go_simp
  refine hK.out _ _ ?_ (fun h5 => ?_)
  · try dsimp only
    refine SB_mk ?_
    go_grown
  clear hK K h4
  try simp only [Act.put]
  refine wpAnyH_done (by kernel_rfl) ?_ _
  go_wp2
  go_ret
  refine ⟨wA.heap.size, rfl, ?_, heap_top _ _ (by simp), ?_⟩
  · have := B0.size
    omega
  · have B9 : Below w.heap.size w wA := B0.trans (sA.mono B0.size)
    go_grown

theorem one_any (k : Nat) (w : World) (h1 : 1 ≤ k) (h8 : k ≤ 8) : Calls Try.prog 74 #[.int .i64 (k : Int)] w fun e w' => OneRes w k e w' := by
  obtain rfl | rfl | rfl | rfl | rfl | rfl | rfl | rfl : k = 1 ∨ k = 2 ∨ k = 3 ∨ k = 4 ∨ k = 5 ∨ k = 6 ∨ k = 7 ∨ k = 8 := by omega
  · exact one_1 w
  · exact one_2 w
  · exact one_3 w
  · exact one_4 w
  · exact one_5 w
  · exact one_6 w
  · exact one_7 w
  · exact one_8 w
end Go.Proofs.Ytlihnipbdckmkaa
