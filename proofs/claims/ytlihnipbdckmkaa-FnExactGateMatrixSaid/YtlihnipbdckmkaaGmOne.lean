/- The four cells of a one-qubit gate: the reference's l6One. -/
import Derived.Test.YtlihnipbdckmkaaGmClo
import Derived.Test.YtlihnipbdckmkaaDraw
import Derived.Test.YtlihnipbdckmkaaRingSpec
import Derived.Deep.RegionHeld3
namespace Go.Proofs.Ytlihnipbdckmkaa
open Go.RowKit

set_option maxHeartbeats 1000000 in
theorem l2NegH_any (w : World) :
    Calls Try.prog 79 #[dv 1 0 0 0 1] w fun r w' => r = .returned (dv (-1) 0 0 0 1) ∧ Below w.heap.size w w' := by
  have Hx : Hid (rOk 1 0 0 0 = true) := by show _ = _; decide
  have Hn : Hid (∀ W, Calls Try.prog 81 #[rv 1 0 0 0] W fun e w' => e = .returned (rv (-1) 0 0 0) ∧ Below W.heap.size W w') := fun W => l1Neg_any 1 0 0 0 W Hx.out
  go_enter Try.func79, Try.ntmps79
  go_upto_region 1 with fail
  generalize hW0 : (w.alloc (.cells #[.int .i64 1, .int .i64 0, .int .i64 0, .int .i64 0, .int .i64 1] 60)).alloc (.cells #[.int .i64 0, .int .i64 0, .int .i64 0, .int .i64 0, .int .i64 0] 60) = W0
  have B0 : Below w.heap.size w W0 := by rw [← hW0]; go_grown
  have k0 : ∀ o, W0.cell? ⟨w.heap.size, o, none⟩ = _ := fun o => cell_of_row W0 w.heap.size o _ _ _ (by rw [← hW0]; exact (Below.heap_alloc _ _ _ (by simp)).trans (heap_top _ _ rfl))
  have k1 : ∀ o, W0.cell? ⟨w.heap.size + 1, o, none⟩ = _ := fun o => cell_of_row W0 (w.heap.size + 1) o _ _ _ (by rw [← hW0]; exact heap_top _ _ (by simp))
  have f1 : ∀ o, W0.frozen? ⟨w.heap.size + 1, o, none⟩ = false := fun o => frozen_of_row W0 (w.heap.size + 1) o _ _ (by rw [← hW0]; exact heap_top _ _ (by simp))
  have y00 : w.heap.size < W0.heap.size := by rw [← hW0]; go_size
  have y01 : w.heap.size + 1 < W0.heap.size := by rw [← hW0]; go_size
  clear hW0
  go_region_held3 (fun w' => (∀ b o, b < W0.heap.size → b ≠ w.heap.size + 1 → w'.cell? ⟨b, o, none⟩ = W0.cell? ⟨b, o, none⟩) ∧ W0.grownBy w' (some (w.heap.size + 1))) ((refine GB_mk ?_; repeat (first | (with_reducible exact grownBy_refl' _ _) | (with_reducible assumption) | (with_reducible refine only_drew ?_) | (with_reducible refine only_alloc ?_ _) | (with_reducible refine only_setCell ?_ (by first | (left; rfl) | (right; omega) | (right; simp; omega)) _)))) (first | (go_at_call 81; refine (Hn.out _).mono ?_; rintro e wA0 ⟨rfl, bA0⟩; obtain ⟨bA0c, bA0f⟩ := bcell bA0; (try simp only [World.size_drew] at bA0c); (try simp only [World.cell?_drew] at bA0c); (try simp only [World.size_drew] at bA0f); (try simp only [World.frozen?_drew] at bA0f); have sA0 := (GB_step (W := W0) (by with_reducible assumption) bA0).2; have zA0 := sA0.size; have yA0_0 : w.heap.size < wA0.heap.size := (by omega); have yA0_1 : w.heap.size + 1 < wA0.heap.size := (by omega)))
  go_wp2
  refine bodyPost_ret (by simp [results, Try.results79, go_sem, bA0c, k1, y01]) rfl ⟨rfl, ?_⟩
  refine below_only B0 (R := w.heap.size + 1) ?_ (by omega) (by omega)
  exact only_setCell (only_setCell (only_setCell (only_setCell (only_setCell sA0 (Or.inl rfl) _) (Or.inl rfl) _) (Or.inl rfl) _) (Or.inl rfl) _) (Or.inl rfl) _

def d5V (x : D5) : List Value := [.int .i64 x.1.1, .int .i64 x.1.2.1, .int .i64 x.1.2.2.1, .int .i64 x.1.2.2.2, .int .i64 x.2]
/-- four dyadic numbers in block g -/
def FourD (w : World) (g : Nat) (a b c d : D5) : Prop := w.heap[g]? = some (.cells (d5V a ++ d5V b ++ d5V c ++ d5V d).toArray 60 (0, 0))
/-- four dyadic numbers in new memory -/
def OneRes (w : World) (k : Nat) (e : Ending) (w' : World) : Prop := ∃ g, e = .returned (.slice (some ⟨g, 0, none⟩) 4 4) ∧ w.heap.size ≤ g ∧ FourD w' g (entD k 0 0) (entD k 0 1) (entD k 1 0) (entD k 1 1) ∧ Below w.heap.size w w'
theorem pow0_any (w : World) : Calls Try.prog 72 #[.int .i64 0] w fun r w' => r = .returned (dv 1 0 0 0 0) ∧ Below w.heap.size w w' := l2Power_any 0 w (by omega)
theorem powL1_any (w : World) : Calls Try.prog 72 #[.int .i64 1] w fun r w' => r = .returned (dvD (powQ 1, 0)) ∧ Below w.heap.size w w' := l2Power_any 1 w (by omega)
theorem powL2_any (w : World) : Calls Try.prog 72 #[.int .i64 2] w fun r w' => r = .returned (dvD (powQ 2, 0)) ∧ Below w.heap.size w w' := l2Power_any 2 w (by omega)
theorem powL4_any (w : World) : Calls Try.prog 72 #[.int .i64 4] w fun r w' => r = .returned (dvD (powQ 4, 0)) ∧ Below w.heap.size w w' := l2Power_any 4 w (by omega)
theorem powL6_any (w : World) : Calls Try.prog 72 #[.int .i64 6] w fun r w' => r = .returned (dvD (powQ 6, 0)) ∧ Below w.heap.size w w' := l2Power_any 6 w (by omega)
theorem powL7_any (w : World) : Calls Try.prog 72 #[.int .i64 7] w fun r w' => r = .returned (dvD (powQ 7, 0)) ∧ Below w.heap.size w w' := l2Power_any 7 w (by omega)

set_option maxRecDepth 100000 in
set_option maxHeartbeats 4000000 in
theorem one_1 (w : World) : Calls Try.prog 74 #[.int .i64 1] w fun e w' => OneRes w 1 e w' := by
  go_enter Try.func74, Try.ntmps74
  go_wp2_with fail
  refine (pow0_any _).mono ?_
  rintro e w1 ⟨rfl, b1⟩
  obtain ⟨b1c, b1f⟩ := bcell b1
  have z1 := b1.size
  try simp only [World.size_alloc] at z1
  have B1 : Below w.heap.size w w1 := Below.chain (Below.refl _ _) (by go_grown) b1 (by go_size)
  clear b1c b1f
  go_wp2_with fail
  generalize hW0 : ((w1.alloc (.cells #[.int .i64 1, .int .i64 0, .int .i64 0, .int .i64 0, .int .i64 0] 60)).alloc (.cells #[.int .i64 0, .int .i64 0, .int .i64 0, .int .i64 0, .int .i64 0] 60)).alloc (.cells #[.int .i64 1, .int .i64 0, .int .i64 0, .int .i64 0, .int .i64 1] 60) = W0
  have B0 : Below w.heap.size w W0 := by rw [← hW0]; clear hW0; go_grown
  have k0 := fun o => cell_of_row W0 w1.heap.size o _ _ _ (by rw [← hW0]; exact (Below.heap_alloc _ _ _ (by go_size)).trans ((Below.heap_alloc _ _ _ (by go_size)).trans (heap_top _ _ rfl)))
  have k1 := fun o => cell_of_row W0 (w1.heap.size + 1) o _ _ _ (by rw [← hW0]; exact (Below.heap_alloc _ _ _ (by go_size)).trans (heap_top _ _ (by simp)))
  have k2 := fun o => cell_of_row W0 (w1.heap.size + 2) o _ _ _ (by rw [← hW0]; exact heap_top _ _ (by simp))
  have s0 : w1.heap.size < W0.heap.size := by rw [← hW0]; clear hW0; go_size
  have s1 : w1.heap.size + 1 < W0.heap.size := by rw [← hW0]; clear hW0; go_size
  have s2 : w1.heap.size + 2 < W0.heap.size := by rw [← hW0]; clear hW0; go_size
  clear hW0 b1
  go_region_held3 (fun w' => (∀ b o, b < W0.heap.size → w'.cell? ⟨b, o, none⟩ = W0.cell? ⟨b, o, none⟩) ∧ Below W0.heap.size W0 w') ((refine SB_mk ?_; go_grown)) (first | (go_at_call 79; with_reducible refine (l2NegH_any _).mono ?_; rintro e wA ⟨rfl, bA⟩; obtain ⟨bAc, bAf⟩ := bcell bA; (try with_reducible have yA := lt_size bA); (try with_reducible have yA := lt_sizeD bA); (try with_reducible have yB := Nat.lt_of_lt_of_le (by assumption) bA.size); have sA := (SB_step (W := W0) (by with_reducible assumption) bA).2; have zA := sA.size))
  all_goals
    go_wp2
    go_ret
    refine ⟨_, rfl, ?_, heap_top _ _ (by simp), ?_⟩
    · have := B0.size
      have := sA.size
      omega
    · have B9 : Below w.heap.size w wA := B0.trans (sA.mono B0.size)
      go_grown

set_option maxRecDepth 100000 in
set_option maxHeartbeats 4000000 in
theorem one_2 (w : World) : Calls Try.prog 74 #[.int .i64 2] w fun e w' => OneRes w 2 e w' := by
  go_enter Try.func74, Try.ntmps74
  go_wp2_with fail
  refine (pow0_any _).mono ?_
  rintro e w1 ⟨rfl, b1⟩
  obtain ⟨b1c, b1f⟩ := bcell b1
  have z1 := b1.size
  try simp only [World.size_alloc] at z1
  have B1 : Below w.heap.size w w1 := Below.chain (Below.refl _ _) (by go_grown) b1 (by go_size)
  clear b1c b1f
  go_wp2_with fail
  go_ret
  refine ⟨w1.heap.size + 1 + 1 + 1, rfl, by omega, heap_top _ _ (by simp), ?_⟩
  go_grown

set_option maxRecDepth 100000 in
set_option maxHeartbeats 4000000 in
theorem one_3 (w : World) : Calls Try.prog 74 #[.int .i64 3] w fun e w' => OneRes w 3 e w' := by
  go_enter Try.func74, Try.ntmps74
  go_wp2_with fail
  refine (pow0_any _).mono ?_
  rintro e w1 ⟨rfl, b1⟩
  obtain ⟨b1c, b1f⟩ := bcell b1
  have z1 := b1.size
  try simp only [World.size_alloc] at z1
  have B1 : Below w.heap.size w w1 := Below.chain (Below.refl _ _) (by go_grown) b1 (by go_size)
  clear b1c b1f
  go_wp2_with fail
  generalize hW0 : ((w1.alloc (.cells #[.int .i64 1, .int .i64 0, .int .i64 0, .int .i64 0, .int .i64 0] 60)).alloc (.cells #[.int .i64 0, .int .i64 0, .int .i64 0, .int .i64 0, .int .i64 0] 60)).alloc (.cells #[.int .i64 1, .int .i64 0, .int .i64 0, .int .i64 0, .int .i64 1] 60) = W0
  have B0 : Below w.heap.size w W0 := by rw [← hW0]; clear hW0; go_grown
  have k0 := fun o => cell_of_row W0 w1.heap.size o _ _ _ (by rw [← hW0]; exact (Below.heap_alloc _ _ _ (by go_size)).trans ((Below.heap_alloc _ _ _ (by go_size)).trans (heap_top _ _ rfl)))
  have k1 := fun o => cell_of_row W0 (w1.heap.size + 1) o _ _ _ (by rw [← hW0]; exact (Below.heap_alloc _ _ _ (by go_size)).trans (heap_top _ _ (by simp)))
  have k2 := fun o => cell_of_row W0 (w1.heap.size + 2) o _ _ _ (by rw [← hW0]; exact heap_top _ _ (by simp))
  have s0 : w1.heap.size < W0.heap.size := by rw [← hW0]; clear hW0; go_size
  have s1 : w1.heap.size + 1 < W0.heap.size := by rw [← hW0]; clear hW0; go_size
  have s2 : w1.heap.size + 2 < W0.heap.size := by rw [← hW0]; clear hW0; go_size
  clear hW0 b1
  go_region_held3 (fun w' => (∀ b o, b < W0.heap.size → w'.cell? ⟨b, o, none⟩ = W0.cell? ⟨b, o, none⟩) ∧ Below W0.heap.size W0 w') ((refine SB_mk ?_; go_grown)) (first | (go_at_call 72; with_reducible refine (powL6_any _).mono ?_; rintro e wA ⟨rfl, bA⟩; obtain ⟨bAc, bAf⟩ := bcell bA; (try with_reducible have yA := lt_size bA); (try with_reducible have yA := lt_sizeD bA); (try with_reducible have yB := Nat.lt_of_lt_of_le (by assumption) bA.size); have sA := (SB_step (W := W0) (by with_reducible assumption) bA).2; have zA := sA.size) | (go_at_call 72; with_reducible refine (powL2_any _).mono ?_; rintro e wA ⟨rfl, bA⟩; obtain ⟨bAc, bAf⟩ := bcell bA; (try with_reducible have yA := lt_size bA); (try with_reducible have yA := lt_sizeD bA); (try with_reducible have yB := Nat.lt_of_lt_of_le (by assumption) bA.size); have sA := (SB_step (W := W0) (by with_reducible assumption) bA).2; have zA := sA.size))
  all_goals
    go_wp2
    go_ret
    refine ⟨_, rfl, ?_, heap_top _ _ (by simp), ?_⟩
    · have := B0.size
      have := sA.size
      omega
    · have B9 : Below w.heap.size w wA := B0.trans (sA.mono B0.size)
      go_grown

end Go.Proofs.Ytlihnipbdckmkaa
