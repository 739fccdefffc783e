/- spec.SubRing. -/
import Derived.Test.YtpogpooomdpomaaRingSpec
import Derived.Test.YtpogpooomdpomaaDraw
namespace Go.Proofs.Ytpogpooomdpomaa
open Go.RowKit

set_option maxHeartbeats 1000000 in
theorem specSub_any (a b c d a' b' c' d' : Int) (w : World) :
    Calls Try.prog 33 #[rv a b c d, rv a' b' c' d'] w fun e w' => e = .returned (ringRes (rOk a b c d && rOk a' b' c' d') (a - a') (b - b') (c - c') (d - d')) ∧ Below w.heap.size w w' := by
  rcases hx : rOk a b c d with _ | _
  · go_enter Try.func33, Try.ntmps33
    go_wp2_with fail
    refine (l1Good_any _ _ _ _ _).mono ?_
    rintro e w1 ⟨rfl, b1⟩
    obtain ⟨b1c, b1f⟩ := bcell b1
    have z1 := b1.size
    try simp only [World.size_alloc] at z1
    have B1 : Below w.heap.size w w1 := Below.chain (Below.refl _ _) (by go_grown) b1 (by go_size)
    have y10 : w.heap.size < w1.heap.size := by omega
    have y11 : w.heap.size + 1 < w1.heap.size := by omega
    have y12 : w.heap.size + 2 < w1.heap.size := by omega
    go_wp2
    refine bodyPost_ret (by simp [results, Try.results33, go_sem, b1c, ringRes, rI_f]) rfl ⟨rfl, ?_⟩
    go_grown
  rcases hy : rOk a' b' c' d' with _ | _
  · go_enter Try.func33, Try.ntmps33
    go_wp2_with fail
    refine (l1Good_any _ _ _ _ _).mono ?_
    rintro e w1 ⟨rfl, b1⟩
    obtain ⟨b1c, b1f⟩ := bcell b1
    have z1 := b1.size
    try simp only [World.size_alloc] at z1
    have B1 : Below w.heap.size w w1 := Below.chain (Below.refl _ _) (by go_grown) b1 (by go_size)
    have y10 : w.heap.size < w1.heap.size := by omega
    have y11 : w.heap.size + 1 < w1.heap.size := by omega
    have y12 : w.heap.size + 2 < w1.heap.size := by omega
    go_wp2_with fail
    refine (l1Good_any _ _ _ _ _).mono ?_
    rintro e w2 ⟨rfl, b2⟩
    have z2 := b2.size
    try simp only [World.size_alloc] at z2
    have C2 := Below.chain b1 (by go_grown) b2 (by go_size)
    have B2 : Below w.heap.size w w2 := Below.chain B1 (by go_grown) b2 (by go_size)
    obtain ⟨b2c, b2f⟩ := bcell b2
    obtain ⟨C2c, C2f⟩ := bcellB C2
    have y20 : w.heap.size < w2.heap.size := by omega
    have y21 : w.heap.size + 1 < w2.heap.size := by omega
    have y22 : w.heap.size + 2 < w2.heap.size := by omega
    try (have v21 : w1.heap.size < w2.heap.size := by omega)
    go_wp2
    refine bodyPost_ret (by simp [results, Try.results33, go_sem, C2c, ringRes, rI_f]) rfl ⟨rfl, ?_⟩
    go_grown
  · have Hx := Lib.hid hx
    have Hy := Lib.hid hy
    go_enter Try.func33, Try.ntmps33
    go_wp2_with fail
    refine (l1Good_any _ _ _ _ _).mono ?_
    rintro e w1 ⟨rfl, b1⟩
    obtain ⟨b1c, b1f⟩ := bcell b1
    have z1 := b1.size
    try simp only [World.size_alloc] at z1
    have B1 : Below w.heap.size w w1 := Below.chain (Below.refl _ _) (by go_grown) b1 (by go_size)
    have y10 : w.heap.size < w1.heap.size := by omega
    have y11 : w.heap.size + 1 < w1.heap.size := by omega
    have y12 : w.heap.size + 2 < w1.heap.size := by omega
    go_wp2_with fail
    refine (l1Good_any _ _ _ _ _).mono ?_
    rintro e w2 ⟨rfl, b2⟩
    have z2 := b2.size
    try simp only [World.size_alloc] at z2
    have C2 := Below.chain b1 (by go_grown) b2 (by go_size)
    have B2 : Below w.heap.size w w2 := Below.chain B1 (by go_grown) b2 (by go_size)
    obtain ⟨b2c, b2f⟩ := bcell b2
    obtain ⟨C2c, C2f⟩ := bcellB C2
    have y20 : w.heap.size < w2.heap.size := by omega
    have y21 : w.heap.size + 1 < w2.heap.size := by omega
    have y22 : w.heap.size + 2 < w2.heap.size := by omega
    try (have v21 : w1.heap.size < w2.heap.size := by omega)
    go_wp2_with fail
    go_region_held3 (fun w' => (∀ b o, b < w2.heap.size → b ≠ w.heap.size + 2 → w'.cell? ⟨b, o, none⟩ = w2.cell? ⟨b, o, none⟩) ∧ w2.grownBy w' (some (w.heap.size + 2))) ((refine GB_mk ?_; repeat (first | (with_reducible exact grownBy_refl' _ _) | (with_reducible assumption) | (with_reducible refine only_drew ?_) | (with_reducible refine only_alloc ?_ _) | (with_reducible refine only_setCell ?_ (by first | (left; rfl) | (right; omega) | (right; simp; omega)) _)))) (first | (go_at_call 51; refine (l1Neg_any _ _ _ _ _ Hy.out).mono ?_; rintro e wA0 ⟨rfl, bA0⟩; obtain ⟨bA0c, bA0f⟩ := bcell bA0; (try simp only [World.size_drew] at bA0c); (try simp only [World.cell?_drew] at bA0c); (try simp only [World.size_drew] at bA0f); (try simp only [World.frozen?_drew] at bA0f); have sA0 := (GB_step (W := w2) (by with_reducible assumption) bA0).2; have zA0 := sA0.size; have yA0_0 : w.heap.size < wA0.heap.size := (by omega); have yA0_1 : w.heap.size + 1 < wA0.heap.size := (by omega); have yA0_2 : w.heap.size + 2 < wA0.heap.size := (by omega)) | (go_at_call 49; refine (l1Add_any _ _ _ _ _ _ _ _ _ Hx.out (rOk_neg Hy.out)).mono ?_; rintro e wA1 ⟨rfl, bA1⟩; obtain ⟨bA1c, bA1f⟩ := bcell bA1; (try simp only [World.size_drew] at bA1c); (try simp only [World.cell?_drew] at bA1c); (try simp only [World.size_drew] at bA1f); (try simp only [World.frozen?_drew] at bA1f); have sA1 := (GB_step (W := w2) (by with_reducible assumption) bA1).2; have zA1 := sA1.size; have yA1_0 : w.heap.size < wA1.heap.size := (by omega); have yA1_1 : w.heap.size + 1 < wA1.heap.size := (by omega); have yA1_2 : w.heap.size + 2 < wA1.heap.size := (by omega)) | (go_at_call 48; refine (l1Out_any _ _ _ _ _).mono ?_; rintro e wA2 ⟨rfl, bA2⟩; obtain ⟨bA2c, bA2f⟩ := bcell bA2; (try simp only [World.size_drew] at bA2c); (try simp only [World.cell?_drew] at bA2c); (try simp only [World.size_drew] at bA2f); (try simp only [World.frozen?_drew] at bA2f); have sA2 := (GB_step (W := w2) (by with_reducible assumption) bA2).2; have zA2 := sA2.size; have yA2_0 : w.heap.size < wA2.heap.size := (by omega); have yA2_1 : w.heap.size + 1 < wA2.heap.size := (by omega); have yA2_2 : w.heap.size + 2 < wA2.heap.size := (by omega)))
    go_wp2
    refine bodyPost_ret (by simp [results, Try.results33, go_sem, bA2c, bA1c, bA0c, yA1_2, yA0_2, y22, C2c, ringRes, Int.sub_eq_add_neg]) rfl ⟨rfl, ?_⟩
    refine below_only B2 (R := w.heap.size + 2) ?_ (by omega) (by omega)
    exact only_setCell (only_setCell (only_setCell (only_setCell sA2 (Or.inl rfl) _) (Or.inl rfl) _) (Or.inl rfl) _) (Or.inl rfl) _
end Go.Proofs.Ytpogpooomdpomaa
