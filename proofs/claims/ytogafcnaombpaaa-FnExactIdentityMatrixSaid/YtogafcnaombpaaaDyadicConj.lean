/- ConjDyadic, of the program and of the reference; eqDyadic. -/
import Derived.Test.YtogafcnaombpaaaDyadic
import Derived.Test.YtogafcnaombpaaaRingOps
import Derived.Deep.DeepCutAuto
namespace Go.Proofs.Ytogafcnaombpaaa
open Go.RowKit

def conjRes (a b c d e : Int) : Value := .tuple #[dv (rI (dOk a b c d e) a) (rI (dOk a b c d e) (-d)) (rI (dOk a b c d e) (-c)) (rI (dOk a b c d e) (-b)) (rI (dOk a b c d e) e), .bool (dOk a b c d e)]
theorem dOk_r {a b c d e : Int} (h : dOk a b c d e = true) : rOk a b c d = true := by
  simp only [dOk, Bool.and_eq_true] at h
  exact h.1.1

set_option maxHeartbeats 1000000 in
theorem eqDyadic_any (a b c d e a' b' c' d' e' : Int) (w : World) :
    Calls Try.prog 29 #[dv a b c d e, dv a' b' c' d' e'] w fun r w' => r = .returned (.bool ((a == a' && b == b' && c == c' && d == d') && e == e')) ∧ Below w.heap.size w w' := by
  rcases h : (a == a' && b == b' && c == c' && d == d') with _ | _
  · go_enter Try.func29, Try.ntmps29
    go_wp2_with fail
    refine (eqRing_any _ _ _ _ _ _ _ _ _).mono ?_
    rintro e w1 ⟨rfl, b1⟩
    obtain ⟨b1c, b1f⟩ := bcell b1
    have z1 := b1.size
    try simp only [World.size_alloc] at z1
    have B1 : Below w.heap.size w w1 := Below.chain (Below.refl _ _) (by go_grown) b1 (by go_size)
    have y10 : w.heap.size < w1.heap.size := by omega
    go_wp2
    go_ret
    refine ⟨rfl, ?_⟩
    go_grown
  · by_cases he : e = e'
    · subst he
      go_enter Try.func29, Try.ntmps29
      go_wp2_with fail
      refine (eqRing_any _ _ _ _ _ _ _ _ _).mono ?_
      rintro e w1 ⟨rfl, b1⟩
      obtain ⟨b1c, b1f⟩ := bcell b1
      have z1 := b1.size
      try simp only [World.size_alloc] at z1
      have B1 : Below w.heap.size w w1 := Below.chain (Below.refl _ _) (by go_grown) b1 (by go_size)
      have y10 : w.heap.size < w1.heap.size := by omega
      go_wp2
      go_ret
      refine ⟨ret_bool (by simp), ?_⟩
      go_grown
    · go_enter Try.func29, Try.ntmps29
      go_wp2_with fail
      refine (eqRing_any _ _ _ _ _ _ _ _ _).mono ?_
      rintro e w1 ⟨rfl, b1⟩
      obtain ⟨b1c, b1f⟩ := bcell b1
      have z1 := b1.size
      try simp only [World.size_alloc] at z1
      have B1 : Below w.heap.size w w1 := Below.chain (Below.refl _ _) (by go_grown) b1 (by go_size)
      have y10 : w.heap.size < w1.heap.size := by omega
      go_wp2
      go_ret
      refine ⟨ret_bool (by simp [he]), ?_⟩
      go_grown

set_option maxHeartbeats 1000000 in
theorem l2Conj_any (a b c d e : Int) (w : World) (hx : rOk a b c d = true) :
    Calls Try.prog 75 #[dv a b c d e] w fun r w' => r = .returned (dv a (-d) (-c) (-b) e) ∧ Below w.heap.size w w' := by
  have Hx := Lib.hid hx
  clear hx
  go_enter Try.func75, Try.ntmps75
  go_upto_region 1 with fail
  generalize hW0 : (w.alloc (.cells #[.int .i64 a, .int .i64 b, .int .i64 c, .int .i64 d, .int .i64 e] 45)).alloc (.cells #[.int .i64 0, .int .i64 0, .int .i64 0, .int .i64 0, .int .i64 0] 45) = W0
  have B0 : Below w.heap.size w W0 := by rw [← hW0]; go_grown
  have k0 : ∀ o, W0.cell? ⟨w.heap.size, o, none⟩ = _ := fun o => cell_of_row W0 w.heap.size o _ _ _ (by rw [← hW0]; exact (Below.heap_alloc _ _ _ (by simp)).trans (heap_top _ _ rfl))
  have k1 : ∀ o, W0.cell? ⟨w.heap.size + 1, o, none⟩ = _ := fun o => cell_of_row W0 (w.heap.size + 1) o _ _ _ (by rw [← hW0]; exact heap_top _ _ (by simp))
  have f1 : ∀ o, W0.frozen? ⟨w.heap.size + 1, o, none⟩ = false := fun o => frozen_of_row W0 (w.heap.size + 1) o _ _ (by rw [← hW0]; exact heap_top _ _ (by simp))
  have y00 : w.heap.size < W0.heap.size := by rw [← hW0]; go_size
  have y01 : w.heap.size + 1 < W0.heap.size := by rw [← hW0]; go_size
  clear hW0
  go_region_held3 (fun w' => (∀ b o, b < W0.heap.size → b ≠ w.heap.size + 1 → w'.cell? ⟨b, o, none⟩ = W0.cell? ⟨b, o, none⟩) ∧ W0.grownBy w' (some (w.heap.size + 1))) ((refine GB_mk ?_; repeat (first | (with_reducible exact grownBy_refl' _ _) | (with_reducible assumption) | (with_reducible refine only_drew ?_) | (with_reducible refine only_alloc ?_ _) | (with_reducible refine only_setCell ?_ (by first | (left; rfl) | (right; omega) | (right; simp; omega)) _)))) (first | (go_at_call 54; refine (l1Conj_any _ _ _ _ _ Hx.out).mono ?_; rintro e wA0 ⟨rfl, bA0⟩; obtain ⟨bA0c, bA0f⟩ := bcell bA0; (try simp only [World.size_drew] at bA0c); (try simp only [World.cell?_drew] at bA0c); (try simp only [World.size_drew] at bA0f); (try simp only [World.frozen?_drew] at bA0f); have sA0 := (GB_step (W := W0) (by with_reducible assumption) bA0).2; have zA0 := sA0.size; have yA0_0 : w.heap.size < wA0.heap.size := (by omega); have yA0_1 : w.heap.size + 1 < wA0.heap.size := (by omega)))
  go_wp2
  refine bodyPost_ret (by simp [results, Try.results75, go_sem, bA0c, k1, y01]) rfl ⟨rfl, ?_⟩
  refine below_only B0 (R := w.heap.size + 1) ?_ (by omega) (by omega)
  exact only_setCell (only_setCell (only_setCell (only_setCell (only_setCell sA0 (Or.inl rfl) _) (Or.inl rfl) _) (Or.inl rfl) _) (Or.inl rfl) _) (Or.inl rfl) _

set_option maxHeartbeats 1000000 in
theorem implConjD_any (a b c d e : Int) (w : World) :
    Calls Try.prog 76 #[dv a b c d e] w fun r w' => r = .returned (conjRes a b c d e) ∧ Below w.heap.size w w' := by
  rcases hx : dOk a b c d e with _ | _
  · go_enter Try.func76, Try.ntmps76
    go_wp2_with fail
    refine (implValidDyadic_any _ _ _ _ _ _).mono ?_
    rintro e w1 ⟨rfl, b1⟩
    obtain ⟨b1c, b1f⟩ := bcell b1
    have z1 := b1.size
    try simp only [World.size_alloc] at z1
    have B1 : Below w.heap.size w w1 := Below.chain (Below.refl _ _) (by go_grown) b1 (by go_size)
    have y10 : w.heap.size < w1.heap.size := by omega
    have y11 : w.heap.size + 1 < w1.heap.size := by omega
    go_wp2
    refine bodyPost_ret (by simp [results, Try.results76, go_sem, b1c, conjRes, hx, rI_f]) rfl ⟨rfl, ?_⟩
    go_grown
  · have hr := dOk_r hx
    have Hc : Hid (ringRes (rOk a b c d) a (-d) (-c) (-b) = .tuple #[rv a (-d) (-c) (-b), .bool true]) := by
      have : rOk a (-d) (-c) (-b) = true := by
        have := rOk_iff.1 hr
        rw [rOk_iff]
        omega
      show ringRes (rOk a b c d) a (-d) (-c) (-b) = _
      simp [ringRes, hr, this, rI_t]
    clear hr
    go_enter Try.func76, Try.ntmps76
    go_wp2_with fail
    refine (implValidDyadic_any _ _ _ _ _ _).mono ?_
    rintro e w1 ⟨rfl, b1⟩
    obtain ⟨b1c, b1f⟩ := bcell b1
    have z1 := b1.size
    try simp only [World.size_alloc] at z1
    have B1 : Below w.heap.size w w1 := Below.chain (Below.refl _ _) (by go_grown) b1 (by go_size)
    have y10 : w.heap.size < w1.heap.size := by omega
    have y11 : w.heap.size + 1 < w1.heap.size := by omega
    go_wp2_with fail
    refine (implConj_any _ _ _ _ _).mono ?_
    rintro e w2 ⟨rfl, b2⟩
    have z2 := b2.size
    try simp only [World.size_alloc] at z2
    have C2 := Below.chain b1 (by go_grown) b2 (by go_size)
    have B2 : Below w.heap.size w w2 := Below.chain B1 (by go_grown) b2 (by go_size)
    obtain ⟨b2c, b2f⟩ := bcell b2
    obtain ⟨C2c, C2f⟩ := bcellB C2
    have y20 : w.heap.size < w2.heap.size := by omega
    have y21 : w.heap.size + 1 < w2.heap.size := by omega
    try (have v21 : w1.heap.size < w2.heap.size := by omega)
    rw [Hc.out]
    go_wp2
    refine bodyPost_ret (by simp [results, Try.results76, go_sem, C2c, y21, conjRes, hx, rI_t]) rfl ⟨rfl, ?_⟩
    go_grown
end Go.Proofs.Ytogafcnaombpaaa
