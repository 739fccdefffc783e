/- A cell of a gate's matrix: the reference's l6Cell at the kinds 9 to 12. -/
import Derived.Test.YtlihnipbdckmkaaGmOn2
import Derived.Test.YtlihnipbdckmkaaDraw
namespace Go.Proofs.Ytlihnipbdckmkaa
open Go.RowKit

theorem com9 : ∀ i j : Fin 32, ∀ sa sb : Fin 5, sa ≠ sb → (comQ 9 i.val sa.val sb.val = j.val ↔ i.val = comQ 9 j.val sa.val sb.val) := by decide +kernel
theorem com11 : ∀ i j : Fin 32, ∀ sa sb : Fin 5, sa ≠ sb → (comQ 11 i.val sa.val sb.val = j.val ↔ i.val = comQ 11 j.val sa.val sb.val) := by decide +kernel
theorem com10 (i sa sb : Nat) : comQ 10 i sa sb = i := by simp [comQ]
theorem xor_at : ∀ x : Fin 32, ∀ q : Fin 5, bits .xor .i64 (x.val : Int) (RowKit.wrap64 (2 ^ q.val)) = ((flq x.val q.val : Nat) : Int) := flq_at
theorem mask_at : ∀ x y : Fin 32, ∀ q : Fin 5, bits .andNot .i64 (bits .xor .i64 (x.val : Int) (y.val : Int)) (RowKit.wrap64 (2 ^ q.val)) = 0 ↔ (x.val = y.val ∨ flq x.val q.val = y.val) := by decide +kernel

set_option maxRecDepth 100000 in
set_option maxHeartbeats 8000000 in
theorem celW_any (n p q sa sb i j : Nat) (w : World) :
    Calls Try.prog 60 #[.int .i64 (n : Int), tv 12 (p : Int) (q : Int), .int .i64 (i : Int), .int .i64 (j : Int)] w fun e w' => e = .returned (dvD (gmD 12 sa sb i j)) ∧ Below w.heap.size w w' := by
  by_cases h : i = j
  · subst h
    have Hr : Hid (dvD (gmD 12 sa sb i i) = dvD (powQ 1, 0)) := by show _ = _; rw [gmD_12]
    go_enter Try.func60, Try.ntmps60
    go_wp2_with fail
    refine (pow0_any _).mono ?_
    rintro e w1 ⟨rfl, b1⟩
    obtain ⟨b1c, b1f⟩ := bcell b1
    have z1 := b1.size
    try simp only [World.size_alloc] at z1
    have B1 : Below w.heap.size w w1 := Below.chain (Below.refl _ _) (by go_grown) b1 (by go_size)
    have y10 : w.heap.size < w1.heap.size := by omega
    have y11 : w.heap.size + 1 < w1.heap.size := by omega
    go_wp2_with fail
    refine (powL1_any _).mono ?_
    rintro e w2 ⟨rfl, b2⟩
    have z2 := b2.size
    try simp only [World.size_alloc] at z2
    have C2 := Below.chain b1 (by go_grown) b2 (by go_size)
    have B2 : Below w.heap.size w w2 := Below.chain B1 (by go_grown) b2 (by go_size)
    obtain ⟨b2c, b2f⟩ := bcell b2
    obtain ⟨C2c, C2f⟩ := bcellB C2
    have y20 : w.heap.size < w2.heap.size := by omega
    have y21 : w.heap.size + 1 < w2.heap.size := by omega
    try (have v21 : w1.heap.size < w2.heap.size := by omega)
    go_wp2
    rw [Hr.out]
    refine bodyPost_ret (by simp [results, Try.results60, go_sem, C2c]) rfl ⟨rfl, ?_⟩
    go_grown
  · have Hr : Hid (dvD (gmD 12 sa sb i j) = dv 0 0 0 0 0) := by show _ = _; rw [gmD_12' _ _ h]; rfl
    have hne : ¬ (i : Int) = (j : Int) := by omega
    clear h
    go_enter Try.func60, Try.ntmps60
    go_wp2_with fail
    refine (pow0_any _).mono ?_
    rintro e w1 ⟨rfl, b1⟩
    obtain ⟨b1c, b1f⟩ := bcell b1
    have z1 := b1.size
    try simp only [World.size_alloc] at z1
    have B1 : Below w.heap.size w w1 := Below.chain (Below.refl _ _) (by go_grown) b1 (by go_size)
    have y10 : w.heap.size < w1.heap.size := by omega
    have y11 : w.heap.size + 1 < w1.heap.size := by omega
    go_wp2_with fail
    refine (powL1_any _).mono ?_
    rintro e w2 ⟨rfl, b2⟩
    have z2 := b2.size
    try simp only [World.size_alloc] at z2
    have C2 := Below.chain b1 (by go_grown) b2 (by go_size)
    have B2 : Below w.heap.size w w2 := Below.chain B1 (by go_grown) b2 (by go_size)
    obtain ⟨b2c, b2f⟩ := bcell b2
    obtain ⟨C2c, C2f⟩ := bcellB C2
    have y20 : w.heap.size < w2.heap.size := by omega
    have y21 : w.heap.size + 1 < w2.heap.size := by omega
    try (have v21 : w1.heap.size < w2.heap.size := by omega)
    go_wp2
    rw [Hr.out]
    refine bodyPost_ret (by simp [results, Try.results60, go_sem, C2c]) rfl ⟨rfl, ?_⟩
    go_grown

/-- what a cell of a two-qubit gate is, by the row that the column comes to -/
theorem gmD_to {k sa sb i j : Nat} (hk : k = 9 ∨ k = 10 ∨ k = 11) (hi : i < 32) (hj : j < 32) (hsa : sa < 5) (hsb : sb < 5) (hne : sa ≠ sb) :
    gmD k sa sb i j = if i = comQ (k : Int) j sa sb then (powQ (if k = 10 ∧ btq j sa = 1 ∧ btq j sb = 1 then 4 else 0), 0) else zeroD := by
  rcases hk with rfl | rfl | rfl
  · have c9 : comQ 9 i sa sb = j ↔ i = comQ 9 j sa sb := com9 ⟨i, hi⟩ ⟨j, hj⟩ ⟨sa, hsa⟩ ⟨sb, hsb⟩ (fun e => hne (Fin.mk.inj e))
    show gmD 9 sa sb i j = if i = comQ 9 j sa sb then _ else zeroD
    by_cases h : comQ 9 i sa sb = j
    · rw [gmD_two (k := 9) (by omega) (by omega) h, if_pos (c9.1 h)]
      simp
    · rw [gmD_two' (k := 9) (by omega) (by omega) h, if_neg (fun e => h (c9.2 e))]
  · show gmD 10 sa sb i j = if i = comQ 10 j sa sb then _ else zeroD
    rw [com10]
    by_cases h : i = j
    · subst h
      rw [gmD_two (k := 10) (by omega) (by omega) (com10 i sa sb), if_pos rfl]
    · rw [gmD_two' (k := 10) (by omega) (by omega) (fun e => h ((com10 i sa sb).symm.trans e)), if_neg h]
  · have c11 : comQ 11 i sa sb = j ↔ i = comQ 11 j sa sb := com11 ⟨i, hi⟩ ⟨j, hj⟩ ⟨sa, hsa⟩ ⟨sb, hsb⟩ (fun e => hne (Fin.mk.inj e))
    show gmD 11 sa sb i j = if i = comQ 11 j sa sb then _ else zeroD
    by_cases h : comQ 11 i sa sb = j
    · rw [gmD_two (k := 11) (by omega) (by omega) h, if_pos (c11.1 h)]
      simp
    · rw [gmD_two' (k := 11) (by omega) (by omega) h, if_neg (fun e => h (c11.2 e))]
end Go.Proofs.Ytlihnipbdckmkaa
