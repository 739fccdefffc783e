/- Products of Pauli operators, of the program. -/
import Derived.Test.YtcmkkjdleihjfaaPauT
namespace Go.Proofs.Ytcmkkjdleihjfaa
open Go.RowKit

theorem ones_q (n : Nat) (w : World) (hn : n < 32) :
    Calls Try.prog 108 #[.int .u64 (n : Int)] w fun e w' => e = .returned (.int .i64 ((pop n : Nat) : Int)) ∧ Below w.heap.size w w' := (ones_any n w hn).mono fun _ _ h => ⟨h.1, by rw [← h.2]; exact Below.refl _ _⟩
theorem wr64 {n : Int} (h : -9223372036854775808 ≤ n ∧ n ≤ 9223372036854775807) : IntKind.wrap .i64 n = n ∧ RowKit.wrap64 n = n := ⟨IntWalk.i64_in _ (by omega), IntWalk.wrap64_in _ (by omega)⟩

set_option maxRecDepth 100000 in
set_option maxHeartbeats 8000000 in
theorem times_any (pa pb ax az bx bz : Nat) (w : World) (hpa : pa < 4) (hpb : pb < 4) (h1 : ax < 32) (h2 : az < 32) (h3 : bx < 32) (h4 : bz < 32) :
    Calls Try.prog 62 #[pv (pa : Int) (ax : Int) (az : Int), pv (pb : Int) (bx : Int) (bz : Int)] w fun e w' => e = .returned (pv ((phM pa pb ax az bx bz : Nat) : Int) ((ax ^^^ bx : Nat) : Int) ((az ^^^ bz : Nat) : Int)) ∧ Below w.heap.size w w' := by
  have Hph := Lib.hid (phM_impl (pa := pa) (pb := pb) h1 h2 h3 h4)
  obtain ⟨X, hX⟩ : ∃ X, X = ax ^^^ bx := ⟨_, rfl⟩
  obtain ⟨Z, hZ⟩ : ∃ Z, Z = az ^^^ bz := ⟨_, rfl⟩
  have e1 : bits .xor .i64 (ax : Int) (bx : Int) = (X : Int) := by rw [hX]; exact xor_bits ⟨ax, h1⟩ ⟨bx, h3⟩
  have e2 : bits .xor .i64 (az : Int) (bz : Int) = (Z : Int) := by rw [hZ]; exact xor_bits ⟨az, h2⟩ ⟨bz, h4⟩
  have hXl : X < 32 := by rw [hX]; exact xor_lt h1 h3
  have hZl : Z < 32 := by rw [hZ]; exact xor_lt h2 h4
  rw [← hX, ← hZ] at Hph
  rw [← hX, ← hZ]
  obtain ⟨P1, hP1⟩ : ∃ P, P = ax &&& az := ⟨_, rfl⟩
  obtain ⟨P2, hP2⟩ : ∃ P, P = bx &&& bz := ⟨_, rfl⟩
  obtain ⟨P3, hP3⟩ : ∃ P, P = az &&& bx := ⟨_, rfl⟩
  obtain ⟨P4, hP4⟩ : ∃ P, P = X &&& Z := ⟨_, rfl⟩
  have a1 : bits .and .i64 (ax : Int) (az : Int) = (P1 : Int) := by rw [hP1]; exact and_bits ⟨ax, h1⟩ ⟨az, h2⟩
  have a2 : bits .and .i64 (bx : Int) (bz : Int) = (P2 : Int) := by rw [hP2]; exact and_bits ⟨bx, h3⟩ ⟨bz, h4⟩
  have a3 : bits .and .i64 (az : Int) (bx : Int) = (P3 : Int) := by rw [hP3]; exact and_bits ⟨az, h2⟩ ⟨bx, h3⟩
  have a4 : bits .and .i64 (X : Int) (Z : Int) = (P4 : Int) := by rw [hP4]; exact and_bits ⟨X, hXl⟩ ⟨Z, hZl⟩
  have l1 : Hid (P1 < 32) := by show P1 < 32; rw [hP1]; exact and_lt h1
  have l2 : Hid (P2 < 32) := by show P2 < 32; rw [hP2]; exact and_lt h3
  have l3 : Hid (P3 < 32) := by show P3 < 32; rw [hP3]; exact and_lt h2
  have l4 : Hid (P4 < 32) := by show P4 < 32; rw [hP4]; exact and_lt hXl
  rw [← hP1, ← hP2, ← hP3, ← hP4] at Hph
  have u1 : IntKind.wrap .u64 (P1 : Int) = (P1 : Int) := IntWalk.u64_in _ (by have := l1.out; omega)
  have u2 : IntKind.wrap .u64 (P2 : Int) = (P2 : Int) := IntWalk.u64_in _ (by have := l2.out; omega)
  have u3 : IntKind.wrap .u64 (P3 : Int) = (P3 : Int) := IntWalk.u64_in _ (by have := l3.out; omega)
  have u4 : IntKind.wrap .u64 (P4 : Int) = (P4 : Int) := IntWalk.u64_in _ (by have := l4.out; omega)
  have b1 := pop_le P1
  have b2 := pop_le P2
  have b3 := pop_le P3
  have b4 := pop_le P4
  generalize ho1 : pop P1 = o1 at b1 Hph
  generalize ho2 : pop P2 = o2 at b2 Hph
  generalize ho3 : pop P3 = o3 at b3 Hph
  generalize ho4 : pop P4 = o4 at b4 Hph
  have q1 : Hid (∀ W, Calls Try.prog 108 #[.int .u64 (P1 : Int)] W fun e w' => e = .returned (.int .i64 (o1 : Int)) ∧ Below W.heap.size W w') := by intro W; have := ones_q P1 W l1.out; rw [ho1] at this; exact this
  have q2 : Hid (∀ W, Calls Try.prog 108 #[.int .u64 (P2 : Int)] W fun e w' => e = .returned (.int .i64 (o2 : Int)) ∧ Below W.heap.size W w') := by intro W; have := ones_q P2 W l2.out; rw [ho2] at this; exact this
  have q3 : Hid (∀ W, Calls Try.prog 108 #[.int .u64 (P3 : Int)] W fun e w' => e = .returned (.int .i64 (o3 : Int)) ∧ Below W.heap.size W w') := by intro W; have := ones_q P3 W l3.out; rw [ho3] at this; exact this
  have q4 : Hid (∀ W, Calls Try.prog 108 #[.int .u64 (P4 : Int)] W fun e w' => e = .returned (.int .i64 (o4 : Int)) ∧ Below W.heap.size W w') := by intro W; have := ones_q P4 W l4.out; rw [ho4] at this; exact this
  obtain ⟨s0, hs0⟩ : ∃ s : Int, (pa : Int) + (pb : Int) = s := ⟨_, rfl⟩
  obtain ⟨s1, hs1⟩ : ∃ s : Int, s0 + (o1 : Int) = s := ⟨_, rfl⟩
  obtain ⟨s2, hs2⟩ : ∃ s : Int, s1 + (o2 : Int) = s := ⟨_, rfl⟩
  obtain ⟨t3, ht3⟩ : ∃ s : Int, 2 * (o3 : Int) = s := ⟨_, rfl⟩
  obtain ⟨s3, hs3⟩ : ∃ s : Int, s2 + t3 = s := ⟨_, rfl⟩
  obtain ⟨E, hE⟩ : ∃ s : Int, s3 - (o4 : Int) = s := ⟨_, rfl⟩
  obtain ⟨g, hg⟩ : ∃ s : Int, E.tmod 4 = s := ⟨_, rfl⟩
  obtain ⟨K, hK⟩ : ∃ s : Int, g + 4 = s := ⟨_, rfl⟩
  obtain ⟨F, hF⟩ : ∃ F : Nat, F = phM pa pb ax az bx bz := ⟨_, rfl⟩
  have hFl : F < 4 := by rw [hF]; exact Nat.mod_lt _ (by omega)
  have hgb : -4 ≤ g ∧ g < 4 := by
    rw [← hg]
    have h5 : E.tmod 4 = E % 4 ∨ E.tmod 4 = E % 4 - 4 := by
      rw [Int.tmod_eq_emod]
      split
      · left; omega
      · right; show _ - ((4 : Int).natAbs : Int) = _; rfl
    omega
  have hKF : K.tmod 4 = (F : Int) := by
    rw [hF, ← Hph.out, ← hK, ← hg, ← hE, ← hs3, ← ht3, ← hs2, ← hs1, ← hs0]
  rw [← hF]
  obtain ⟨w0, w0'⟩ := wr64 (n := s0) (by omega)
  obtain ⟨w1, w1'⟩ := wr64 (n := s1) (by omega)
  obtain ⟨w2, w2'⟩ := wr64 (n := s2) (by omega)
  obtain ⟨w3, w3'⟩ := wr64 (n := t3) (by omega)
  obtain ⟨w4, w4'⟩ := wr64 (n := s3) (by omega)
  obtain ⟨w5, w5'⟩ := wr64 (n := E) (by omega)
  obtain ⟨w6, w6'⟩ := wr64 (n := g) (by omega)
  obtain ⟨w7, w7'⟩ := wr64 (n := K) (by omega)
  obtain ⟨w8, w8'⟩ := wr64 (n := (F : Int)) (by omega)
  clear Hph hX hZ hP1 hP2 hP3 hP4 hF hFl hgb b1 b2 b3 b4 ho1 ho2 ho3 ho4 hXl hZl hpa hpb h1 h2 h3 h4
  go_enter Try.func62, Try.ntmps62
  go_wp2_with fail
  generalize hW0 : ((w.alloc (.cells #[.int .i64 (pa : Int), .int .i64 (ax : Int), .int .i64 (az : Int)] 26)).alloc (.cells #[.int .i64 (pb : Int), .int .i64 (bx : Int), .int .i64 (bz : Int)] 26)).alloc (.cells #[.int .i64 0, .int .i64 0, .int .i64 0] 26) = W0
  have B0 : Below w.heap.size w W0 := by rw [← hW0]; clear hW0; go_grown
  have k0 := fun o => cell_of_row W0 w.heap.size o _ _ _ (by rw [← hW0]; exact (Below.heap_alloc _ _ _ (by go_size)).trans ((Below.heap_alloc _ _ _ (by go_size)).trans (heap_top _ _ rfl)))
  have k1 := fun o => cell_of_row W0 (w.heap.size + 1) o _ _ _ (by rw [← hW0]; exact (Below.heap_alloc _ _ _ (by go_size)).trans (heap_top _ _ (by simp)))
  have k2 := fun o => cell_of_row W0 (w.heap.size + 1 + 1) o _ _ _ (by rw [← hW0]; exact heap_top _ _ (by simp))
  have f2 := fun o => frozen_of_row W0 (w.heap.size + 1 + 1) o _ _ (by rw [← hW0]; exact heap_top _ _ (by simp))
  have zW00 : w.heap.size + 1 + 1 < W0.heap.size := by rw [← hW0]; clear hW0; go_size
  clear hW0
  go_quiet (fail)
  obtain ⟨W1, hW1⟩ : ∃ W, W = W0.drewN nq := ⟨_, rfl⟩
  have zW0 : w.heap.size + 1 + 1 < W0.heap.size := zW00
  have zW1 : w.heap.size < W1.heap.size := by rw [hW1]; show w.heap.size < W0.heap.size; omega
  have zW2 : w.heap.size + 1 + 1 < W1.heap.size := by rw [hW1]; exact zW0
  have B1 : Below w.heap.size w W1 := by rw [hW1]; exact below_drewN' B0 nq
  have k0' : ∀ o, W1.cell? ⟨w.heap.size, o, none⟩ = _ := fun o => (by rw [hW1]; rfl : W1.cell? ⟨w.heap.size, o, none⟩ = W0.cell? ⟨w.heap.size, o, none⟩).trans (k0 o)
  have k1' : ∀ o, W1.cell? ⟨w.heap.size + 1, o, none⟩ = _ := fun o => (by rw [hW1]; rfl : W1.cell? ⟨w.heap.size + 1, o, none⟩ = W0.cell? ⟨w.heap.size + 1, o, none⟩).trans (k1 o)
  have k2' : ∀ o, W1.cell? ⟨w.heap.size + 1 + 1, o, none⟩ = _ := fun o => (by rw [hW1]; rfl : W1.cell? ⟨w.heap.size + 1 + 1, o, none⟩ = W0.cell? ⟨w.heap.size + 1 + 1, o, none⟩).trans (k2 o)
  have f2' : ∀ o, W1.frozen? ⟨w.heap.size + 1 + 1, o, none⟩ = _ := fun o => (by rw [hW1]; rfl : W1.frozen? ⟨w.heap.size + 1 + 1, o, none⟩ = W0.frozen? ⟨w.heap.size + 1 + 1, o, none⟩).trans (f2 o)
  go_wp2_with fail
  try rw [← hW1]
  clear hW1 k0 k1 k2 f2
  have yA0 : w.heap.size < W1.heap.size := zW1
  have yA1 : w.heap.size + 1 < W1.heap.size := by omega
  have zz2 : w.heap.size + 1 + 1 < W1.heap.size := by omega
  go_region_held3 (fun w' => (∀ b o, b < W1.heap.size → w'.cell? ⟨b, o, none⟩ = W1.cell? ⟨b, o, none⟩) ∧ Below W1.heap.size W1 w') ((refine SB_mk ?_; go_grown)) (first | (go_at_call 108; with_reducible refine (q1.out _).mono ?_; rintro e wA ⟨rfl, bA⟩; obtain ⟨bAc, bAf⟩ := bcell bA; (try with_reducible have yA := lt_size bA); (try with_reducible have yA := lt_sizeD bA); (try with_reducible have yB := Nat.lt_of_lt_of_le (by assumption) bA.size); have sA := (SB_step (W := W1) (by with_reducible assumption) bA).2; have zA := sA.size) | (go_at_call 108; with_reducible refine (q2.out _).mono ?_; rintro e wA ⟨rfl, bA⟩; obtain ⟨bAc, bAf⟩ := bcell bA; (try with_reducible have yA := lt_size bA); (try with_reducible have yA := lt_sizeD bA); (try with_reducible have yB := Nat.lt_of_lt_of_le (by assumption) bA.size); have sA := (SB_step (W := W1) (by with_reducible assumption) bA).2; have zA := sA.size) | (go_at_call 108; with_reducible refine (q3.out _).mono ?_; rintro e wA ⟨rfl, bA⟩; obtain ⟨bAc, bAf⟩ := bcell bA; (try with_reducible have yA := lt_size bA); (try with_reducible have yA := lt_sizeD bA); (try with_reducible have yB := Nat.lt_of_lt_of_le (by assumption) bA.size); have sA := (SB_step (W := W1) (by with_reducible assumption) bA).2; have zA := sA.size) | (go_at_call 108; with_reducible refine (q4.out _).mono ?_; rintro e wA ⟨rfl, bA⟩; obtain ⟨bAc, bAf⟩ := bcell bA; (try with_reducible have yA := lt_size bA); (try with_reducible have yA := lt_sizeD bA); (try with_reducible have yB := Nat.lt_of_lt_of_le (by assumption) bA.size); have sA := (SB_step (W := W1) (by with_reducible assumption) bA).2; have zA := sA.size))
  all_goals
    have kA2 : ∀ o, wA.cell? ⟨w.heap.size + 1 + 1, o, none⟩ = _ := fun o => (sA.cell (p := ⟨w.heap.size + 1 + 1, o, none⟩) zz2).trans (k2' o)
    have fA2 : ∀ o, wA.frozen? ⟨w.heap.size + 1 + 1, o, none⟩ = _ := fun o => (sA.frozen (p := ⟨w.heap.size + 1 + 1, o, none⟩) zz2).trans (f2' o)
    clear bA bAc bAf
    go_wp2
    refine bodyPost_ret (by simp [results, Try.results62, go_sem, kA2]) rfl ⟨rfl, ?_⟩
    have BA := B1.trans (sA.mono B1.size)
    go_grown
end Go.Proofs.Ytcmkkjdleihjfaa
