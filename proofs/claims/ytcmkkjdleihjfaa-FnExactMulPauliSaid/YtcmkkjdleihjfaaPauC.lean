/- Commutation and products of Pauli operators, of the program and of the reference. -/
import Derived.Test.YtcmkkjdleihjfaaPauW
namespace Go.Proofs.Ytcmkkjdleihjfaa
open Go.RowKit

set_option maxRecDepth 100000 in
set_option maxHeartbeats 8000000 in
theorem commute_any (pa pb : Int) (ax az bx bz : Nat) (w : World) (h1 : ax < 32) (h2 : az < 32) (h3 : bx < 32) (h4 : bz < 32) :
    Calls Try.prog 60 #[pv pa (ax : Int) (az : Int), pv pb (bx : Int) (bz : Int)] w fun e w' => e = .returned (.bool (comB ax az bx bz)) ∧ Below w.heap.size w w' := by
  have Hc : Hid (comB ax az bx bz = ((pop (ax &&& bz) + pop (az &&& bx)) % 2 == 0)) := rfl
  obtain ⟨P1, hP1⟩ : ∃ P, P = ax &&& bz := ⟨_, rfl⟩
  obtain ⟨P2, hP2⟩ : ∃ P, P = az &&& bx := ⟨_, rfl⟩
  have a1 : bits .and .i64 (ax : Int) (bz : Int) = (P1 : Int) := by rw [hP1]; exact and_bits ⟨ax, h1⟩ ⟨bz, h4⟩
  have a2 : bits .and .i64 (az : Int) (bx : Int) = (P2 : Int) := by rw [hP2]; exact and_bits ⟨az, h2⟩ ⟨bx, h3⟩
  have l1 : Hid (P1 < 32) := by show P1 < 32; rw [hP1]; exact and_lt h1
  have l2 : Hid (P2 < 32) := by show P2 < 32; rw [hP2]; exact and_lt h2
  rw [← hP1, ← hP2] at Hc
  have u1 : IntKind.wrap .u64 (P1 : Int) = (P1 : Int) := IntWalk.u64_in _ (by have := l1.out; omega)
  have u2 : IntKind.wrap .u64 (P2 : Int) = (P2 : Int) := IntWalk.u64_in _ (by have := l2.out; omega)
  have b1 := pop_le P1
  have b2 := pop_le P2
  generalize ho1 : pop P1 = o1 at b1 Hc
  generalize ho2 : pop P2 = o2 at b2 Hc
  have q1 : Hid (∀ W, Calls Try.prog 108 #[.int .u64 (P1 : Int)] W fun e w' => e = .returned (.int .i64 (o1 : Int)) ∧ Below W.heap.size W w') := by intro W; have := ones_q P1 W l1.out; rw [ho1] at this; exact this
  have q2 : Hid (∀ W, Calls Try.prog 108 #[.int .u64 (P2 : Int)] W fun e w' => e = .returned (.int .i64 (o2 : Int)) ∧ Below W.heap.size W w') := by intro W; have := ones_q P2 W l2.out; rw [ho2] at this; exact this
  obtain ⟨S, hS⟩ : ∃ S : Nat, S = o1 + o2 := ⟨_, rfl⟩
  obtain ⟨r, hr⟩ : ∃ r : Nat, r = S % 2 := ⟨_, rfl⟩
  have hs : (o1 : Int) + (o2 : Int) = (S : Int) := by omega
  have ht : (S : Int).tmod 2 = (r : Int) := by rw [hr]; rfl
  have ht2 : (S : Int) % 2 = (r : Int) := by rw [hr]; rfl
  have hS10 : S ≤ 10 := by rw [hS]; exact Nat.add_le_add b1 b2
  have hr1 : r < 2 := by rw [hr]; exact Nat.mod_lt _ (by decide)
  have hSi : (-9223372036854775808 : Int) ≤ (S : Int) ∧ (S : Int) ≤ 9223372036854775807 := by clear ht ht2 hs hr hS; omega
  have hri : (-9223372036854775808 : Int) ≤ (r : Int) ∧ (r : Int) ≤ 9223372036854775807 := by clear ht ht2 hs hr hS; omega
  obtain ⟨w0, w0'⟩ := wr64 hSi
  obtain ⟨w1, w1'⟩ := wr64 hri
  clear hSi hri hS10 hr1
  rw [← hS, ← hr] at Hc
  have Hb : Hid (((r : Int) == 0) = (r == 0)) := by show _ = _; rw [Bool.eq_iff_iff]; simp
  clear hS hr hP1 hP2 b1 b2 ho1 ho2 h1 h2 h3 h4
  rw [Hc.out, ← Hb.out]
  go_enter Try.func60, Try.ntmps60
  go_wp2_with fail
  generalize hW0 : (w.alloc (.cells #[.int .i64 pa, .int .i64 (ax : Int), .int .i64 (az : Int)] 26)).alloc (.cells #[.int .i64 pb, .int .i64 (bx : Int), .int .i64 (bz : Int)] 26) = W0
  have B0 : Below w.heap.size w W0 := by rw [← hW0]; clear hW0; go_grown
  have k0 := fun o => cell_of_row W0 w.heap.size o _ _ _ (by rw [← hW0]; exact (Below.heap_alloc _ _ _ (by go_size)).trans (heap_top _ _ rfl))
  have k1 := fun o => cell_of_row W0 (w.heap.size + 1) o _ _ _ (by rw [← hW0]; exact heap_top _ _ (by simp))
  have yA1 : w.heap.size + 1 < W0.heap.size := by rw [← hW0]; clear hW0; go_size
  have yA0 : w.heap.size < W0.heap.size := by omega
  clear hW0
  go_region_held3 (fun w' => (∀ b o, b < W0.heap.size → w'.cell? ⟨b, o, none⟩ = W0.cell? ⟨b, o, none⟩) ∧ Below W0.heap.size W0 w') ((refine SB_mk ?_; go_grown)) (first | (go_at_call 108; with_reducible refine (q1.out _).mono ?_; rintro e wA ⟨rfl, bA⟩; obtain ⟨bAc, bAf⟩ := bcell bA; (try with_reducible have yA := lt_size bA); (try with_reducible have yA := lt_sizeD bA); (try with_reducible have yB := Nat.lt_of_lt_of_le (by assumption) bA.size); have sA := (SB_step (W := W0) (by with_reducible assumption) bA).2; have zA := sA.size) | (go_at_call 108; with_reducible refine (q2.out _).mono ?_; rintro e wA ⟨rfl, bA⟩; obtain ⟨bAc, bAf⟩ := bcell bA; (try with_reducible have yA := lt_size bA); (try with_reducible have yA := lt_sizeD bA); (try with_reducible have yB := Nat.lt_of_lt_of_le (by assumption) bA.size); have sA := (SB_step (W := W0) (by with_reducible assumption) bA).2; have zA := sA.size))
  all_goals
    clear bA bAc bAf
    go_wp2
    go_ret
    exact ⟨rfl, B0.trans (sA.mono B0.size)⟩

theorem Try.stoodP : Try.prog.stoodInHeld 26 = false := by kernel_rfl
theorem Try.guardP : Try.prog.eqGuardType Try.prog.depth 26 = false := by kernel_rfl
theorem run_eqP (a b c a' b' c' : Int) (w : World) : (binOp .eql 26 (pv a b c) (pv a' b' c')).run Try.prog w = .ok (.bool (a == a' && (b == b' && c == c'))) w := by
  rw [run_eql_struct, run_equalIn_agg w 9999 26 _ _ (by kernel_rfl) Try.stoodP]
  simp only [Program.fieldsOf, Try.underlying26]
  by_cases h1 : a = a' <;> by_cases h2 : b = b' <;> by_cases h3 : c = c' <;> simp [go_sem, h1, h2, h3]
theorem run_gdP (op : BinOp) (t : TypeId) (x y : Operand) (xs ys : Array Value) (w : World) (ht : t = 26) : (eqGuard op t x y (.agg xs) (.agg ys)).run Try.prog w = .ok () w := by
  subst ht
  exact run_eqGuard_agg w op _ x y xs ys Try.guardP

set_option maxRecDepth 100000 in
set_option maxHeartbeats 8000000 in
theorem l7Commute_any (pa pb ax az bx bz : Nat) (w : World) (hpa : pa < 4) (hpb : pb < 4) (h1 : ax < 32) (h2 : az < 32) (h3 : bx < 32) (h4 : bz < 32) :
    Calls Try.prog 59 #[pv (pa : Int) (ax : Int) (az : Int), pv (pb : Int) (bx : Int) (bz : Int)] w fun e w' => e = .returned (.bool (comB ax az bx bz)) ∧ Below w.heap.size w w' := by
  have heq := fun (a b c a' b' c' : Int) (W : World) => run_eqP a b c a' b' c' W
  have hgd := fun (x y : Operand) (xs ys : Array Value) (W : World) => run_gdP .eql 26 x y xs ys W rfl
  have hcom := com_ph (pa := pa) (pb := pb) h1 h2 h3 h4
  have q1 : Hid (∀ W, Calls Try.prog 61 #[pv (pa : Int) (ax : Int) (az : Int), pv (pb : Int) (bx : Int) (bz : Int)] W fun e w' => e = .returned (pv ((phM pa pb ax az bx bz : Nat) : Int) ((ax ^^^ bx : Nat) : Int) ((az ^^^ bz : Nat) : Int)) ∧ Below W.heap.size W w') := fun W => l7Mul_any pa pb ax az bx bz W hpa hpb h1 h2 h3 h4
  have q2 : Hid (∀ W, Calls Try.prog 61 #[pv (pb : Int) (bx : Int) (bz : Int), pv (pa : Int) (ax : Int) (az : Int)] W fun e w' => e = .returned (pv ((phM pb pa bx bz ax az : Nat) : Int) ((ax ^^^ bx : Nat) : Int) ((az ^^^ bz : Nat) : Int)) ∧ Below W.heap.size W w') := fun W => by
    have := l7Mul_any pb pa bx bz ax az W hpb hpa h3 h4 h1 h2
    rw [Nat.xor_comm bx ax, Nat.xor_comm bz az] at this
    exact this
  obtain ⟨X, hX⟩ : ∃ X, X = ax ^^^ bx := ⟨_, rfl⟩
  obtain ⟨Z, hZ⟩ : ∃ Z, Z = az ^^^ bz := ⟨_, rfl⟩
  obtain ⟨F, hF⟩ : ∃ F, F = phM pa pb ax az bx bz := ⟨_, rfl⟩
  obtain ⟨F', hF'⟩ : ∃ F, F = phM pb pa bx bz ax az := ⟨_, rfl⟩
  rw [← hX, ← hZ, ← hF] at q1
  rw [← hX, ← hZ, ← hF'] at q2
  rw [← hF, ← hF'] at hcom
  have Hcom : Hid (((F : Int) == (F' : Int)) = comB ax az bx bz) := by
    show _ = _
    rw [← hcom, Bool.eq_iff_iff]
    simp only [beq_iff_eq]
    omega
  clear hX hZ hF hF' hcom hpa hpb h1 h2 h3 h4
  rw [← Hcom.out]
  go_enter Try.func59, Try.ntmps59
  go_wp2_with fail
  generalize hW0 : (w.alloc (.cells #[.int .i64 (pa : Int), .int .i64 (ax : Int), .int .i64 (az : Int)] 26)).alloc (.cells #[.int .i64 (pb : Int), .int .i64 (bx : Int), .int .i64 (bz : Int)] 26) = W0
  have B0 : Below w.heap.size w W0 := by rw [← hW0]; clear hW0; go_grown
  have k0 := fun o => cell_of_row W0 w.heap.size o _ _ _ (by rw [← hW0]; exact (Below.heap_alloc _ _ _ (by go_size)).trans (heap_top _ _ rfl))
  have k1 := fun o => cell_of_row W0 (w.heap.size + 1) o _ _ _ (by rw [← hW0]; exact heap_top _ _ (by simp))
  have yA1 : w.heap.size + 1 < W0.heap.size := by rw [← hW0]; clear hW0; go_size
  have yA0 : w.heap.size < W0.heap.size := by omega
  clear hW0
  go_region_held3 (fun w' => (∀ b o, b < W0.heap.size → w'.cell? ⟨b, o, none⟩ = W0.cell? ⟨b, o, none⟩) ∧ Below W0.heap.size W0 w') ((refine SB_mk ?_; go_grown)) (first | (go_at_call 61; with_reducible refine (q1.out _).mono ?_; rintro e wA ⟨rfl, bA⟩; obtain ⟨bAc, bAf⟩ := bcell bA; (try with_reducible have yA := lt_size bA); (try with_reducible have yA := lt_sizeD bA); (try with_reducible have yB := Nat.lt_of_lt_of_le (by assumption) bA.size); have sA := (SB_step (W := W0) (by with_reducible assumption) bA).2; have zA := sA.size) | (go_at_call 61; with_reducible refine (q2.out _).mono ?_; rintro e wA ⟨rfl, bA⟩; obtain ⟨bAc, bAf⟩ := bcell bA; (try with_reducible have yA := lt_size bA); (try with_reducible have yA := lt_sizeD bA); (try with_reducible have yB := Nat.lt_of_lt_of_le (by assumption) bA.size); have sA := (SB_step (W := W0) (by with_reducible assumption) bA).2; have zA := sA.size))
  all_goals
    clear bA bAc bAf
    go_wp2
    go_ret
    exact ⟨ret_bool (by simp), B0.trans (sA.mono B0.size)⟩
end Go.Proofs.Ytcmkkjdleihjfaa
