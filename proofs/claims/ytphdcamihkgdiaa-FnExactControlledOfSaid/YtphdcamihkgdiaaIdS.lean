/- IdentityMatrix of the reference. -/
import Derived.Test.YtphdcamihkgdiaaAtM
import Derived.Test.YtphdcamihkgdiaaKeep
import Derived.Test.YtphdcamihkgdiaaPhase
import Derived.Deep.RegionLaw
namespace Go.Proofs.Ytphdcamihkgdiaa
open Go.RowKit

theorem flatD_set : ∀ (xs : List D5) (k : Nat) (x : D5), flatD (xs.set k x) = if k < xs.length then set5 (flatD xs) (k * 5) x.1.1 x.1.2.1 x.1.2.2.1 x.1.2.2.2 x.2 else flatD xs
  | [], k, x => by simp
  | y :: ys, 0, x => by
    rw [if_pos (by simp)]
    rfl
  | y :: ys, k + 1, x => by
    have ih := flatD_set ys k x
    have e : flatD ((y :: ys).set (k + 1) x) = [y.1.1, y.1.2.1, y.1.2.2.1, y.1.2.2.2, y.2] ++ flatD (ys.set k x) := rfl
    rw [e, ih]
    by_cases h : k < ys.length
    · rw [if_pos h, if_pos (by simp; omega), show (k + 1) * 5 = k * 5 + 5 from by omega]
      rfl
    · rw [if_neg h, if_neg (by simp; omega)]
      rfl
def unitTo (i a b : Nat) : D5 := if a = b ∧ a < i then ((1, 0, 0, 0), 0) else zeroD
theorem unit_step {n i : Nat} (hi : i < n) : (cellsM n (n * n) (unitTo i)).set (i * n + i) ((1, 0, 0, 0), 0) = cellsM n (n * n) (unitTo (i + 1)) := by
  apply List.ext_getElem?
  intro t
  rw [List.getElem?_set]
  have hlt : i * n + i < n * n := idx_lt rfl hi hi
  by_cases ht : t < n * n
  · have e : ∀ f : Nat → Nat → D5, (cellsM n (n * n) f)[t]? = some (f (t / n) (t % n)) := fun f => by simp [cellsM, ht]
    rw [e, e]
    by_cases h : i * n + i = t
    · rw [if_pos h, if_pos (by rw [cellsM_len]; exact hlt)]
      obtain ⟨h1, h2⟩ := idx_div (i := i) (j := i) hi
      rw [← h, h1, h2]
      simp [unitTo]
    · rw [if_neg h]
      congr 1
      have hd := Nat.div_add_mod t n
      unfold unitTo
      have : (t / n = t % n ∧ t / n < i + 1) ↔ (t / n = t % n ∧ t / n < i) := by
        constructor
        · rintro ⟨h1, h2⟩
          refine ⟨h1, ?_⟩
          rcases Nat.lt_or_ge (t / n) i with h3 | h3
          · exact h3
          · exfalso
            have h4 : t / n = i := by omega
            apply h
            rw [← hd, ← h1, h4, Nat.mul_comm n i]
        · rintro ⟨h1, h2⟩
          exact ⟨h1, by omega⟩
      simp only [this]
  · rw [List.getElem?_eq_none (by rw [cellsM_len]; omega), List.getElem?_eq_none (by rw [cellsM_len]; omega)]
    split
    · next h => split <;> omega
    · rfl
theorem unit_zero (n : Nat) : flatD (cellsM n (n * n) (unitTo 0)) = List.replicate (n * n * 5) 0 := by
  have h1 : cellsM n (n * n) (unitTo 0) = List.replicate (n * n) zeroD := by
    rw [List.eq_replicate_iff]
    refine ⟨cellsM_len _ _ _, fun x hx => ?_⟩
    simp only [cellsM, List.mem_map] at hx
    obtain ⟨t, _, rfl⟩ := hx
    simp [unitTo]
  rw [h1]
  generalize n * n = m
  induction m with
  | zero => rfl
  | succ m ih =>
    rw [List.replicate_succ]
    show [0, 0, 0, 0, 0] ++ flatD (List.replicate m zeroD) = _
    rw [ih, show (m + 1) * 5 = m * 5 + 5 from by omega]
    rfl
theorem unit_all (n : Nat) : cellsM n (n * n) (unitTo n) = cellsM n (n * n) ijD := by
  unfold cellsM
  refine List.map_congr_left fun t ht => ?_
  have h := List.mem_range.1 ht
  have h1 : t / n < n := Nat.div_lt_of_lt_mul h
  simp [unitTo, ijD, h1]
set_option maxRecDepth 100000 in
set_option maxHeartbeats 8000000 in
theorem l3Unit_any (n : Nat) (w : World) (hn : n ≤ 32) :
    Calls Try.prog 80 #[.int .i64 (n : Int)] w fun e w' => ∃ (A' : Option Addr) (cap' : Nat), e = .returned (mv n n A' (cellsM n (n * n) ijD).length cap') ∧ FlatIn w' A' (flatD (cellsM n (n * n) ijD)) w.heap.size w'.heap.size ∧ Below w.heap.size w w' := by
  have hm1 : (0 : Int) ≤ (n : Int) * (n : Int) := Int.mul_nonneg (by omega) (by omega)
  have hm3 : n * n ≤ 1024 := Nat.mul_le_mul hn hn
  obtain ⟨q, hq⟩ : ∃ q : Nat, q = n * n := ⟨_, rfl⟩
  have hqi : (n : Int) * (n : Int) = (q : Int) := by rw [hq, Int.natCast_mul]
  have hq2 : q ≤ 1024 := by omega
  have Hq := Lib.hid hq
  clear hq hm3 hm1
  obtain ⟨i0, hi, hz0, hz1, hz2⟩ := info_parts Try.infoDyadic
  go_enter Try.func80, Try.ntmps80
  go_wp2_with (at_make; refine wpList_make_full _ rfl _ _ 52 rfl (w.heap.size + 1) 99 i0 (dv 0 0 0 0 0) 5 Try.underlying52 hi hz0 hz1 .i64 .i64 _ _ q rfl rfl (by first | rfl | omega) (by first | rfl | omega) (by rw [hz2]; omega) (by unfold maxLen; omega) (by simp) ?_)
  intro w1 hown hgrow
  rw [made_zero5] at hown
  have F1 := Lib.hid (FlatIn.of_owns hown rfl)
  have B1 : Below w.heap.size w w1 := Below.grown (by go_grown) hgrow (by simp) (fun k hk => by cases hk)
  have HZ1 : Hid (Zero3 w1 w.heap.size) := (hgrow.block _ (by simp) (by simp)).trans (heap_top _ _ rfl)
  have z1 : w.heap.size + 1 < w1.heap.size := by
    obtain ⟨g, e, _, h, _⟩ := F1.out.1 _ rfl
    cases e
    exact h
  have z0 : w.heap.size < w1.heap.size := by omega
  clear hown hgrow
  go_wp2_with fail
  go_loopg [4] n (fun gk s wr => ∃ i : Nat, s = .int .i64 i ∧ i + gk = n ∧ FlatIn wr (some ⟨w.heap.size + 1, 0, none⟩) (flatD (cellsM n (n * n) (unitTo i))) (w.heap.size + 1) w1.heap.size ∧ Zero3 wr w.heap.size ∧ wr.heap[w1.heap.size]? = some (.cells #[.int .i64 (n : Int), .int .i64 (n : Int), .slice (some ⟨w.heap.size + 1, 0, none⟩) q q] 54 (0, 0)) ∧ Below w.heap.size w wr)
  case atStart =>
    refine ⟨0, rfl, by omega, ?_, (Below.heap_alloc _ _ _ z0).trans HZ1.out, heap_top _ _ rfl, by go_grown⟩
    rw [unit_zero, ← Hq.out]
    exact F1.out.alloc _
  case round =>
    obtain ⟨i, rfl, hig, hf, hz, hp, hb⟩ := hrel
    have zr : w1.heap.size < wr.heap.size := (Array.getElem?_eq_some_iff.1 hp).1
    have k0 := cell_of_row wr w1.heap.size 0 _ _ _ hp
    have k1 := cell_of_row wr w1.heap.size 1 _ _ _ hp
    have k2 := cell_of_row wr w1.heap.size 2 _ _ _ hp
    have Hf := Lib.hid hf
    have Hz := Lib.hid hz
    have Hp := Lib.hid hp
    clear hf hz hp
    by_cases hlt : i < n
    · obtain ⟨p, hpd⟩ : ∃ p : Nat, p = i * n + i := ⟨_, rfl⟩
      have hplt : p < q := by rw [hpd, Hq.out]; exact idx_lt rfl hlt hlt
      have hm1 : (0 : Int) ≤ (i : Int) * (n : Int) := Int.mul_nonneg (by omega) (by omega)
      have hpi : (i : Int) * (n : Int) + (i : Int) = (p : Int) := by rw [hpd, Int.natCast_add, Int.natCast_mul]
      have hp0 : (0 : Int) ≤ (p : Int) := by omega
      have hplti : (p : Int) < (q : Int) := by omega
      have hw1 : IntKind.wrap .i64 ((i : Int) * (n : Int)) = (i : Int) * (n : Int) := IntWalk.i64_in _ (by omega)
      have hw2 : IntKind.wrap .i64 ((i : Int) * (n : Int) + (i : Int)) = (p : Int) := by rw [hpi]; exact IntWalk.i64_in _ (by omega)
      have hw3 : IntKind.wrap .i64 (p : Int) = (p : Int) := IntWalk.i64_in _ (by omega)
      have hl5 : (flatD (cellsM n (n * n) (unitTo i))).length = q * 5 := by rw [flatD_len, cellsM_len, Hq.out]
      have Hl5 := Lib.hid hl5
      have Hst : Hid (set5 (flatD (cellsM n (n * n) (unitTo i))) (p * 5) 1 0 0 0 0 = flatD (cellsM n (n * n) (unitTo (i + 1)))) := by
        show _ = _
        rw [← unit_step hlt, flatD_set, if_pos (by rw [cellsM_len, ← Hq.out, ← hpd]; exact hplt), ← hpd]
      have Hone : Hid (∀ W, Calls Try.prog 113 #[.int .i64 0] W fun r w' => r = .returned (dv 1 0 0 0 0) ∧ Below W.heap.size W w') := fun W => l2Power_any 0 W (by omega)
      clear hl5 hpd
      go_wp2_with fail
      go_region_law (first | (go_simp; go_at_call 113; refine (Hone.out _).mono ?_; rintro e wA ⟨rfl, bA⟩; have bA' : Below wr.heap.size wr wA := (by first | exact bA | exact ⟨bA.os, bA.tape, bA.output, bA.size, bA.block⟩); have FA := Lib.hid (Hf.out.below bA' (by omega)); have sl := Lib.hid (FA.out.slots5 Hl5.out hplt); obtain ⟨⟨v0, v1, v2, v3, v4, d0, d1, d2, d3, d4⟩, f2, _, _⟩ := sl.out; have hpA := Lib.hid ((bA'.block _ zr).trans Hp.out); have hzA := Lib.hid ((bA'.block w.heap.size (by omega)).trans Hz.out); have kA2 := cell_of_row wA w1.heap.size 2 _ _ _ hpA.out; have BA : Below w.heap.size w wA := hb.trans (bA'.mono hb.size); have zA := bA'.size; have zA2 : w1.heap.size < wA.heap.size := (by omega); clear bA bA'))
      all_goals
        go_wp2
        go_roundg (n - (i + 1))
        case measure => omega
        case rel =>
          refine ⟨i + 1, by go_num, by omega, ?_, ?_, ?_, ?_⟩
          · rw [← Hst.out]
            exact FA.out.set5 _ _ _ _ _ _
          · exact (((((Below.heap_setCell _ _ _ _ (by dsimp only; omega)).trans (Below.heap_setCell _ _ _ _ (by dsimp only; omega))).trans (Below.heap_setCell _ _ _ _ (by dsimp only; omega))).trans (Below.heap_setCell _ _ _ _ (by dsimp only; omega))).trans (Below.heap_setCell _ _ _ _ (by dsimp only; omega))).trans hzA.out
          · exact (((((Below.heap_setCell _ _ _ _ (by dsimp only; omega)).trans (Below.heap_setCell _ _ _ _ (by dsimp only; omega))).trans (Below.heap_setCell _ _ _ _ (by dsimp only; omega))).trans (Below.heap_setCell _ _ _ _ (by dsimp only; omega))).trans (Below.heap_setCell _ _ _ _ (by dsimp only; omega))).trans hpA.out
          · go_grown
    · have hin : i = n := by omega
      subst hin
      have q0 := cell_of_row wr w.heap.size 0 _ _ _ Hz.out
      have q1 := cell_of_row wr w.heap.size 1 _ _ _ Hz.out
      have q2 := cell_of_row wr w.heap.size 2 _ _ _ Hz.out
      have qf := fun o => frozen_of_row wr w.heap.size o _ _ Hz.out
      have hlq : Hid (q = (cellsM i (i * i) ijD).length) := by show q = _; rw [cellsM_len]; exact Hq.out
      go_wp2
      rw [← hlq.out]
      refine bodyPost_ret (by simp [results, Try.results80, go_sem, q0, q1, q2]) rfl ⟨some ⟨w.heap.size + 1, 0, none⟩, q, rfl, ?_, ?_⟩
      · rw [← unit_all]
        refine FlatIn.mono (lo := w.heap.size + 1) (hi := w1.heap.size) ?_ (by omega) (by go_size) (Nat.le_refl _)
        repeat (refine FlatIn.setFar ?_ (by dsimp only; omega) _)
        exact Hf.out
      · go_grown

end Go.Proofs.Ytphdcamihkgdiaa
