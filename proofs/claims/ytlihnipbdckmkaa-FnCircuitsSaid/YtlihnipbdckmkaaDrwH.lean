/- The reference's draws that begin with bytes: circuits for Concat. -/
import Derived.Test.YtlihnipbdckmkaaDrwF
namespace Go.Proofs.Ytlihnipbdckmkaa
open Go.RowKit

set_option maxRecDepth 100000 in
set_option maxHeartbeats 8000000 in
theorem drawCat_any (A : Option Addr) (n cap : Nat) (w : World) (hB : Hid (ByteAt w A n)) :
    Calls Try.prog 12 #[.slice A n cap] w fun e w' => CirD2 w e w' := by
  go_enter Try.func12, Try.ntmps12
  go_wp2_with fail
  generalize hW0 : ((w.alloc (.cells #[.int .i64 0, .slice none 0 0] 38)).alloc (.cells #[.int .i64 0, .slice none 0 0] 38)).alloc (.cells #[.slice A n cap, .int .i64 0, .int .u64 0] 73) = W0
  have B0 : Below w.heap.size w W0 := by rw [← hW0]; clear hW0; go_grown
  have hd0 : Hid (Dr W0 (w.heap.size + 1 + 1) A n cap 0) := by rw [← hW0] at B0 ⊢; exact Dr.start hB.out B0 (by omega) (heap_top _ _ (by simp))
  have HZ : Hid (ZeroC W0 w.heap.size) := by rw [← hW0]; exact (Below.heap_alloc _ _ _ (by go_size)).trans ((Below.heap_alloc _ _ _ (by go_size)).trans (heap_top _ _ rfl))
  have HY : Hid (ZeroC W0 (w.heap.size + 1)) := by rw [← hW0]; exact (Below.heap_alloc _ _ _ (by go_size)).trans (heap_top _ _ (by simp))
  have hs0 : w.heap.size + 1 + 1 < W0.heap.size := by rw [← hW0]; go_size
  clear hW0
  refine (anyCircuit_any _ A n cap 0 _ hd0 (by omega)).mono ?_
  rintro e w1 ⟨q, A1, c1, xs, rfl, hq0, hq6, hxl, hown1, hd1, ht1⟩
  have Hd1 := Lib.hid hd1
  have B1 := Touch.new B0 ht1 (by omega)
  have HZ1 : Hid (ZeroC w1 w.heap.size) := (ht1.block _ (by omega) (by omega)).trans HZ.out
  have HY1 : Hid (ZeroC w1 (w.heap.size + 1)) := (ht1.block _ (by omega) (by omega)).trans HY.out
  have Hf1 := Lib.hid (FlatIn.of_owns hown1 rfl)
  have zs1 := ht1.size
  clear hd1 ht1 B0 hd0 HZ HY hown1
  go_upto_region 3 with fail
  generalize hW1 : w1.alloc (.cells #[.int .i64 q, .slice A1 xs.length c1] 38) = W1
  have B2 : Below w.heap.size w W1 := by rw [← hW1]; exact B1.alloc B1.size _
  have Hd2 : Hid (Dr W1 (w.heap.size + 1 + 1) A n cap (0 + 1020)) := by rw [← hW1]; exact Hd1.out.alloc _
  have HZ2 : Hid (ZeroC W1 w.heap.size) := by rw [← hW1]; exact (Below.heap_alloc _ _ _ (by omega)).trans HZ1.out
  have HY2 : Hid (ZeroC W1 (w.heap.size + 1)) := by rw [← hW1]; exact (Below.heap_alloc _ _ _ (by omega)).trans HY1.out
  have HX2 : Hid (LocC W1 w1.heap.size q A1 xs.length c1) := by rw [← hW1]; exact LocC.of_row (heap_top _ _ rfl)
  have Hf2 : Hid (FlatIn W1 A1 (flatG xs) W0.heap.size w1.heap.size) := by rw [← hW1]; exact Hf1.out.alloc _
  have hs2 : w1.heap.size < W1.heap.size := by rw [← hW1]; go_size
  obtain ⟨_, x0, x1⟩ := HX2.out
  clear hW1 Hd1 HZ1 HY1 B1 Hf1
  go_wp2_with fail
  refine (mostC_any _ _ _).mono ?_
  rintro e w' ⟨rfl, rfl⟩
  obtain ⟨v, hv⟩ : ∃ v, v = (if q > 1 then q else 1) := ⟨_, rfl⟩
  have hv1 : 1 ≤ v ∧ v ≤ 6 := by rw [hv]; split <;> omega
  rw [← hv]
  clear hv
  go_wp2_with fail
  refine (leastC_any _ _ _).mono ?_
  rintro e w' ⟨rfl, rfl⟩
  obtain ⟨u, hu⟩ : ∃ u, u = (if v < 5 then v else 5) := ⟨_, rfl⟩
  have hu1 : 1 ≤ u ∧ u ≤ 5 := by rw [hu]; split <;> omega
  rw [← hu]
  clear hu hv1 x0 x1
  go_wp2_with fail
  generalize hW2 : W1.alloc (.cells #[.int .i64 1, .int .i64 7, .int .i64 9, .int .i64 10] 3) = W2
  have B3 : Below w.heap.size w W2 := by rw [← hW2]; exact B2.alloc B2.size _
  have Hd3 : Hid (Dr W2 (w.heap.size + 1 + 1) A n cap (0 + 1020)) := by rw [← hW2]; exact Hd2.out.alloc _
  have HZ3 : Hid (ZeroC W2 w.heap.size) := by rw [← hW2]; exact (Below.heap_alloc _ _ _ (by omega)).trans HZ2.out
  have HY3 : Hid (ZeroC W2 (w.heap.size + 1)) := by rw [← hW2]; exact (Below.heap_alloc _ _ _ (by omega)).trans HY2.out
  have bb : Below W1.heap.size W1 W2 := by rw [← hW2]; exact Below.alloc (Below.refl _ _) (Nat.le_refl _) _
  have HX3 := Lib.hid (HX2.out.call bb)
  have Hf3 := Lib.hid (Hf2.out.call bb)
  have HL : Hid (∀ j z, [(1 : Int), 7, 9, 10][j]? = some z → W2.cell? ⟨W1.heap.size, j, none⟩ = some (.int .i64 z)) := by rw [← hW2]; exact list_newC [1, 7, 9, 10] (heap_top _ _ rfl)
  have hs3 : W1.heap.size < W2.heap.size := by rw [← hW2]; go_size
  clear hW2 Hd2 HZ2 HY2 B2 Hf2 HX2 bb
  refine (built_any _ A n cap _ u 6 W1.heap.size 4 [1, 7, 9, 10] _ Hd3 (by omega) hu1.1 (by omega) (by omega) (by decide) (by decide) (by omega) hs3 HL).mono ?_
  rintro e w2 ⟨p, A2, c2, ys, rfl, hp1, hp2, hyl, hown2, hd4, ht4⟩
  have Hd4 := Lib.hid hd4
  have B4 := Touch.new B3 ht4 (by omega)
  have HZ4 : Hid (ZeroC w2 w.heap.size) := (ht4.block _ (by omega) (by omega)).trans HZ3.out
  have HY4 : Hid (ZeroC w2 (w.heap.size + 1)) := (ht4.block _ (by omega) (by omega)).trans HY3.out
  have HX4 := Lib.hid (HX3.out.touch ht4 (by omega))
  have Hf4 := Lib.hid (Hf3.out.touch ht4 (by omega))
  have Hg4 := Lib.hid (FlatIn.of_owns hown2 rfl)
  have zs4 := ht4.size
  clear hd4 ht4 B3 Hd3 HZ3 HY3 HX3 Hf3 HL hown2
  go_upto_region 4 with fail
  generalize hW3 : w2.alloc (.cells #[.int .i64 p, .slice A2 ys.length c2] 38) = W3
  have B5 : Below w.heap.size w W3 := by rw [← hW3]; exact B4.alloc B4.size _
  have bb : Below w2.heap.size w2 W3 := by rw [← hW3]; exact Below.alloc (Below.refl _ _) (Nat.le_refl _) _
  have Hd5 := Lib.hid (Hd4.out.call bb)
  have HZ5 : Hid (ZeroC W3 w.heap.size) := (bb.block _ (by omega)).trans HZ4.out
  have HY5 : Hid (ZeroC W3 (w.heap.size + 1)) := (bb.block _ (by omega)).trans HY4.out
  have HX5 := Lib.hid (HX4.out.call bb)
  have Hf5 := Lib.hid (Hf4.out.call bb)
  have Hg5 := Lib.hid (Hg4.out.call bb)
  have HW5 : Hid (W3.heap[w2.heap.size]? = some (.cells #[.int .i64 p, .slice A2 ys.length c2] 38 (0, 0))) := by rw [← hW3]; exact heap_top _ _ rfl
  have hs5 : w2.heap.size < W3.heap.size := by rw [← hW3]; go_size
  clear hW3 Hd4 HZ4 HY4 B4 Hf4 HX4 bb Hg4
  go_wp2_with fail
  refine (one_any _ A n cap _ 8 _ Hd5 (by omega) (by decide) (by decide)).mono ?_
  rintro e w3 ⟨k, rfl, hd6, ht6⟩
  have Hd6 := Lib.hid hd6
  have B6 := Touch.new B5 ht6 (by omega)
  have HZ6 : Hid (ZeroC w3 w.heap.size) := (ht6.block _ (by omega) (by omega)).trans HZ5.out
  have HY6 : Hid (ZeroC w3 (w.heap.size + 1)) := (ht6.block _ (by omega) (by omega)).trans HY5.out
  have HX6 := Lib.hid (HX5.out.touch ht6 (by omega))
  have Hf6 := Lib.hid (Hf5.out.touch ht6 (by omega))
  have Hg6 := Lib.hid (Hg5.out.touch ht6 (by omega))
  have HW6 := Lib.hid ((ht6.block _ hs5 (by omega)).trans HW5.out)
  have zs6 := ht6.size
  clear hd6 ht6 B5 Hd5 HZ5 HY5 HX5 Hf5 Hg5 HW5
  cases k
  · have q0 := cell_of_row w3 w.heap.size 0 _ _ _ HZ6.out
    have q1 := cell_of_row w3 w.heap.size 1 _ _ _ HZ6.out
    have qf := fun o => frozen_of_row w3 w.heap.size o _ _ HZ6.out
    have y0 := cell_of_row w3 (w.heap.size + 1) 0 _ _ _ HY6.out
    have y1 := cell_of_row w3 (w.heap.size + 1) 1 _ _ _ HY6.out
    have yf := fun o => frozen_of_row w3 (w.heap.size + 1) o _ _ HY6.out
    have v0 := cell_of_row w3 w2.heap.size 0 _ _ _ HW6.out
    have v1 := cell_of_row w3 w2.heap.size 1 _ _ _ HW6.out
    obtain ⟨_, x0, x1⟩ := HX6.out
    have zw3 : w.heap.size < w3.heap.size := by omega
    have zw4 : w.heap.size + 1 < w3.heap.size := by omega
    go_wp2_with fail
    go_region
    all_goals
      go_wp2
      refine bodyPost_ret (by simp [results, Try.results12, go_sem, q0, q1, y0, y1]) rfl ⟨q, A1, c1, xs, p, A2, c2, ys, rfl, by omega, by omega, ?_, ?_, ?_⟩
      · refine FlatIn.mono (lo := W0.heap.size) (hi := w1.heap.size) ?_ (by omega) (by go_size) (Nat.le_refl _)
        repeat (first | (with_reducible refine FlatIn.setFar ?_ (by dsimp only; omega) _) | (with_reducible refine FlatIn.drew ?_))
        exact Hf6.out
      · refine FlatIn.mono (lo := W2.heap.size) (hi := w2.heap.size) ?_ (by omega) (by go_size) (Nat.le_refl _)
        repeat (first | (with_reducible refine FlatIn.setFar ?_ (by dsimp only; omega) _) | (with_reducible refine FlatIn.drew ?_))
        exact Hg6.out
      · go_grown
  · go_wp2_with fail
    refine (anyCircuit_any _ A n cap _ _ Hd6 (by omega)).mono ?_
    rintro e w4 ⟨p', A3, c3, zs, rfl, _, _, hzl, hown3, _, ht7⟩
    have B7 := Touch.new B6 ht7 (by omega)
    have HZ7 : Hid (ZeroC w4 w.heap.size) := (ht7.block _ (by omega) (by omega)).trans HZ6.out
    have HY7 : Hid (ZeroC w4 (w.heap.size + 1)) := (ht7.block _ (by omega) (by omega)).trans HY6.out
    have HX7 := Lib.hid (HX6.out.touch ht7 (by omega))
    have Hf7 := Lib.hid (Hf6.out.touch ht7 (by omega))
    have Hg7 := Lib.hid (FlatIn.of_owns hown3 rfl)
    have HW7 := Lib.hid ((ht7.block w2.heap.size (by omega) (by omega)).trans HW6.out)
    have zs7 := ht7.size
    clear ht7 B6 Hd6 HZ6 HY6 HX6 Hf6 Hg6 HW6 hown3
    have q0 := cell_of_row w4 w.heap.size 0 _ _ _ HZ7.out
    have q1 := cell_of_row w4 w.heap.size 1 _ _ _ HZ7.out
    have qf := fun o => frozen_of_row w4 w.heap.size o _ _ HZ7.out
    have y0 := cell_of_row w4 (w.heap.size + 1) 0 _ _ _ HY7.out
    have y1 := cell_of_row w4 (w.heap.size + 1) 1 _ _ _ HY7.out
    have yf := fun o => frozen_of_row w4 (w.heap.size + 1) o _ _ HY7.out
    have v0 := cell_of_row w4 w2.heap.size 0 _ _ _ HW7.out
    have v1 := cell_of_row w4 w2.heap.size 1 _ _ _ HW7.out
    have vf := fun o => frozen_of_row w4 w2.heap.size o _ _ HW7.out
    obtain ⟨_, x0, x1⟩ := HX7.out
    have zw3 : w.heap.size < w4.heap.size := by omega
    have zw4 : w.heap.size + 1 < w4.heap.size := by omega
    have zw5 : w2.heap.size < w4.heap.size := by omega
    go_wp2_with fail
    go_region
    all_goals
      go_wp2
      refine bodyPost_ret (by simp [results, Try.results12, go_sem, q0, q1, y0, y1]) rfl ⟨q, A1, c1, xs, p', A3, c3, zs, rfl, by omega, by omega, ?_, ?_, ?_⟩
      · refine FlatIn.mono (lo := W0.heap.size) (hi := w1.heap.size) ?_ (by omega) (by go_size) (Nat.le_refl _)
        repeat (first | (with_reducible refine FlatIn.setFar ?_ (by dsimp only; omega) _) | (with_reducible refine FlatIn.drew ?_))
        exact Hf7.out
      · refine FlatIn.mono (lo := w3.heap.size) (hi := w4.heap.size) ?_ (by omega) (by go_size) (Nat.le_refl _)
        repeat (first | (with_reducible refine FlatIn.setFar ?_ (by dsimp only; omega) _) | (with_reducible refine FlatIn.drew ?_))
        exact Hg7.out
      · go_grown
end Go.Proofs.Ytlihnipbdckmkaa
