/- impl.entry: the entry of a one-qubit gate: more cases. -/
import Derived.Test.YtlihnipbdckmkaaGmEnt
namespace Go.Proofs.Ytlihnipbdckmkaa
open Go.RowKit Go.Maps

set_option maxRecDepth 100000 in
set_option maxHeartbeats 2000000 in
theorem ent_4_0_1 (w : World) :
    Calls Try.prog 36 #[.int .i64 4, .int .i64 0, .int .i64 1] w fun e w' => e = .returned (dv 0 0 0 0 0) ∧ Below w.heap.size w w' := by
  have hmm := @run_makeMap Try.prog
  have o0 : (((w.alloc (.cells #[.int .i64 0, .int .i64 0, .int .i64 0, .int .i64 0, .int .i64 0] 60)).alloc (.cells #[.int .i64 1, .int .i64 0, .int .i64 0, .int .i64 0, .int .i64 1] 60)).alloc (.map #[] 0)).ownsMap Try.prog 3 (plainElem (H := Unit) Try.prog 3) (w.heap.size + 1 + 1) 0 (.map []) := by
    have h := World.ownsMap_made ((w.alloc (.cells #[.int .i64 0, .int .i64 0, .int .i64 0, .int .i64 0, .int .i64 0] 60)).alloc (.cells #[.int .i64 1, .int .i64 0, .int .i64 0, .int .i64 0, .int .i64 1] 60)) Try.prog 3 (plainElem (H := Unit) Try.prog 3)
    simpa using h
  obtain ⟨w1, r1, o1, g1⟩ := o0.update lawI Try.underlying92 (by unfold maxLen; omega) (keyOf_int_mk (q := .i64) (a := 4) Try.underlying3 (by decide)) (plainElem_int (q := .i64) (a := 4) Try.underlying3 (by decide))
  obtain ⟨w2, r2, o2, g2⟩ := o1.update lawI Try.underlying92 (by unfold maxLen; omega) (keyOf_int_mk (q := .i64) (a := 5) Try.underlying3 (by decide)) (plainElem_int (q := .i64) (a := 2) Try.underlying3 (by decide))
  obtain ⟨w3, r3, o3, g3⟩ := o2.update lawI Try.underlying92 (by unfold maxLen; omega) (keyOf_int_mk (q := .i64) (a := 6) Try.underlying3 (by decide)) (plainElem_int (q := .i64) (a := 6) Try.underlying3 (by decide))
  obtain ⟨w4, r4, o4, g4⟩ := o3.update lawI Try.underlying92 (by unfold maxLen; omega) (keyOf_int_mk (q := .i64) (a := 7) Try.underlying3 (by decide)) (plainElem_int (q := .i64) (a := 1) Try.underlying3 (by decide))
  obtain ⟨w5, r5, o5, g5⟩ := o4.update lawI Try.underlying92 (by unfold maxLen; omega) (keyOf_int_mk (q := .i64) (a := 8) Try.underlying3 (by decide)) (plainElem_int (q := .i64) (a := 7) Try.underlying3 (by decide))
  have z1 := g1.size
  have z2 := g2.size
  have z3 := g3.size
  have z4 := g4.size
  have z5 := g5.size
  simp only [World.size_alloc] at z1
  have n5 : w.heap.size + 1 + 1 < w5.heap.size := by omega
  have y0 : w.heap.size < w5.heap.size := by omega
  have B1 : Below w.heap.size w w1 := Below.grown (by go_grown) g1 (by simp; omega) (fun k hk => by injection hk; omega)
  have B2 := Below.grown B1 g2 B1.size (fun k hk => by injection hk; omega)
  have B3 := Below.grown B2 g3 B2.size (fun k hk => by injection hk; omega)
  have B4 := Below.grown B3 g4 B3.size (fun k hk => by injection hk; omega)
  have B5 := Below.grown B4 g5 B4.size (fun k hk => by injection hk; omega)
  have ne : some w.heap.size ≠ some (w.heap.size + 1 + 1) := fun h => by injection h; omega
  have hb1 := (g1.block w.heap.size (by simp; omega) ne).trans ((Below.heap_alloc _ _ _ (by go_size)).trans ((Below.heap_alloc _ _ _ (by go_size)).trans (heap_top w (.cells #[.int .i64 0, .int .i64 0, .int .i64 0, .int .i64 0, .int .i64 0] 60) rfl)))
  have hb5 := (g5.block w.heap.size (by omega) ne).trans ((g4.block w.heap.size (by omega) ne).trans ((g3.block w.heap.size (by omega) ne).trans ((g2.block w.heap.size (by omega) ne).trans hb1)))
  have Hb5 := Lib.hid hb5
  have HB5 := Lib.hid B5
  clear hb1 hb5 g1 g2 g3 g4 g5 o0 o1 o2 o3 o4 o5 z1 z2 z3 z4 z5 B1 B2 B3 B4 B5 ne
  have q0 := cell_of_row w5 w.heap.size 0 _ _ _ Hb5.out
  have q1 := cell_of_row w5 w.heap.size 1 _ _ _ Hb5.out
  have q2 := cell_of_row w5 w.heap.size 2 _ _ _ Hb5.out
  have q3 := cell_of_row w5 w.heap.size 3 _ _ _ Hb5.out
  have q4 := cell_of_row w5 w.heap.size 4 _ _ _ Hb5.out
  have qf := fun o => frozen_of_row w5 w.heap.size o _ _ Hb5.out
  go_enter Try.func36, Try.ntmps36
  go_wp2
  have B5 := HB5.out
  refine bodyPost_ret (by simp [results, Try.results36, go_sem, q0, q1, q2, q3, q4]) rfl ⟨rfl, ?_⟩
  go_grown

set_option maxRecDepth 100000 in
set_option maxHeartbeats 2000000 in
theorem ent_4_1_0 (w : World) :
    Calls Try.prog 36 #[.int .i64 4, .int .i64 1, .int .i64 0] w fun e w' => e = .returned (dv 0 0 0 0 0) ∧ Below w.heap.size w w' := by
  have hmm := @run_makeMap Try.prog
  have o0 : (((w.alloc (.cells #[.int .i64 0, .int .i64 0, .int .i64 0, .int .i64 0, .int .i64 0] 60)).alloc (.cells #[.int .i64 1, .int .i64 0, .int .i64 0, .int .i64 0, .int .i64 1] 60)).alloc (.map #[] 0)).ownsMap Try.prog 3 (plainElem (H := Unit) Try.prog 3) (w.heap.size + 1 + 1) 0 (.map []) := by
    have h := World.ownsMap_made ((w.alloc (.cells #[.int .i64 0, .int .i64 0, .int .i64 0, .int .i64 0, .int .i64 0] 60)).alloc (.cells #[.int .i64 1, .int .i64 0, .int .i64 0, .int .i64 0, .int .i64 1] 60)) Try.prog 3 (plainElem (H := Unit) Try.prog 3)
    simpa using h
  obtain ⟨w1, r1, o1, g1⟩ := o0.update lawI Try.underlying92 (by unfold maxLen; omega) (keyOf_int_mk (q := .i64) (a := 4) Try.underlying3 (by decide)) (plainElem_int (q := .i64) (a := 4) Try.underlying3 (by decide))
  obtain ⟨w2, r2, o2, g2⟩ := o1.update lawI Try.underlying92 (by unfold maxLen; omega) (keyOf_int_mk (q := .i64) (a := 5) Try.underlying3 (by decide)) (plainElem_int (q := .i64) (a := 2) Try.underlying3 (by decide))
  obtain ⟨w3, r3, o3, g3⟩ := o2.update lawI Try.underlying92 (by unfold maxLen; omega) (keyOf_int_mk (q := .i64) (a := 6) Try.underlying3 (by decide)) (plainElem_int (q := .i64) (a := 6) Try.underlying3 (by decide))
  obtain ⟨w4, r4, o4, g4⟩ := o3.update lawI Try.underlying92 (by unfold maxLen; omega) (keyOf_int_mk (q := .i64) (a := 7) Try.underlying3 (by decide)) (plainElem_int (q := .i64) (a := 1) Try.underlying3 (by decide))
  obtain ⟨w5, r5, o5, g5⟩ := o4.update lawI Try.underlying92 (by unfold maxLen; omega) (keyOf_int_mk (q := .i64) (a := 8) Try.underlying3 (by decide)) (plainElem_int (q := .i64) (a := 7) Try.underlying3 (by decide))
  have z1 := g1.size
  have z2 := g2.size
  have z3 := g3.size
  have z4 := g4.size
  have z5 := g5.size
  simp only [World.size_alloc] at z1
  have n5 : w.heap.size + 1 + 1 < w5.heap.size := by omega
  have y0 : w.heap.size < w5.heap.size := by omega
  have B1 : Below w.heap.size w w1 := Below.grown (by go_grown) g1 (by simp; omega) (fun k hk => by injection hk; omega)
  have B2 := Below.grown B1 g2 B1.size (fun k hk => by injection hk; omega)
  have B3 := Below.grown B2 g3 B2.size (fun k hk => by injection hk; omega)
  have B4 := Below.grown B3 g4 B3.size (fun k hk => by injection hk; omega)
  have B5 := Below.grown B4 g5 B4.size (fun k hk => by injection hk; omega)
  have ne : some w.heap.size ≠ some (w.heap.size + 1 + 1) := fun h => by injection h; omega
  have hb1 := (g1.block w.heap.size (by simp; omega) ne).trans ((Below.heap_alloc _ _ _ (by go_size)).trans ((Below.heap_alloc _ _ _ (by go_size)).trans (heap_top w (.cells #[.int .i64 0, .int .i64 0, .int .i64 0, .int .i64 0, .int .i64 0] 60) rfl)))
  have hb5 := (g5.block w.heap.size (by omega) ne).trans ((g4.block w.heap.size (by omega) ne).trans ((g3.block w.heap.size (by omega) ne).trans ((g2.block w.heap.size (by omega) ne).trans hb1)))
  have Hb5 := Lib.hid hb5
  have HB5 := Lib.hid B5
  clear hb1 hb5 g1 g2 g3 g4 g5 o0 o1 o2 o3 o4 o5 z1 z2 z3 z4 z5 B1 B2 B3 B4 B5 ne
  have q0 := cell_of_row w5 w.heap.size 0 _ _ _ Hb5.out
  have q1 := cell_of_row w5 w.heap.size 1 _ _ _ Hb5.out
  have q2 := cell_of_row w5 w.heap.size 2 _ _ _ Hb5.out
  have q3 := cell_of_row w5 w.heap.size 3 _ _ _ Hb5.out
  have q4 := cell_of_row w5 w.heap.size 4 _ _ _ Hb5.out
  have qf := fun o => frozen_of_row w5 w.heap.size o _ _ Hb5.out
  go_enter Try.func36, Try.ntmps36
  go_wp2
  have B5 := HB5.out
  refine bodyPost_ret (by simp [results, Try.results36, go_sem, q0, q1, q2, q3, q4]) rfl ⟨rfl, ?_⟩
  go_grown

set_option maxRecDepth 100000 in
set_option maxHeartbeats 2000000 in
theorem ent_5_0_1 (w : World) :
    Calls Try.prog 36 #[.int .i64 5, .int .i64 0, .int .i64 1] w fun e w' => e = .returned (dv 0 0 0 0 0) ∧ Below w.heap.size w w' := by
  have hmm := @run_makeMap Try.prog
  have o0 : (((w.alloc (.cells #[.int .i64 0, .int .i64 0, .int .i64 0, .int .i64 0, .int .i64 0] 60)).alloc (.cells #[.int .i64 1, .int .i64 0, .int .i64 0, .int .i64 0, .int .i64 1] 60)).alloc (.map #[] 0)).ownsMap Try.prog 3 (plainElem (H := Unit) Try.prog 3) (w.heap.size + 1 + 1) 0 (.map []) := by
    have h := World.ownsMap_made ((w.alloc (.cells #[.int .i64 0, .int .i64 0, .int .i64 0, .int .i64 0, .int .i64 0] 60)).alloc (.cells #[.int .i64 1, .int .i64 0, .int .i64 0, .int .i64 0, .int .i64 1] 60)) Try.prog 3 (plainElem (H := Unit) Try.prog 3)
    simpa using h
  obtain ⟨w1, r1, o1, g1⟩ := o0.update lawI Try.underlying92 (by unfold maxLen; omega) (keyOf_int_mk (q := .i64) (a := 4) Try.underlying3 (by decide)) (plainElem_int (q := .i64) (a := 4) Try.underlying3 (by decide))
  obtain ⟨w2, r2, o2, g2⟩ := o1.update lawI Try.underlying92 (by unfold maxLen; omega) (keyOf_int_mk (q := .i64) (a := 5) Try.underlying3 (by decide)) (plainElem_int (q := .i64) (a := 2) Try.underlying3 (by decide))
  obtain ⟨w3, r3, o3, g3⟩ := o2.update lawI Try.underlying92 (by unfold maxLen; omega) (keyOf_int_mk (q := .i64) (a := 6) Try.underlying3 (by decide)) (plainElem_int (q := .i64) (a := 6) Try.underlying3 (by decide))
  obtain ⟨w4, r4, o4, g4⟩ := o3.update lawI Try.underlying92 (by unfold maxLen; omega) (keyOf_int_mk (q := .i64) (a := 7) Try.underlying3 (by decide)) (plainElem_int (q := .i64) (a := 1) Try.underlying3 (by decide))
  obtain ⟨w5, r5, o5, g5⟩ := o4.update lawI Try.underlying92 (by unfold maxLen; omega) (keyOf_int_mk (q := .i64) (a := 8) Try.underlying3 (by decide)) (plainElem_int (q := .i64) (a := 7) Try.underlying3 (by decide))
  have z1 := g1.size
  have z2 := g2.size
  have z3 := g3.size
  have z4 := g4.size
  have z5 := g5.size
  simp only [World.size_alloc] at z1
  have n5 : w.heap.size + 1 + 1 < w5.heap.size := by omega
  have y0 : w.heap.size < w5.heap.size := by omega
  have B1 : Below w.heap.size w w1 := Below.grown (by go_grown) g1 (by simp; omega) (fun k hk => by injection hk; omega)
  have B2 := Below.grown B1 g2 B1.size (fun k hk => by injection hk; omega)
  have B3 := Below.grown B2 g3 B2.size (fun k hk => by injection hk; omega)
  have B4 := Below.grown B3 g4 B3.size (fun k hk => by injection hk; omega)
  have B5 := Below.grown B4 g5 B4.size (fun k hk => by injection hk; omega)
  have ne : some w.heap.size ≠ some (w.heap.size + 1 + 1) := fun h => by injection h; omega
  have hb1 := (g1.block w.heap.size (by simp; omega) ne).trans ((Below.heap_alloc _ _ _ (by go_size)).trans ((Below.heap_alloc _ _ _ (by go_size)).trans (heap_top w (.cells #[.int .i64 0, .int .i64 0, .int .i64 0, .int .i64 0, .int .i64 0] 60) rfl)))
  have hb5 := (g5.block w.heap.size (by omega) ne).trans ((g4.block w.heap.size (by omega) ne).trans ((g3.block w.heap.size (by omega) ne).trans ((g2.block w.heap.size (by omega) ne).trans hb1)))
  have Hb5 := Lib.hid hb5
  have HB5 := Lib.hid B5
  clear hb1 hb5 g1 g2 g3 g4 g5 o0 o1 o2 o3 o4 o5 z1 z2 z3 z4 z5 B1 B2 B3 B4 B5 ne
  have q0 := cell_of_row w5 w.heap.size 0 _ _ _ Hb5.out
  have q1 := cell_of_row w5 w.heap.size 1 _ _ _ Hb5.out
  have q2 := cell_of_row w5 w.heap.size 2 _ _ _ Hb5.out
  have q3 := cell_of_row w5 w.heap.size 3 _ _ _ Hb5.out
  have q4 := cell_of_row w5 w.heap.size 4 _ _ _ Hb5.out
  have qf := fun o => frozen_of_row w5 w.heap.size o _ _ Hb5.out
  go_enter Try.func36, Try.ntmps36
  go_wp2
  have B5 := HB5.out
  refine bodyPost_ret (by simp [results, Try.results36, go_sem, q0, q1, q2, q3, q4]) rfl ⟨rfl, ?_⟩
  go_grown

set_option maxRecDepth 100000 in
set_option maxHeartbeats 2000000 in
theorem ent_5_1_0 (w : World) :
    Calls Try.prog 36 #[.int .i64 5, .int .i64 1, .int .i64 0] w fun e w' => e = .returned (dv 0 0 0 0 0) ∧ Below w.heap.size w w' := by
  have hmm := @run_makeMap Try.prog
  have o0 : (((w.alloc (.cells #[.int .i64 0, .int .i64 0, .int .i64 0, .int .i64 0, .int .i64 0] 60)).alloc (.cells #[.int .i64 1, .int .i64 0, .int .i64 0, .int .i64 0, .int .i64 1] 60)).alloc (.map #[] 0)).ownsMap Try.prog 3 (plainElem (H := Unit) Try.prog 3) (w.heap.size + 1 + 1) 0 (.map []) := by
    have h := World.ownsMap_made ((w.alloc (.cells #[.int .i64 0, .int .i64 0, .int .i64 0, .int .i64 0, .int .i64 0] 60)).alloc (.cells #[.int .i64 1, .int .i64 0, .int .i64 0, .int .i64 0, .int .i64 1] 60)) Try.prog 3 (plainElem (H := Unit) Try.prog 3)
    simpa using h
  obtain ⟨w1, r1, o1, g1⟩ := o0.update lawI Try.underlying92 (by unfold maxLen; omega) (keyOf_int_mk (q := .i64) (a := 4) Try.underlying3 (by decide)) (plainElem_int (q := .i64) (a := 4) Try.underlying3 (by decide))
  obtain ⟨w2, r2, o2, g2⟩ := o1.update lawI Try.underlying92 (by unfold maxLen; omega) (keyOf_int_mk (q := .i64) (a := 5) Try.underlying3 (by decide)) (plainElem_int (q := .i64) (a := 2) Try.underlying3 (by decide))
  obtain ⟨w3, r3, o3, g3⟩ := o2.update lawI Try.underlying92 (by unfold maxLen; omega) (keyOf_int_mk (q := .i64) (a := 6) Try.underlying3 (by decide)) (plainElem_int (q := .i64) (a := 6) Try.underlying3 (by decide))
  obtain ⟨w4, r4, o4, g4⟩ := o3.update lawI Try.underlying92 (by unfold maxLen; omega) (keyOf_int_mk (q := .i64) (a := 7) Try.underlying3 (by decide)) (plainElem_int (q := .i64) (a := 1) Try.underlying3 (by decide))
  obtain ⟨w5, r5, o5, g5⟩ := o4.update lawI Try.underlying92 (by unfold maxLen; omega) (keyOf_int_mk (q := .i64) (a := 8) Try.underlying3 (by decide)) (plainElem_int (q := .i64) (a := 7) Try.underlying3 (by decide))
  have z1 := g1.size
  have z2 := g2.size
  have z3 := g3.size
  have z4 := g4.size
  have z5 := g5.size
  simp only [World.size_alloc] at z1
  have n5 : w.heap.size + 1 + 1 < w5.heap.size := by omega
  have y0 : w.heap.size < w5.heap.size := by omega
  have B1 : Below w.heap.size w w1 := Below.grown (by go_grown) g1 (by simp; omega) (fun k hk => by injection hk; omega)
  have B2 := Below.grown B1 g2 B1.size (fun k hk => by injection hk; omega)
  have B3 := Below.grown B2 g3 B2.size (fun k hk => by injection hk; omega)
  have B4 := Below.grown B3 g4 B3.size (fun k hk => by injection hk; omega)
  have B5 := Below.grown B4 g5 B4.size (fun k hk => by injection hk; omega)
  have ne : some w.heap.size ≠ some (w.heap.size + 1 + 1) := fun h => by injection h; omega
  have hb1 := (g1.block w.heap.size (by simp; omega) ne).trans ((Below.heap_alloc _ _ _ (by go_size)).trans ((Below.heap_alloc _ _ _ (by go_size)).trans (heap_top w (.cells #[.int .i64 0, .int .i64 0, .int .i64 0, .int .i64 0, .int .i64 0] 60) rfl)))
  have hb5 := (g5.block w.heap.size (by omega) ne).trans ((g4.block w.heap.size (by omega) ne).trans ((g3.block w.heap.size (by omega) ne).trans ((g2.block w.heap.size (by omega) ne).trans hb1)))
  have Hb5 := Lib.hid hb5
  have HB5 := Lib.hid B5
  clear hb1 hb5 g1 g2 g3 g4 g5 o0 o1 o2 o3 o4 o5 z1 z2 z3 z4 z5 B1 B2 B3 B4 B5 ne
  have q0 := cell_of_row w5 w.heap.size 0 _ _ _ Hb5.out
  have q1 := cell_of_row w5 w.heap.size 1 _ _ _ Hb5.out
  have q2 := cell_of_row w5 w.heap.size 2 _ _ _ Hb5.out
  have q3 := cell_of_row w5 w.heap.size 3 _ _ _ Hb5.out
  have q4 := cell_of_row w5 w.heap.size 4 _ _ _ Hb5.out
  have qf := fun o => frozen_of_row w5 w.heap.size o _ _ Hb5.out
  go_enter Try.func36, Try.ntmps36
  go_wp2
  have B5 := HB5.out
  refine bodyPost_ret (by simp [results, Try.results36, go_sem, q0, q1, q2, q3, q4]) rfl ⟨rfl, ?_⟩
  go_grown

set_option maxRecDepth 100000 in
set_option maxHeartbeats 2000000 in
theorem ent_6_0_1 (w : World) :
    Calls Try.prog 36 #[.int .i64 6, .int .i64 0, .int .i64 1] w fun e w' => e = .returned (dv 0 0 0 0 0) ∧ Below w.heap.size w w' := by
  have hmm := @run_makeMap Try.prog
  have o0 : (((w.alloc (.cells #[.int .i64 0, .int .i64 0, .int .i64 0, .int .i64 0, .int .i64 0] 60)).alloc (.cells #[.int .i64 1, .int .i64 0, .int .i64 0, .int .i64 0, .int .i64 1] 60)).alloc (.map #[] 0)).ownsMap Try.prog 3 (plainElem (H := Unit) Try.prog 3) (w.heap.size + 1 + 1) 0 (.map []) := by
    have h := World.ownsMap_made ((w.alloc (.cells #[.int .i64 0, .int .i64 0, .int .i64 0, .int .i64 0, .int .i64 0] 60)).alloc (.cells #[.int .i64 1, .int .i64 0, .int .i64 0, .int .i64 0, .int .i64 1] 60)) Try.prog 3 (plainElem (H := Unit) Try.prog 3)
    simpa using h
  obtain ⟨w1, r1, o1, g1⟩ := o0.update lawI Try.underlying92 (by unfold maxLen; omega) (keyOf_int_mk (q := .i64) (a := 4) Try.underlying3 (by decide)) (plainElem_int (q := .i64) (a := 4) Try.underlying3 (by decide))
  obtain ⟨w2, r2, o2, g2⟩ := o1.update lawI Try.underlying92 (by unfold maxLen; omega) (keyOf_int_mk (q := .i64) (a := 5) Try.underlying3 (by decide)) (plainElem_int (q := .i64) (a := 2) Try.underlying3 (by decide))
  obtain ⟨w3, r3, o3, g3⟩ := o2.update lawI Try.underlying92 (by unfold maxLen; omega) (keyOf_int_mk (q := .i64) (a := 6) Try.underlying3 (by decide)) (plainElem_int (q := .i64) (a := 6) Try.underlying3 (by decide))
  obtain ⟨w4, r4, o4, g4⟩ := o3.update lawI Try.underlying92 (by unfold maxLen; omega) (keyOf_int_mk (q := .i64) (a := 7) Try.underlying3 (by decide)) (plainElem_int (q := .i64) (a := 1) Try.underlying3 (by decide))
  obtain ⟨w5, r5, o5, g5⟩ := o4.update lawI Try.underlying92 (by unfold maxLen; omega) (keyOf_int_mk (q := .i64) (a := 8) Try.underlying3 (by decide)) (plainElem_int (q := .i64) (a := 7) Try.underlying3 (by decide))
  have z1 := g1.size
  have z2 := g2.size
  have z3 := g3.size
  have z4 := g4.size
  have z5 := g5.size
  simp only [World.size_alloc] at z1
  have n5 : w.heap.size + 1 + 1 < w5.heap.size := by omega
  have y0 : w.heap.size < w5.heap.size := by omega
  have B1 : Below w.heap.size w w1 := Below.grown (by go_grown) g1 (by simp; omega) (fun k hk => by injection hk; omega)
  have B2 := Below.grown B1 g2 B1.size (fun k hk => by injection hk; omega)
  have B3 := Below.grown B2 g3 B2.size (fun k hk => by injection hk; omega)
  have B4 := Below.grown B3 g4 B3.size (fun k hk => by injection hk; omega)
  have B5 := Below.grown B4 g5 B4.size (fun k hk => by injection hk; omega)
  have ne : some w.heap.size ≠ some (w.heap.size + 1 + 1) := fun h => by injection h; omega
  have hb1 := (g1.block w.heap.size (by simp; omega) ne).trans ((Below.heap_alloc _ _ _ (by go_size)).trans ((Below.heap_alloc _ _ _ (by go_size)).trans (heap_top w (.cells #[.int .i64 0, .int .i64 0, .int .i64 0, .int .i64 0, .int .i64 0] 60) rfl)))
  have hb5 := (g5.block w.heap.size (by omega) ne).trans ((g4.block w.heap.size (by omega) ne).trans ((g3.block w.heap.size (by omega) ne).trans ((g2.block w.heap.size (by omega) ne).trans hb1)))
  have Hb5 := Lib.hid hb5
  have HB5 := Lib.hid B5
  clear hb1 hb5 g1 g2 g3 g4 g5 o0 o1 o2 o3 o4 o5 z1 z2 z3 z4 z5 B1 B2 B3 B4 B5 ne
  have q0 := cell_of_row w5 w.heap.size 0 _ _ _ Hb5.out
  have q1 := cell_of_row w5 w.heap.size 1 _ _ _ Hb5.out
  have q2 := cell_of_row w5 w.heap.size 2 _ _ _ Hb5.out
  have q3 := cell_of_row w5 w.heap.size 3 _ _ _ Hb5.out
  have q4 := cell_of_row w5 w.heap.size 4 _ _ _ Hb5.out
  have qf := fun o => frozen_of_row w5 w.heap.size o _ _ Hb5.out
  go_enter Try.func36, Try.ntmps36
  go_wp2
  have B5 := HB5.out
  refine bodyPost_ret (by simp [results, Try.results36, go_sem, q0, q1, q2, q3, q4]) rfl ⟨rfl, ?_⟩
  go_grown

set_option maxRecDepth 100000 in
set_option maxHeartbeats 2000000 in
theorem ent_6_1_0 (w : World) :
    Calls Try.prog 36 #[.int .i64 6, .int .i64 1, .int .i64 0] w fun e w' => e = .returned (dv 0 0 0 0 0) ∧ Below w.heap.size w w' := by
  have hmm := @run_makeMap Try.prog
  have o0 : (((w.alloc (.cells #[.int .i64 0, .int .i64 0, .int .i64 0, .int .i64 0, .int .i64 0] 60)).alloc (.cells #[.int .i64 1, .int .i64 0, .int .i64 0, .int .i64 0, .int .i64 1] 60)).alloc (.map #[] 0)).ownsMap Try.prog 3 (plainElem (H := Unit) Try.prog 3) (w.heap.size + 1 + 1) 0 (.map []) := by
    have h := World.ownsMap_made ((w.alloc (.cells #[.int .i64 0, .int .i64 0, .int .i64 0, .int .i64 0, .int .i64 0] 60)).alloc (.cells #[.int .i64 1, .int .i64 0, .int .i64 0, .int .i64 0, .int .i64 1] 60)) Try.prog 3 (plainElem (H := Unit) Try.prog 3)
    simpa using h
  obtain ⟨w1, r1, o1, g1⟩ := o0.update lawI Try.underlying92 (by unfold maxLen; omega) (keyOf_int_mk (q := .i64) (a := 4) Try.underlying3 (by decide)) (plainElem_int (q := .i64) (a := 4) Try.underlying3 (by decide))
  obtain ⟨w2, r2, o2, g2⟩ := o1.update lawI Try.underlying92 (by unfold maxLen; omega) (keyOf_int_mk (q := .i64) (a := 5) Try.underlying3 (by decide)) (plainElem_int (q := .i64) (a := 2) Try.underlying3 (by decide))
  obtain ⟨w3, r3, o3, g3⟩ := o2.update lawI Try.underlying92 (by unfold maxLen; omega) (keyOf_int_mk (q := .i64) (a := 6) Try.underlying3 (by decide)) (plainElem_int (q := .i64) (a := 6) Try.underlying3 (by decide))
  obtain ⟨w4, r4, o4, g4⟩ := o3.update lawI Try.underlying92 (by unfold maxLen; omega) (keyOf_int_mk (q := .i64) (a := 7) Try.underlying3 (by decide)) (plainElem_int (q := .i64) (a := 1) Try.underlying3 (by decide))
  obtain ⟨w5, r5, o5, g5⟩ := o4.update lawI Try.underlying92 (by unfold maxLen; omega) (keyOf_int_mk (q := .i64) (a := 8) Try.underlying3 (by decide)) (plainElem_int (q := .i64) (a := 7) Try.underlying3 (by decide))
  have z1 := g1.size
  have z2 := g2.size
  have z3 := g3.size
  have z4 := g4.size
  have z5 := g5.size
  simp only [World.size_alloc] at z1
  have n5 : w.heap.size + 1 + 1 < w5.heap.size := by omega
  have y0 : w.heap.size < w5.heap.size := by omega
  have B1 : Below w.heap.size w w1 := Below.grown (by go_grown) g1 (by simp; omega) (fun k hk => by injection hk; omega)
  have B2 := Below.grown B1 g2 B1.size (fun k hk => by injection hk; omega)
  have B3 := Below.grown B2 g3 B2.size (fun k hk => by injection hk; omega)
  have B4 := Below.grown B3 g4 B3.size (fun k hk => by injection hk; omega)
  have B5 := Below.grown B4 g5 B4.size (fun k hk => by injection hk; omega)
  have ne : some w.heap.size ≠ some (w.heap.size + 1 + 1) := fun h => by injection h; omega
  have hb1 := (g1.block w.heap.size (by simp; omega) ne).trans ((Below.heap_alloc _ _ _ (by go_size)).trans ((Below.heap_alloc _ _ _ (by go_size)).trans (heap_top w (.cells #[.int .i64 0, .int .i64 0, .int .i64 0, .int .i64 0, .int .i64 0] 60) rfl)))
  have hb5 := (g5.block w.heap.size (by omega) ne).trans ((g4.block w.heap.size (by omega) ne).trans ((g3.block w.heap.size (by omega) ne).trans ((g2.block w.heap.size (by omega) ne).trans hb1)))
  have Hb5 := Lib.hid hb5
  have HB5 := Lib.hid B5
  clear hb1 hb5 g1 g2 g3 g4 g5 o0 o1 o2 o3 o4 o5 z1 z2 z3 z4 z5 B1 B2 B3 B4 B5 ne
  have q0 := cell_of_row w5 w.heap.size 0 _ _ _ Hb5.out
  have q1 := cell_of_row w5 w.heap.size 1 _ _ _ Hb5.out
  have q2 := cell_of_row w5 w.heap.size 2 _ _ _ Hb5.out
  have q3 := cell_of_row w5 w.heap.size 3 _ _ _ Hb5.out
  have q4 := cell_of_row w5 w.heap.size 4 _ _ _ Hb5.out
  have qf := fun o => frozen_of_row w5 w.heap.size o _ _ Hb5.out
  go_enter Try.func36, Try.ntmps36
  go_wp2
  have B5 := HB5.out
  refine bodyPost_ret (by simp [results, Try.results36, go_sem, q0, q1, q2, q3, q4]) rfl ⟨rfl, ?_⟩
  go_grown

set_option maxRecDepth 100000 in
set_option maxHeartbeats 2000000 in
theorem ent_7_0_1 (w : World) :
    Calls Try.prog 36 #[.int .i64 7, .int .i64 0, .int .i64 1] w fun e w' => e = .returned (dv 0 0 0 0 0) ∧ Below w.heap.size w w' := by
  have hmm := @run_makeMap Try.prog
  have o0 : (((w.alloc (.cells #[.int .i64 0, .int .i64 0, .int .i64 0, .int .i64 0, .int .i64 0] 60)).alloc (.cells #[.int .i64 1, .int .i64 0, .int .i64 0, .int .i64 0, .int .i64 1] 60)).alloc (.map #[] 0)).ownsMap Try.prog 3 (plainElem (H := Unit) Try.prog 3) (w.heap.size + 1 + 1) 0 (.map []) := by
    have h := World.ownsMap_made ((w.alloc (.cells #[.int .i64 0, .int .i64 0, .int .i64 0, .int .i64 0, .int .i64 0] 60)).alloc (.cells #[.int .i64 1, .int .i64 0, .int .i64 0, .int .i64 0, .int .i64 1] 60)) Try.prog 3 (plainElem (H := Unit) Try.prog 3)
    simpa using h
  obtain ⟨w1, r1, o1, g1⟩ := o0.update lawI Try.underlying92 (by unfold maxLen; omega) (keyOf_int_mk (q := .i64) (a := 4) Try.underlying3 (by decide)) (plainElem_int (q := .i64) (a := 4) Try.underlying3 (by decide))
  obtain ⟨w2, r2, o2, g2⟩ := o1.update lawI Try.underlying92 (by unfold maxLen; omega) (keyOf_int_mk (q := .i64) (a := 5) Try.underlying3 (by decide)) (plainElem_int (q := .i64) (a := 2) Try.underlying3 (by decide))
  obtain ⟨w3, r3, o3, g3⟩ := o2.update lawI Try.underlying92 (by unfold maxLen; omega) (keyOf_int_mk (q := .i64) (a := 6) Try.underlying3 (by decide)) (plainElem_int (q := .i64) (a := 6) Try.underlying3 (by decide))
  obtain ⟨w4, r4, o4, g4⟩ := o3.update lawI Try.underlying92 (by unfold maxLen; omega) (keyOf_int_mk (q := .i64) (a := 7) Try.underlying3 (by decide)) (plainElem_int (q := .i64) (a := 1) Try.underlying3 (by decide))
  obtain ⟨w5, r5, o5, g5⟩ := o4.update lawI Try.underlying92 (by unfold maxLen; omega) (keyOf_int_mk (q := .i64) (a := 8) Try.underlying3 (by decide)) (plainElem_int (q := .i64) (a := 7) Try.underlying3 (by decide))
  have z1 := g1.size
  have z2 := g2.size
  have z3 := g3.size
  have z4 := g4.size
  have z5 := g5.size
  simp only [World.size_alloc] at z1
  have n5 : w.heap.size + 1 + 1 < w5.heap.size := by omega
  have y0 : w.heap.size < w5.heap.size := by omega
  have B1 : Below w.heap.size w w1 := Below.grown (by go_grown) g1 (by simp; omega) (fun k hk => by injection hk; omega)
  have B2 := Below.grown B1 g2 B1.size (fun k hk => by injection hk; omega)
  have B3 := Below.grown B2 g3 B2.size (fun k hk => by injection hk; omega)
  have B4 := Below.grown B3 g4 B3.size (fun k hk => by injection hk; omega)
  have B5 := Below.grown B4 g5 B4.size (fun k hk => by injection hk; omega)
  have ne : some w.heap.size ≠ some (w.heap.size + 1 + 1) := fun h => by injection h; omega
  have hb1 := (g1.block w.heap.size (by simp; omega) ne).trans ((Below.heap_alloc _ _ _ (by go_size)).trans ((Below.heap_alloc _ _ _ (by go_size)).trans (heap_top w (.cells #[.int .i64 0, .int .i64 0, .int .i64 0, .int .i64 0, .int .i64 0] 60) rfl)))
  have hb5 := (g5.block w.heap.size (by omega) ne).trans ((g4.block w.heap.size (by omega) ne).trans ((g3.block w.heap.size (by omega) ne).trans ((g2.block w.heap.size (by omega) ne).trans hb1)))
  have Hb5 := Lib.hid hb5
  have HB5 := Lib.hid B5
  clear hb1 hb5 g1 g2 g3 g4 g5 o0 o1 o2 o3 o4 o5 z1 z2 z3 z4 z5 B1 B2 B3 B4 B5 ne
  have q0 := cell_of_row w5 w.heap.size 0 _ _ _ Hb5.out
  have q1 := cell_of_row w5 w.heap.size 1 _ _ _ Hb5.out
  have q2 := cell_of_row w5 w.heap.size 2 _ _ _ Hb5.out
  have q3 := cell_of_row w5 w.heap.size 3 _ _ _ Hb5.out
  have q4 := cell_of_row w5 w.heap.size 4 _ _ _ Hb5.out
  have qf := fun o => frozen_of_row w5 w.heap.size o _ _ Hb5.out
  go_enter Try.func36, Try.ntmps36
  go_wp2
  have B5 := HB5.out
  refine bodyPost_ret (by simp [results, Try.results36, go_sem, q0, q1, q2, q3, q4]) rfl ⟨rfl, ?_⟩
  go_grown

set_option maxRecDepth 100000 in
set_option maxHeartbeats 2000000 in
theorem ent_7_1_0 (w : World) :
    Calls Try.prog 36 #[.int .i64 7, .int .i64 1, .int .i64 0] w fun e w' => e = .returned (dv 0 0 0 0 0) ∧ Below w.heap.size w w' := by
  have hmm := @run_makeMap Try.prog
  have o0 : (((w.alloc (.cells #[.int .i64 0, .int .i64 0, .int .i64 0, .int .i64 0, .int .i64 0] 60)).alloc (.cells #[.int .i64 1, .int .i64 0, .int .i64 0, .int .i64 0, .int .i64 1] 60)).alloc (.map #[] 0)).ownsMap Try.prog 3 (plainElem (H := Unit) Try.prog 3) (w.heap.size + 1 + 1) 0 (.map []) := by
    have h := World.ownsMap_made ((w.alloc (.cells #[.int .i64 0, .int .i64 0, .int .i64 0, .int .i64 0, .int .i64 0] 60)).alloc (.cells #[.int .i64 1, .int .i64 0, .int .i64 0, .int .i64 0, .int .i64 1] 60)) Try.prog 3 (plainElem (H := Unit) Try.prog 3)
    simpa using h
  obtain ⟨w1, r1, o1, g1⟩ := o0.update lawI Try.underlying92 (by unfold maxLen; omega) (keyOf_int_mk (q := .i64) (a := 4) Try.underlying3 (by decide)) (plainElem_int (q := .i64) (a := 4) Try.underlying3 (by decide))
  obtain ⟨w2, r2, o2, g2⟩ := o1.update lawI Try.underlying92 (by unfold maxLen; omega) (keyOf_int_mk (q := .i64) (a := 5) Try.underlying3 (by decide)) (plainElem_int (q := .i64) (a := 2) Try.underlying3 (by decide))
  obtain ⟨w3, r3, o3, g3⟩ := o2.update lawI Try.underlying92 (by unfold maxLen; omega) (keyOf_int_mk (q := .i64) (a := 6) Try.underlying3 (by decide)) (plainElem_int (q := .i64) (a := 6) Try.underlying3 (by decide))
  obtain ⟨w4, r4, o4, g4⟩ := o3.update lawI Try.underlying92 (by unfold maxLen; omega) (keyOf_int_mk (q := .i64) (a := 7) Try.underlying3 (by decide)) (plainElem_int (q := .i64) (a := 1) Try.underlying3 (by decide))
  obtain ⟨w5, r5, o5, g5⟩ := o4.update lawI Try.underlying92 (by unfold maxLen; omega) (keyOf_int_mk (q := .i64) (a := 8) Try.underlying3 (by decide)) (plainElem_int (q := .i64) (a := 7) Try.underlying3 (by decide))
  have z1 := g1.size
  have z2 := g2.size
  have z3 := g3.size
  have z4 := g4.size
  have z5 := g5.size
  simp only [World.size_alloc] at z1
  have n5 : w.heap.size + 1 + 1 < w5.heap.size := by omega
  have y0 : w.heap.size < w5.heap.size := by omega
  have B1 : Below w.heap.size w w1 := Below.grown (by go_grown) g1 (by simp; omega) (fun k hk => by injection hk; omega)
  have B2 := Below.grown B1 g2 B1.size (fun k hk => by injection hk; omega)
  have B3 := Below.grown B2 g3 B2.size (fun k hk => by injection hk; omega)
  have B4 := Below.grown B3 g4 B3.size (fun k hk => by injection hk; omega)
  have B5 := Below.grown B4 g5 B4.size (fun k hk => by injection hk; omega)
  have ne : some w.heap.size ≠ some (w.heap.size + 1 + 1) := fun h => by injection h; omega
  have hb1 := (g1.block w.heap.size (by simp; omega) ne).trans ((Below.heap_alloc _ _ _ (by go_size)).trans ((Below.heap_alloc _ _ _ (by go_size)).trans (heap_top w (.cells #[.int .i64 0, .int .i64 0, .int .i64 0, .int .i64 0, .int .i64 0] 60) rfl)))
  have hb5 := (g5.block w.heap.size (by omega) ne).trans ((g4.block w.heap.size (by omega) ne).trans ((g3.block w.heap.size (by omega) ne).trans ((g2.block w.heap.size (by omega) ne).trans hb1)))
  have Hb5 := Lib.hid hb5
  have HB5 := Lib.hid B5
  clear hb1 hb5 g1 g2 g3 g4 g5 o0 o1 o2 o3 o4 o5 z1 z2 z3 z4 z5 B1 B2 B3 B4 B5 ne
  have q0 := cell_of_row w5 w.heap.size 0 _ _ _ Hb5.out
  have q1 := cell_of_row w5 w.heap.size 1 _ _ _ Hb5.out
  have q2 := cell_of_row w5 w.heap.size 2 _ _ _ Hb5.out
  have q3 := cell_of_row w5 w.heap.size 3 _ _ _ Hb5.out
  have q4 := cell_of_row w5 w.heap.size 4 _ _ _ Hb5.out
  have qf := fun o => frozen_of_row w5 w.heap.size o _ _ Hb5.out
  go_enter Try.func36, Try.ntmps36
  go_wp2
  have B5 := HB5.out
  refine bodyPost_ret (by simp [results, Try.results36, go_sem, q0, q1, q2, q3, q4]) rfl ⟨rfl, ?_⟩
  go_grown

set_option maxRecDepth 100000 in
set_option maxHeartbeats 2000000 in
theorem ent_8_0_1 (w : World) :
    Calls Try.prog 36 #[.int .i64 8, .int .i64 0, .int .i64 1] w fun e w' => e = .returned (dv 0 0 0 0 0) ∧ Below w.heap.size w w' := by
  have hmm := @run_makeMap Try.prog
  have o0 : (((w.alloc (.cells #[.int .i64 0, .int .i64 0, .int .i64 0, .int .i64 0, .int .i64 0] 60)).alloc (.cells #[.int .i64 1, .int .i64 0, .int .i64 0, .int .i64 0, .int .i64 1] 60)).alloc (.map #[] 0)).ownsMap Try.prog 3 (plainElem (H := Unit) Try.prog 3) (w.heap.size + 1 + 1) 0 (.map []) := by
    have h := World.ownsMap_made ((w.alloc (.cells #[.int .i64 0, .int .i64 0, .int .i64 0, .int .i64 0, .int .i64 0] 60)).alloc (.cells #[.int .i64 1, .int .i64 0, .int .i64 0, .int .i64 0, .int .i64 1] 60)) Try.prog 3 (plainElem (H := Unit) Try.prog 3)
    simpa using h
  obtain ⟨w1, r1, o1, g1⟩ := o0.update lawI Try.underlying92 (by unfold maxLen; omega) (keyOf_int_mk (q := .i64) (a := 4) Try.underlying3 (by decide)) (plainElem_int (q := .i64) (a := 4) Try.underlying3 (by decide))
  obtain ⟨w2, r2, o2, g2⟩ := o1.update lawI Try.underlying92 (by unfold maxLen; omega) (keyOf_int_mk (q := .i64) (a := 5) Try.underlying3 (by decide)) (plainElem_int (q := .i64) (a := 2) Try.underlying3 (by decide))
  obtain ⟨w3, r3, o3, g3⟩ := o2.update lawI Try.underlying92 (by unfold maxLen; omega) (keyOf_int_mk (q := .i64) (a := 6) Try.underlying3 (by decide)) (plainElem_int (q := .i64) (a := 6) Try.underlying3 (by decide))
  obtain ⟨w4, r4, o4, g4⟩ := o3.update lawI Try.underlying92 (by unfold maxLen; omega) (keyOf_int_mk (q := .i64) (a := 7) Try.underlying3 (by decide)) (plainElem_int (q := .i64) (a := 1) Try.underlying3 (by decide))
  obtain ⟨w5, r5, o5, g5⟩ := o4.update lawI Try.underlying92 (by unfold maxLen; omega) (keyOf_int_mk (q := .i64) (a := 8) Try.underlying3 (by decide)) (plainElem_int (q := .i64) (a := 7) Try.underlying3 (by decide))
  have z1 := g1.size
  have z2 := g2.size
  have z3 := g3.size
  have z4 := g4.size
  have z5 := g5.size
  simp only [World.size_alloc] at z1
  have n5 : w.heap.size + 1 + 1 < w5.heap.size := by omega
  have y0 : w.heap.size < w5.heap.size := by omega
  have B1 : Below w.heap.size w w1 := Below.grown (by go_grown) g1 (by simp; omega) (fun k hk => by injection hk; omega)
  have B2 := Below.grown B1 g2 B1.size (fun k hk => by injection hk; omega)
  have B3 := Below.grown B2 g3 B2.size (fun k hk => by injection hk; omega)
  have B4 := Below.grown B3 g4 B3.size (fun k hk => by injection hk; omega)
  have B5 := Below.grown B4 g5 B4.size (fun k hk => by injection hk; omega)
  have ne : some w.heap.size ≠ some (w.heap.size + 1 + 1) := fun h => by injection h; omega
  have hb1 := (g1.block w.heap.size (by simp; omega) ne).trans ((Below.heap_alloc _ _ _ (by go_size)).trans ((Below.heap_alloc _ _ _ (by go_size)).trans (heap_top w (.cells #[.int .i64 0, .int .i64 0, .int .i64 0, .int .i64 0, .int .i64 0] 60) rfl)))
  have hb5 := (g5.block w.heap.size (by omega) ne).trans ((g4.block w.heap.size (by omega) ne).trans ((g3.block w.heap.size (by omega) ne).trans ((g2.block w.heap.size (by omega) ne).trans hb1)))
  have Hb5 := Lib.hid hb5
  have HB5 := Lib.hid B5
  clear hb1 hb5 g1 g2 g3 g4 g5 o0 o1 o2 o3 o4 o5 z1 z2 z3 z4 z5 B1 B2 B3 B4 B5 ne
  have q0 := cell_of_row w5 w.heap.size 0 _ _ _ Hb5.out
  have q1 := cell_of_row w5 w.heap.size 1 _ _ _ Hb5.out
  have q2 := cell_of_row w5 w.heap.size 2 _ _ _ Hb5.out
  have q3 := cell_of_row w5 w.heap.size 3 _ _ _ Hb5.out
  have q4 := cell_of_row w5 w.heap.size 4 _ _ _ Hb5.out
  have qf := fun o => frozen_of_row w5 w.heap.size o _ _ Hb5.out
  go_enter Try.func36, Try.ntmps36
  go_wp2
  have B5 := HB5.out
  refine bodyPost_ret (by simp [results, Try.results36, go_sem, q0, q1, q2, q3, q4]) rfl ⟨rfl, ?_⟩
  go_grown

set_option maxRecDepth 100000 in
set_option maxHeartbeats 2000000 in
theorem ent_8_1_0 (w : World) :
    Calls Try.prog 36 #[.int .i64 8, .int .i64 1, .int .i64 0] w fun e w' => e = .returned (dv 0 0 0 0 0) ∧ Below w.heap.size w w' := by
  have hmm := @run_makeMap Try.prog
  have o0 : (((w.alloc (.cells #[.int .i64 0, .int .i64 0, .int .i64 0, .int .i64 0, .int .i64 0] 60)).alloc (.cells #[.int .i64 1, .int .i64 0, .int .i64 0, .int .i64 0, .int .i64 1] 60)).alloc (.map #[] 0)).ownsMap Try.prog 3 (plainElem (H := Unit) Try.prog 3) (w.heap.size + 1 + 1) 0 (.map []) := by
    have h := World.ownsMap_made ((w.alloc (.cells #[.int .i64 0, .int .i64 0, .int .i64 0, .int .i64 0, .int .i64 0] 60)).alloc (.cells #[.int .i64 1, .int .i64 0, .int .i64 0, .int .i64 0, .int .i64 1] 60)) Try.prog 3 (plainElem (H := Unit) Try.prog 3)
    simpa using h
  obtain ⟨w1, r1, o1, g1⟩ := o0.update lawI Try.underlying92 (by unfold maxLen; omega) (keyOf_int_mk (q := .i64) (a := 4) Try.underlying3 (by decide)) (plainElem_int (q := .i64) (a := 4) Try.underlying3 (by decide))
  obtain ⟨w2, r2, o2, g2⟩ := o1.update lawI Try.underlying92 (by unfold maxLen; omega) (keyOf_int_mk (q := .i64) (a := 5) Try.underlying3 (by decide)) (plainElem_int (q := .i64) (a := 2) Try.underlying3 (by decide))
  obtain ⟨w3, r3, o3, g3⟩ := o2.update lawI Try.underlying92 (by unfold maxLen; omega) (keyOf_int_mk (q := .i64) (a := 6) Try.underlying3 (by decide)) (plainElem_int (q := .i64) (a := 6) Try.underlying3 (by decide))
  obtain ⟨w4, r4, o4, g4⟩ := o3.update lawI Try.underlying92 (by unfold maxLen; omega) (keyOf_int_mk (q := .i64) (a := 7) Try.underlying3 (by decide)) (plainElem_int (q := .i64) (a := 1) Try.underlying3 (by decide))
  obtain ⟨w5, r5, o5, g5⟩ := o4.update lawI Try.underlying92 (by unfold maxLen; omega) (keyOf_int_mk (q := .i64) (a := 8) Try.underlying3 (by decide)) (plainElem_int (q := .i64) (a := 7) Try.underlying3 (by decide))
  have z1 := g1.size
  have z2 := g2.size
  have z3 := g3.size
  have z4 := g4.size
  have z5 := g5.size
  simp only [World.size_alloc] at z1
  have n5 : w.heap.size + 1 + 1 < w5.heap.size := by omega
  have y0 : w.heap.size < w5.heap.size := by omega
  have B1 : Below w.heap.size w w1 := Below.grown (by go_grown) g1 (by simp; omega) (fun k hk => by injection hk; omega)
  have B2 := Below.grown B1 g2 B1.size (fun k hk => by injection hk; omega)
  have B3 := Below.grown B2 g3 B2.size (fun k hk => by injection hk; omega)
  have B4 := Below.grown B3 g4 B3.size (fun k hk => by injection hk; omega)
  have B5 := Below.grown B4 g5 B4.size (fun k hk => by injection hk; omega)
  have ne : some w.heap.size ≠ some (w.heap.size + 1 + 1) := fun h => by injection h; omega
  have hb1 := (g1.block w.heap.size (by simp; omega) ne).trans ((Below.heap_alloc _ _ _ (by go_size)).trans ((Below.heap_alloc _ _ _ (by go_size)).trans (heap_top w (.cells #[.int .i64 0, .int .i64 0, .int .i64 0, .int .i64 0, .int .i64 0] 60) rfl)))
  have hb5 := (g5.block w.heap.size (by omega) ne).trans ((g4.block w.heap.size (by omega) ne).trans ((g3.block w.heap.size (by omega) ne).trans ((g2.block w.heap.size (by omega) ne).trans hb1)))
  have Hb5 := Lib.hid hb5
  have HB5 := Lib.hid B5
  clear hb1 hb5 g1 g2 g3 g4 g5 o0 o1 o2 o3 o4 o5 z1 z2 z3 z4 z5 B1 B2 B3 B4 B5 ne
  have q0 := cell_of_row w5 w.heap.size 0 _ _ _ Hb5.out
  have q1 := cell_of_row w5 w.heap.size 1 _ _ _ Hb5.out
  have q2 := cell_of_row w5 w.heap.size 2 _ _ _ Hb5.out
  have q3 := cell_of_row w5 w.heap.size 3 _ _ _ Hb5.out
  have q4 := cell_of_row w5 w.heap.size 4 _ _ _ Hb5.out
  have qf := fun o => frozen_of_row w5 w.heap.size o _ _ Hb5.out
  go_enter Try.func36, Try.ntmps36
  go_wp2
  have B5 := HB5.out
  refine bodyPost_ret (by simp [results, Try.results36, go_sem, q0, q1, q2, q3, q4]) rfl ⟨rfl, ?_⟩
  go_grown

end Go.Proofs.Ytlihnipbdckmkaa
