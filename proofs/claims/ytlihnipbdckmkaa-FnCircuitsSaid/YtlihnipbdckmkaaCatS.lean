/- Concat of the reference. -/
import Derived.Test.YtlihnipbdckmkaaCRes
import Derived.Deep.RegionLaw
namespace Go.Proofs.Ytlihnipbdckmkaa
open Go.RowKit

set_option maxRecDepth 100000 in
set_option maxHeartbeats 4000000 in
theorem l4Own_any (q : Int) (A : Option Addr) (cap : Nat) (xs : List G3) (w : World) (hn : xs.length ≤ 1048576) (hx : Hid (FlatAt w A (flatG xs))) :
    Calls Try.prog 49 #[cv q A xs.length cap] w fun e w' => ∃ (A' : Option Addr) (cap' : Nat), e = .returned (cv q A' xs.length cap') ∧ w'.ownsRow (w.heap.size + 2) 29 3 (.slice A' xs.length cap') xs.length ((flatG xs).map (Value.int .i64)) ∧ Below w.heap.size w w' ∧ w.heap.size + 2 ≤ w'.heap.size := by
  obtain ⟨i0, hi, hz0, hz1, hz2⟩ := info_parts Try.infoGate
  have Hlen := Lib.hid (flatG_len xs)
  go_enter Try.func49, Try.ntmps49
  go_wp2_with fail
  generalize hW0 : (w.alloc (.cells #[.int .i64 q, .slice A xs.length cap] 38)).alloc (.cells #[.int .i64 0, .slice none 0 0] 38) = W0
  have B0 : Below w.heap.size w W0 := by rw [← hW0]; clear hW0; go_grown
  have c0 : W0.cell? ⟨w.heap.size, 0, none⟩ = some (.int .i64 q) := by rw [← hW0]; clear hW0; go_simp
  have c1 : W0.cell? ⟨w.heap.size, 1, none⟩ = some (.slice A xs.length cap) := by rw [← hW0]; clear hW0; go_simp
  have HZ : Hid (W0.heap[w.heap.size + 1]? = some (.cells #[.int .i64 0, .slice none 0 0] 38 (0, 0))) := by rw [← hW0]; exact heap_top _ _ (by simp)
  have HS : Hid (W0.heap.size = w.heap.size + 2) := by rw [← hW0]; show _ = _; simp
  have hy0 : w.heap.size < W0.heap.size := by have := HS.out; omega
  have hy1 : w.heap.size + 1 < W0.heap.size := by have := HS.out; omega
  have hy2 : w.heap.size + 2 ≤ W0.heap.size := by have := HS.out; omega
  have Hf0 := Lib.hid (hx.out.below B0)
  clear hW0
  go_region_law (first | (refine step_append_flat _ rfl _ _ 36 rfl (w.heap.size + 2) 29 i0 (tv 0 0 0) 3 24 Try.underlying36 hi hz0 hz1 hz2 rfl (by decide) (.slice (some ⟨W0.heap.size, 0, none⟩) 0 0) 0 [] rfl (ownsRow_empty _ (by omega) (heap_top _ _ (by simp))) A xs.length cap (flatG xs) rfl Hlen.out (by first | exact Hf0.out.alloc _ | exact FlatAt.drew (Hf0.out.alloc _)) (by unfold maxLen; omega) (by omega) (by simp; omega) ?_; intro v' w3 hown hgrow; obtain ⟨A', cap', rfl⟩ := ownsRow_form _ hown; have n0 := (hgrow.block w.heap.size (by simp; omega) (by simp [Value.ownBlock]; omega)).trans (Below.heap_alloc W0 (.cells (#[] : Array Value) 29) w.heap.size hy0); have n1 := (hgrow.block (w.heap.size + 1) (by simp; omega) (by simp [Value.ownBlock]; omega)).trans (Below.heap_alloc W0 (.cells (#[] : Array Value) 29) (w.heap.size + 1) (by omega)); have d0 := (World.cell?_of_block (a := ⟨w.heap.size, 0, none⟩) n0).trans c0; have d1 := (World.cell?_of_block (a := ⟨w.heap.size, 1, none⟩) n0).trans c1; have hz3 := Lib.hid (n1.trans HZ.out); have r0 := cell_of_row w3 (w.heap.size + 1) 0 _ _ _ hz3.out; have r1 := cell_of_row w3 (w.heap.size + 1) 1 _ _ _ hz3.out; have rf := (fun o => frozen_of_row w3 (w.heap.size + 1) o _ _ hz3.out); have Hown3 := Lib.hid hown; have zz3 := hgrow.size; have B3 := Lib.hid (Below.grown (by go_grown : Below w.heap.size w (W0.alloc (.cells (#[] : Array Value) 29))) ⟨hgrow.os, hgrow.tape, hgrow.output, hgrow.size, hgrow.block⟩ (by simp; omega) (fun k hk => by simp [Value.ownBlock] at hk; omega)); clear hown hgrow n0 n1))
  all_goals
    go_wp2
    refine bodyPost_ret (by simp [results, Try.results49, go_sem, r0, r1]) rfl ⟨A', cap', rfl, ?_, ?_, ?_⟩
    · have h := Hown3.out
      simp only [Nat.zero_add, List.nil_append] at h
      exact ownsRow_setCell_below (ownsRow_setCell_below h (by dsimp only; omega) _) (by dsimp only; omega) _
    · have B := B3.out
      go_grown
    · simp [World.setCell]; simp at zz3; omega
end Go.Proofs.Ytlihnipbdckmkaa
