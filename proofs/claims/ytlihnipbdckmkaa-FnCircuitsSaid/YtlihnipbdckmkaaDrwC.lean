/- The reference's draws of gates. -/
import Derived.Test.YtlihnipbdckmkaaDrw3
import Derived.Test.YtlihnipbdckmkaaCx
import Derived.Deep.RegionWith
namespace Go.Proofs.Ytlihnipbdckmkaa
open Go.RowKit

/-- a store into memory of the call's own -/
theorem Dr.store {w w4 : World} {g : Nat} {A : Option Addr} {n cap T T0 cap0 : Nat} {p : Addr} (h : Dr w4 g A n cap T) (h0 : Dr w g A n cap0 T0) (ht : Touch g (g + 1) w w4) (hp : w.heap.size ≤ p.block) (u : Value) : Dr (w4.setCell p u) g A n cap T :=
  h.keep h0 (ht.setNew hp u) (by simp [World.setCell]) (Below.heap_setCell _ p u g (by have := h0.lt; omega)) (Nat.le_refl _)
theorem set3_keep {w w4 : World} {g : Nat} {A : Option Addr} {n cap T T0 T' cap0 S : Nat} (h : Dr w4 g A n cap T) (h0 : Dr w g A n cap0 T0) (ht : Touch g (g + 1) w w4) (hT : T ≤ T') (hS : w.heap.size ≤ S) (a b c : Value) :
    Dr (((w4.setCell ⟨S, 0, none⟩ a).setCell ⟨S, 1, none⟩ b).setCell ⟨S, 2, none⟩ c) g A n cap T' ∧ Touch g (g + 1) w (((w4.setCell ⟨S, 0, none⟩ a).setCell ⟨S, 1, none⟩ b).setCell ⟨S, 2, none⟩ c) := by
  have t1 := ht.setNew (p := ⟨S, 0, none⟩) hS a
  have t2 := t1.setNew (p := ⟨S, 1, none⟩) hS b
  have t3 := t2.setNew (p := ⟨S, 2, none⟩) hS c
  have d1 := h.store h0 ht (p := ⟨S, 0, none⟩) hS a
  have d2 := d1.store h0 t1 (p := ⟨S, 1, none⟩) hS b
  have d3 := d2.store h0 t2 (p := ⟨S, 2, none⟩) hS c
  exact ⟨d3.more hT, t3⟩
/-- some gate, and the cursor -/
def OneG (w : World) (g : Nat) (A : Option Addr) (n cap T : Nat) (e : Ending) (w' : World) : Prop := ∃ x : G3, e = .returned (tv x.1 x.2.1 x.2.2) ∧ Dr w' g A n cap T ∧ Touch g (g + 1) w w'

set_option maxRecDepth 100000 in
set_option maxHeartbeats 4000000 in
theorem gate_any (g : Nat) (A : Option Addr) (n cap T : Nat) (q : Int) (kb kc : Nat) (zs : List Int) (w : World) (hd : Hid (Dr w g A n cap T)) (hT : T ≤ 800000) (hq1 : 1 ≤ q) (hq2 : q ≤ 1000) (hl1 : 1 ≤ zs.length) (hl2 : zs.length ≤ 1000) (hbg : kb ≠ g) (hbl : kb < w.heap.size)
    (hz : Hid (∀ j z, zs[j]? = some z → w.cell? ⟨kb, j, none⟩ = some (.int .i64 z))) :
    Calls Try.prog 66 #[.pointer (some ⟨g, 0, none⟩), .int .i64 q, .slice (some ⟨kb, 0, none⟩) zs.length kc] w fun e w' => OneG w g A n cap (T + 6) e w' := by
  have hg := hd.out.lt
  go_enter Try.func66, Try.ntmps66
  go_wp2_with fail
  generalize hW0 : w.alloc (.cells #[.int .i64 0, .int .i64 0, .int .i64 0] 29) = W0
  have R0 : W0.heap[w.heap.size]? = some (.cells #[.int .i64 0, .int .i64 0, .int .i64 0] 29 (0, 0)) := by rw [← hW0]; exact heap_top _ _ rfl
  have t0 : Touch g (g + 1) w W0 := by rw [← hW0]; exact (Touch.refl _ _ _).alloc _
  have hd0 : Hid (Dr W0 g A n cap T) := by rw [← hW0]; exact hd.out.alloc _
  have hs0 : w.heap.size < W0.heap.size := by rw [← hW0]; go_size
  clear hW0
  refine (pick_any g A n cap T (zs.length : Int) _ hd0 (by omega) (by omega) (by omega)).mono ?_
  rintro e w1 ⟨k, rfl, hk0, hk1, hd1, ht1⟩
  obtain ⟨k, rfl⟩ := Int.eq_ofNat_of_zero_le hk0
  obtain ⟨z, hkz⟩ : ∃ z, zs[k]? = some z := ⟨_, List.getElem?_eq_getElem (by omega)⟩
  have R1 := (ht1.block w.heap.size hs0 (by omega)).trans R0
  have T1 := t0.trans ht1
  have hc := (T1.cell kb k hbl (by omega)).trans (hz.out k z hkz)
  have hs1 := ht1.size
  have y1 : w.heap.size < w1.heap.size := by omega
  have ykb : kb < w1.heap.size := by omega
  have hki : (k : Int) < (zs.length : Int) := hk1
  have Hd1 := Lib.hid hd1
  clear hkz hd1 ht1 R0 hk0 hk1
  go_upto_region 2 with fail
  generalize hW1 : w1.alloc (.cells #[.int .i64 z, .int .i64 0, .int .i64 0] 29) = W1
  have R2 : W1.heap[w.heap.size]? = some (.cells #[.int .i64 0, .int .i64 0, .int .i64 0] 29 (0, 0)) := by rw [← hW1]; exact (Below.heap_alloc _ _ _ y1).trans R1
  have L2 : W1.heap[w1.heap.size]? = some (.cells #[.int .i64 z, .int .i64 0, .int .i64 0] 29 (0, 0)) := by rw [← hW1]; exact heap_top _ _ rfl
  have T2 : Touch g (g + 1) w W1 := by rw [← hW1]; exact T1.alloc _
  have Hd2 : Hid (Dr W1 g A n cap (T + 2)) := by rw [← hW1]; exact Hd1.out.alloc _
  have y2 : w1.heap.size < W1.heap.size := by rw [← hW1]; go_size
  have y20 : w.heap.size < W1.heap.size := by omega
  have hgl : g < w1.heap.size := by omega
  clear hW1 hc R1 T1 Hd1
  by_cases hk12 : z = 12
  · subst hk12
    have cR := fun o => cell_of_row W1 w.heap.size o _ _ _ R2
    have fR := fun o => frozen_of_row W1 w.heap.size o _ _ R2
    have cL := fun o => cell_of_row W1 w1.heap.size o _ _ _ L2
    clear R2 L2
    go_wp2
    exact bodyPost_ret (by simp [results, Try.results66, go_sem, cR]) rfl ⟨(12, 0, 0), rfl, set3_keep Hd2.out hd.out T2 (by omega) (Nat.le_refl _) _ _ _⟩
  · have f12 : (z == 12) = false := by simpa using hk12
    have cL := fun o => cell_of_row W1 w1.heap.size o _ _ _ L2
    have fL := fun o => frozen_of_row W1 w1.heap.size o _ _ L2
    go_wp2_with fail
    refine (pick_any g A n cap _ q _ Hd2 (by omega) hq1 (by omega)).mono ?_
    rintro e w3 ⟨a, rfl, ha0, ha1, hd3, ht3⟩
    have R3 := (ht3.block w.heap.size y20 (by omega)).trans R2
    have L3 := (ht3.block w1.heap.size y2 (by omega)).trans L2
    have T3 := T2.trans ht3
    have hs3 := ht3.size
    have Hd3 := Lib.hid hd3
    have y3 : w1.heap.size < w3.heap.size := by omega
    have cL3 := fun o => cell_of_row w3 w1.heap.size o _ _ _ L3
    have fL3 := fun o => frozen_of_row w3 w1.heap.size o _ _ L3
    clear hd3 ht3 R2 L2 T2 cL fL Hd2
    go_upto_region 5 with fail
    generalize hW3 : w3.setCell ⟨w1.heap.size, 1, none⟩ (.int .i64 a) = W3
    have R4 : W3.heap[w.heap.size]? = some (.cells #[.int .i64 0, .int .i64 0, .int .i64 0] 29 (0, 0)) := by rw [← hW3]; exact (heap_setCell_other w3 ⟨w1.heap.size, 1, none⟩ w.heap.size _ (Nat.ne_of_lt y1)).trans R3
    have L4 : W3.heap[w1.heap.size]? = some (.cells #[.int .i64 z, .int .i64 a, .int .i64 0] 29 (0, 0)) := by rw [← hW3]; exact heap_setCell_same w3 w1.heap.size 1 _ _ _ L3
    have T4 : Touch g (g + 1) w W3 := by rw [← hW3]; exact T3.setNew (p := ⟨w1.heap.size, 1, none⟩) (Nat.le_of_lt y1) _
    have Hd4 : Hid (Dr W3 g A n cap (T + 2 + 2)) := by rw [← hW3]; exact Hd3.out.store hd.out T3 (p := ⟨w1.heap.size, 1, none⟩) (Nat.le_of_lt y1) _
    have y4 : w1.heap.size < W3.heap.size := by rw [← hW3]; simpa [World.setCell] using y3
    have y40 : w.heap.size < W3.heap.size := by omega
    have cL4 := fun o => cell_of_row W3 w1.heap.size o _ _ _ L4
    have fL4 := fun o => frozen_of_row W3 w1.heap.size o _ _ L4
    have cR := fun o => cell_of_row W3 w.heap.size o _ _ _ R4
    have fR := fun o => frozen_of_row W3 w.heap.size o _ _ R4
    clear hW3 R3 L3 T3 Hd3 cL3 fL3
    go_wp2_with fail
    refine (l1In_any z 9 11 _).mono ?_
    rintro e w' ⟨rfl, rfl⟩
    rcases hin : inB z 9 11 with _ | _
    · go_wp2
      exact bodyPost_ret (by simp [results, Try.results66, go_sem, cR]) rfl ⟨(z, a, 0), rfl, set3_keep Hd4.out hd.out T4 (by omega) (Nat.le_refl _) _ _ _⟩
    · by_cases hq : q = 1
      · subst hq
        go_wp2
        exact bodyPost_ret (by simp [results, Try.results66, go_sem, cR]) rfl ⟨(1, 0, 0), rfl, set3_keep Hd4.out hd.out T4 (by omega) (Nat.le_refl _) _ _ _⟩
      · have hqb : (q == 1) = false := by simpa using hq
        have hq0 : (q == 0) = false := by rw [beq_eq_false_iff_ne]; omega
        have hw1 : IntKind.wrap .i64 (q - 1) = q - 1 := IntWalk.i64_in _ (by omega)
        have hw2 : IntKind.wrap .i64 (a + 1) = a + 1 := IntWalk.i64_in _ (by omega)
        have Hp : Hid (∀ W, W = W3.drew → Calls Try.prog 52 #[.pointer (some ⟨g, 0, none⟩), .int .i64 (q - 1)] W fun e w' => ∃ k : Int, e = .returned (.int .i64 k) ∧ 0 ≤ k ∧ k < q - 1 ∧ Dr w' g A n cap (T + 2 + 2 + 2) ∧ Touch g (g + 1) W w') := fun W hW => by
          subst hW
          exact pick_any g A n cap _ (q - 1) _ (Lib.hid Hd4.out.drew) (by omega) (by omega) (by omega)
        have h1r : w1.heap.size < g ∨ g + 1 ≤ w1.heap.size := by omega
        have h2r : w.heap.size < g ∨ g + 1 ≤ w.heap.size := by omega
        have hw3 : ∀ k : Int, 0 ≤ k → k < q - 1 → IntKind.wrap .i64 (a + 1 + k) = a + 1 + k := fun k h1 h2 => IntWalk.i64_in _ (by omega)
        go_wp2_with fail
        go_region_with (first | (go_at_call 52; refine (Hp.out _ rfl).mono ?_; rintro e w5 ⟨m, rfl, hm0, hm1, hd5, ht5⟩; have hwm := hw3 m hm0 hm1; obtain ⟨c5, g5⟩ := Touch.rule ht5 (S := w1.heap.size) y4 h1r; have R5 := (ht5.block w.heap.size y40 h2r).trans R4; have L5 := (ht5.block w1.heap.size y4 h1r).trans L4; have s5 : W3.heap.size ≤ w5.heap.size := ht5.size; have y5 : w1.heap.size < w5.heap.size := (by omega); have y50 : w.heap.size < w5.heap.size := (by omega); have Hd5 := Lib.hid hd5; clear hd5 hm0 hm1))
        all_goals
          obtain ⟨bb, hbb⟩ : ∃ bb, bb = (a + 1 + m).tmod q := ⟨_, rfl⟩
          rw [← hbb]
          clear hbb
          have T5 := T4.trans (show Touch g (g + 1) W3 w5 from ⟨ht5.os, ht5.tape, ht5.output, ht5.size, ht5.block⟩)
          generalize hW5 : w5.setCell ⟨w1.heap.size, 2, none⟩ (.int .i64 bb) = W5
          have R6 : W5.heap[w.heap.size]? = some (.cells #[.int .i64 0, .int .i64 0, .int .i64 0] 29 (0, 0)) := by rw [← hW5]; exact (heap_setCell_other w5 ⟨w1.heap.size, 2, none⟩ w.heap.size _ (Nat.ne_of_lt y1)).trans R5
          have L6 : W5.heap[w1.heap.size]? = some (.cells #[.int .i64 z, .int .i64 a, .int .i64 bb] 29 (0, 0)) := by rw [← hW5]; exact heap_setCell_same w5 w1.heap.size 2 _ _ _ L5
          have T6 : Touch g (g + 1) w W5 := by rw [← hW5]; exact T5.setNew (p := ⟨w1.heap.size, 2, none⟩) (Nat.le_of_lt y1) _
          have Hd6 : Hid (Dr W5 g A n cap (T + 2 + 2 + 2)) := by rw [← hW5]; exact Hd5.out.store hd.out T5 (p := ⟨w1.heap.size, 2, none⟩) (Nat.le_of_lt y1) _
          have y6 : w1.heap.size < W5.heap.size := by rw [← hW5]; simpa [World.setCell] using y5
          have y60 : w.heap.size < W5.heap.size := by omega
          have dL := fun o => cell_of_row W5 w1.heap.size o _ _ _ L6
          have dR := fun o => cell_of_row W5 w.heap.size o _ _ _ R6
          have dF := fun o => frozen_of_row W5 w.heap.size o _ _ R6
          clear hW5 R5 L5 R6 L6 cL4 fL4 cR fR c5 g5 R4 L4
          go_wp2
          exact bodyPost_ret (by simp [results, Try.results66, go_sem, dR]) rfl ⟨(z, a, bb), rfl, set3_keep Hd6.out hd.out T6 (by omega) (Nat.le_refl _) _ _ _⟩
end Go.Proofs.Ytlihnipbdckmkaa
