/- The reference's draws that begin with bytes: ring numbers. -/
import Derived.Test.YtgpocbhlcmohmaaGreatDoorDrw2
import Derived.Test.YtgpocbhlcmohmaaGreatDoorRingIf
namespace Go.Proofs.YtgpocbhlcmohmaaGreatDoor
open Go.RowKit

/-- n bytes at a slice's address, among the old blocks -/
def ByteAt (w : World) (A : Option Addr) (n : Nat) : Prop :=
  ∀ j, j < n → ∃ (b off : Nat) (c : Int), A = some ⟨b, off, none⟩ ∧ b < w.heap.size ∧ w.cell? ⟨b, off + j, none⟩ = some (.int .u8 c) ∧ 0 ≤ c ∧ c ≤ 255
theorem ByteAt.below {B : Nat} {w w' : World} {A : Option Addr} {n : Nat} (h : ByteAt w A n) (hb : Below B w w') (hB : w.heap.size ≤ B) : ByteAt w' A n := by
  intro j hj
  obtain ⟨b, off, c, h1, h3, h4, h5⟩ := h j hj
  exact ⟨b, off, c, h1, Nat.lt_of_lt_of_le h3 hb.size, (hb.cell (p := ⟨b, off + j, none⟩) (Nat.lt_of_lt_of_le h3 hB)).trans h4, h5⟩
/-- behind blocks that were made: none of them is the bytes' block -/
theorem ByteAt.code {w w' : World} {A : Option Addr} {n g : Nat} (h : ByteAt w A n) (hb : Below w.heap.size w w') (hg : w.heap.size ≤ g) : CodeAt w' g A n := by
  intro j hj
  obtain ⟨b, off, c, h1, h3, h4, h5⟩ := h j hj
  exact ⟨b, off, c, h1, by omega, Nat.lt_of_lt_of_le h3 hb.size, (hb.cell (p := ⟨b, off + j, none⟩) h3).trans h4, h5⟩
theorem Dr.start {w W : World} {G : Nat} {A : Option Addr} {n cap : Nat} {t : TypeId} (hB : ByteAt w A n) (hb : Below w.heap.size w W) (hG : w.heap.size ≤ G) (h : W.heap[G]? = some (.cells #[.slice A n cap, .int .i64 0, .int .u64 0] t (0, 0))) : Dr W G A n cap 0 :=
  ⟨(Array.getElem?_eq_some_iff.1 h).1, hB.code hb hG, cell_of_row W G 0 _ _ _ h, ⟨0, 0, Nat.le_refl _, cell_of_row W G 1 _ _ _ h, cell_of_row W G 2 _ _ _ h, by decide, by decide⟩, fun o => frozen_of_row W G o _ _ h⟩
/-- a draw's own cursor is new memory -/
theorem Touch.new {w W w' : World} {G : Nat} (hb : Below w.heap.size w W) (ht : Touch G (G + 1) W w') (hG : w.heap.size ≤ G) : Below w.heap.size w w' := hb.trans (ht.far hG hb.size)

set_option maxRecDepth 100000 in
set_option maxHeartbeats 4000000 in
theorem anyRing_any (g : Nat) (A : Option Addr) (n cap T : Nat) (w : World) (hd : Hid (Dr w g A n cap T)) (hT : T ≤ 700000) :
    Calls Tryz.prog 44 #[.pointer (some ⟨g, 0, none⟩)] w fun e w' => ∃ a b c d : Int, e = .returned (rv a b c d) ∧ Dr w' g A n cap (T + 20) ∧ Touch g (g + 1) w w' := by
  have hg := hd.out.lt
  go_enter Tryz.func44, Tryz.ntmps44
  go_wp2_with fail
  generalize hW0 : w.alloc (.cells #[.int .i64 0, .int .i64 0, .int .i64 0, .int .i64 0] 29) = W0
  have hk := fun o => (congrArg (fun x : World => x.cell? ⟨w.heap.size, o, none⟩) hW0).symm
  have hkf := fun o => (congrArg (fun x : World => x.frozen? ⟨w.heap.size, o, none⟩) hW0).symm
  have t0 : Touch g (g + 1) w W0 := by rw [← hW0]; exact (Touch.refl _ _ _).alloc _
  have hd0 : Hid (Dr W0 g A n cap T) := by rw [← hW0]; exact hd.out.alloc _
  have hs0 : w.heap.size < W0.heap.size := by rw [← hW0]; go_size
  clear hW0
  refine (one_any g A n cap T 3 _ hd0 (by omega) (by decide) (by decide)).mono ?_
  rintro e w1 ⟨k1, rfl, hd1, ht1⟩
  have Hd1 := Lib.hid hd1
  clear hd1
  cases k1
  · go_wp2_with fail
    refine (ring_any g A n cap _ _ Hd1 (by omega)).mono ?_
    rintro e w2 ⟨a, b, c, d, rfl, _, _, _, _, hd2, ht2⟩
    have Hd2 := Lib.hid hd2
    clear hd2
    replace ht2 := ht1.trans ht2
    clear ht1
    obtain ⟨r2, f2⟩ := ht2.rule hs0 (by omega)
    have s2 := ht2.size
    go_wp2
    refine bodyPost_ret (by simp [results, Tryz.results44, go_sem, r2, hk]) rfl ⟨a, b, c, d, rfl, ?_, ?_⟩
    · exact Hd2.out.set4 hd.out (t0.trans ht2) (by omega) (Nat.le_refl _) _ _ _ _
    · exact (t0.trans ht2).set4 (Nat.le_refl _) _ _ _ _
  · go_wp2_with fail
    refine (coef_any g A n cap _ _ Hd1 (by omega)).mono ?_
    rintro e w2 ⟨a, rfl, _, hd2, ht2⟩
    have Hd2 := Lib.hid hd2
    clear hd2
    replace ht2 := ht1.trans ht2
    clear ht1
    go_wp2_with fail
    refine (coef_any g A n cap _ _ Hd2 (by omega)).mono ?_
    rintro e w3 ⟨b, rfl, _, hd3, ht3⟩
    have Hd3 := Lib.hid hd3
    clear hd3
    replace ht3 := ht2.trans ht3
    clear ht2
    go_wp2_with fail
    refine (coef_any g A n cap _ _ Hd3 (by omega)).mono ?_
    rintro e w4 ⟨c, rfl, _, hd4, ht4⟩
    have Hd4 := Lib.hid hd4
    clear hd4
    replace ht4 := ht3.trans ht4
    clear ht3
    go_wp2_with fail
    refine (coef_any g A n cap _ _ Hd4 (by omega)).mono ?_
    rintro e w5 ⟨d, rfl, _, hd5, ht5⟩
    have Hd5 := Lib.hid hd5
    clear hd5
    replace ht5 := ht4.trans ht5
    clear ht4
    obtain ⟨r5, f5⟩ := ht5.rule hs0 (by omega)
    have s5 := ht5.size
    go_wp2
    refine bodyPost_ret (by simp [results, Tryz.results44, go_sem, r5, hk]) rfl ⟨a, b, c, d, rfl, ?_, ?_⟩
    · exact Hd5.out.set4 hd.out (t0.trans ht5) (by omega) (Nat.le_refl _) _ _ _ _
    · exact (t0.trans ht5).set4 (Nat.le_refl _) _ _ _ _

end Go.Proofs.YtgpocbhlcmohmaaGreatDoor
