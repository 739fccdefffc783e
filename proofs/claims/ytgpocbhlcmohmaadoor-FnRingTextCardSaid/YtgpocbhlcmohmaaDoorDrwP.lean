/- The reference's draws of texts that begin with bytes. -/
import Derived.Test.YtgpocbhlcmohmaaDoorDrwT
namespace Go.Proofs.YtgpocbhlcmohmaaDoor
open Go.RowKit

set_option maxHeartbeats 1000000 in
theorem drawFmtR_any (A : Option Addr) (n cap : Nat) (w : World) (hB : Hid (ByteAt w A n)) :
    Calls Tryd.prog 15 #[.slice A n cap] w fun e w' => ∃ a b c d : Int, e = .returned (rv a b c d) ∧ Below w.heap.size w w' := by
  go_enter Tryd.func15, Tryd.ntmps15
  go_wp2_with fail
  refine (drawRing_any A n cap _ (hB.out.below (B := w.heap.size) (by go_grown) (Nat.le_refl _))).mono ?_
  rintro e w1 ⟨a, b, c, d, rfl, b1⟩
  obtain ⟨b1c, b1f⟩ := bcell b1
  have z1 := b1.size
  simp only [World.size_alloc] at z1
  have B1 : Below w.heap.size w w1 := Below.chain (Below.refl _ _) (by go_grown) b1 (by go_size)
  go_wp2
  refine bodyPost_ret (by simp [results, Tryd.results15, go_sem, b1c]) rfl ⟨a, b, c, d, rfl, ?_⟩
  go_grown

/-- some short text -/
def SomeT (w : World) (e : Ending) (w' : World) : Prop := ∃ t : ByteArray, e = .returned (.string t) ∧ t.size ≤ 1000 ∧ Below w.heap.size w w'

set_option maxRecDepth 100000 in
set_option maxHeartbeats 4000000 in
theorem drawParR_any (A : Option Addr) (n cap : Nat) (w : World) (hB : Hid (ByteAt w A n)) :
    Calls Tryd.prog 18 #[.slice A n cap] w fun e w' => SomeT w e w' := by
  go_enter Tryd.func18, Tryd.ntmps18
  go_wp2_with fail
  generalize hW0 : w.alloc (.cells #[.slice A n cap, .int .i64 0, .int .u64 0] 81) = W0
  have B0 : Below w.heap.size w W0 := by rw [← hW0]; clear hW0; go_grown
  have hd0 : Hid (Dr W0 w.heap.size A n cap 0) := by rw [← hW0] at B0 ⊢; exact Dr.start hB.out B0 (by omega) (heap_top _ _ rfl)
  clear hW0
  refine (anyRingB_any w.heap.size A n cap 0 _ hd0 (by omega)).mono ?_
  rintro e w1 ⟨a, b, c, d, rfl, hw, hd1, ht1⟩
  obtain ⟨t, ht⟩ : ∃ t, t = txt4 a b c d := ⟨_, rfl⟩
  have htz : t.size ≤ 100 := by rw [ht]; exact txt4_wide hw
  have DT : Hid (∀ W, Calls Tryd.prog 47 #[rv a b c d] W fun e w' => e = .returned (.string t) ∧ Below W.heap.size W w') := fun W => by rw [ht]; exact l1TextW_any a b c d W hw.1 hw.2.1 hw.2.2.1 hw.2.2.2
  have Hd1 := Lib.hid hd1
  have B1 := B0.trans (Below.mono (ht1.far (B := w.heap.size) (Nat.le_refl _) B0.size) (Nat.le_refl _))
  clear ht hw hd1 ht1 hd0
  go_wp2_with fail
  refine (DT.out _).mono ?_
  rintro e w2 ⟨rfl, b2⟩
  have Hd2 := Lib.hid (Hd1.out.call b2)
  have B2 : Below w.heap.size w w2 := B1.trans (b2.mono B1.size)
  clear b2 DT
  go_wp2_with fail
  refine (one_any w.heap.size A n cap _ 3 _ Hd2 (by omega) (by decide) (by decide)).mono ?_
  rintro e w3 ⟨k, rfl, hd3, ht3⟩
  have Hd3 := Lib.hid hd3
  have B3 : Below w.heap.size w w3 := B2.trans (Below.mono (ht3.far (B := w.heap.size) (Nat.le_refl _) B2.size) (Nat.le_refl _))
  clear hd3 ht3
  cases k
  · go_wp2
    go_ret
    exact ⟨t, rfl, by omega, B3⟩
  · go_wp2_with fail
    refine (spoilt_any w.heap.size A n cap _ t _ _ Hd3 (by omega) (by omega) (by decide) (by decide)).mono ?_
    rintro e w4 ⟨t2, rfl, htz2, _, ht4⟩
    have B4 : Below w.heap.size w w4 := B3.trans (Below.mono (ht4.far (B := w.heap.size) (Nat.le_refl _) B3.size) (Nat.le_refl _))
    go_wp2
    go_ret
    exact ⟨t2, rfl, by omega, B4⟩
end Go.Proofs.YtgpocbhlcmohmaaDoor
