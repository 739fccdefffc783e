/- The reference's draws of pairs of ring numbers. -/
import Derived.Test.YtcmkkjdleihjfaaDrw3
import Derived.Test.YtcmkkjdleihjfaaRingTurn
import Derived.Test.YtcmkkjdleihjfaaRingSpec
import Derived.RegionTactic
namespace Go.Proofs.Ytcmkkjdleihjfaa
open Go.RowKit

theorem Blk4.touch {lo hi : Nat} {w w' : World} {b : Nat} {x : Q4} (h : Blk4 w b x) (ht : Touch lo hi w w') (hd : b < lo ∨ hi ≤ b) : Blk4 w' b x :=
  (ht.block b (Array.getElem?_eq_some_iff.1 h).1 hd).trans h
theorem Blk4.lt {w : World} {b : Nat} {x : Q4} (h : Blk4 w b x) : b < w.heap.size := (Array.getElem?_eq_some_iff.1 h).1
theorem Blk4.new {w : World} {g : Nat} (a b c d : Int) (hg : g = w.heap.size) : Blk4 (w.alloc (.cells #[.int .i64 a, .int .i64 b, .int .i64 c, .int .i64 d] 38)) g (a, b, c, d) := heap_top _ _ hg
theorem Blk4.alloc {w : World} {g : Nat} {x : Q4} (h : Blk4 w g x) (o : Obj) : Blk4 (w.alloc o) g x := (Below.heap_alloc _ _ _ h.lt).trans h

/-- two ring numbers -/
def TwoR (w : World) (e : Ending) (w' : World) : Prop := ∃ a b c d a' b' c' d' : Int, e = .returned (.tuple #[rv a b c d, rv a' b' c' d']) ∧ Below w.heap.size w w'

set_option maxRecDepth 100000 in
set_option maxHeartbeats 4000000 in
theorem drawAdd_any (A : Option Addr) (n cap : Nat) (w : World) (hB : Hid (ByteAt w A n)) :
    Calls Try.prog 63 #[.slice A n cap] w fun e w' => TwoR w e w' := by
  go_enter Try.func63, Try.ntmps63
  go_wp2_with fail
  generalize hW0 : ((w.alloc (.cells #[.int .i64 0, .int .i64 0, .int .i64 0, .int .i64 0] 38)).alloc (.cells #[.int .i64 0, .int .i64 0, .int .i64 0, .int .i64 0] 38)).alloc (.cells #[.slice A n cap, .int .i64 0, .int .u64 0] 91) = W0
  have B0 : Below w.heap.size w W0 := by rw [← hW0]; clear hW0; go_grown
  have hd0 : Hid (Dr W0 (w.heap.size + 1 + 1) A n cap 0) := by rw [← hW0] at B0 ⊢; exact Dr.start hB.out B0 (by omega) (heap_top _ _ (by simp))
  have R0 : Hid (Blk4 W0 w.heap.size (0, 0, 0, 0)) := by rw [← hW0]; exact ((Blk4.new 0 0 0 0 rfl).alloc _).alloc _
  have R1 : Hid (Blk4 W0 (w.heap.size + 1) (0, 0, 0, 0)) := by rw [← hW0]; exact (Blk4.new 0 0 0 0 (by simp)).alloc _
  clear hW0
  refine (anyRing_any _ A n cap 0 _ hd0 (by omega)).mono ?_
  rintro e w1 ⟨a, b, c, d, rfl, hd1, ht1⟩
  have Hd1 := Lib.hid hd1
  clear hd1
  go_wp2_with fail
  refine (anyRing_any _ A n cap _ _ Hd1 (by omega)).mono ?_
  rintro e w2 ⟨a', b', c', d', rfl, _, ht2⟩
  replace ht2 := ht1.trans ht2
  clear ht1
  have B2 := Touch.new B0 ht2 (by omega)
  have R0' := R0.out.touch ht2 (by omega)
  have R1' := R1.out.touch ht2 (by omega)
  have s0 := R0'.lt
  have s1 := R1'.lt
  obtain ⟨r0, r1, r2, r3⟩ := R0'.cell
  obtain ⟨q0, q1, q2, q3⟩ := R1'.cell
  have f0 := R0'.frozen
  have f1 := R1'.frozen
  clear R0' R1' ht2
  go_wp2
  refine bodyPost_ret (by simp [results, Try.results63, go_sem, r0, r1, r2, r3, q0, q1, q2, q3]) rfl ⟨a, b, c, d, a', b', c', d', rfl, ?_⟩
  go_grown

set_option maxRecDepth 100000 in
set_option maxHeartbeats 4000000 in
theorem drawMul_any (A : Option Addr) (n cap : Nat) (w : World) (hB : Hid (ByteAt w A n)) :
    Calls Try.prog 21 #[.slice A n cap] w fun e w' => TwoR w e w' := by
  go_enter Try.func21, Try.ntmps21
  go_wp2_with fail
  refine (drawAdd_any A n cap _ (hB.out.below (B := w.heap.size) (by go_grown) (Nat.le_refl _))).mono ?_
  rintro e w1 ⟨a, b, c, d, a', b', c', d', rfl, b1⟩
  obtain ⟨b1c, b1f⟩ := bcell b1
  have z1 := b1.size
  simp only [World.size_alloc] at z1
  have y0 : w.heap.size < w1.heap.size := by omega
  have y1 : w.heap.size + 1 < w1.heap.size := by omega
  have B1 : Below w.heap.size w w1 := Below.chain (Below.refl _ _) (by go_grown) b1 (by go_size)
  go_wp2
  refine bodyPost_ret (by simp [results, Try.results21, go_sem, b1c]) rfl ⟨a, b, c, d, a', b', c', d', rfl, ?_⟩
  go_grown

theorem specMul_some (a b c d a' b' c' d' : Int) (w : World) :
    Calls Try.prog 24 #[rv a b c d, rv a' b' c' d'] w fun e w' => ∃ (p0 p1 p2 p3 : Int) (o : Bool), e = .returned (.tuple #[rv p0 p1 p2 p3, .bool o]) ∧ Below w.heap.size w w' :=
  (specMul_any a b c d a' b' c' d' w).mono fun _ _ ⟨h1, h2⟩ => ⟨_, _, _, _, _, h1, h2⟩

set_option maxRecDepth 100000 in
set_option maxHeartbeats 8000000 in
theorem drawDiv_any (A : Option Addr) (n cap : Nat) (w : World) (hB : Hid (ByteAt w A n)) :
    Calls Try.prog 28 #[.slice A n cap] w fun e w' => TwoR w e w' := by
  go_enter Try.func28, Try.ntmps28
  go_wp2_with fail
  generalize hW0 : ((w.alloc (.cells #[.int .i64 0, .int .i64 0, .int .i64 0, .int .i64 0] 38)).alloc (.cells #[.int .i64 0, .int .i64 0, .int .i64 0, .int .i64 0] 38)).alloc (.cells #[.slice A n cap, .int .i64 0, .int .u64 0] 91) = W0
  have B0 : Below w.heap.size w W0 := by rw [← hW0]; clear hW0; go_grown
  have hd0 : Hid (Dr W0 (w.heap.size + 1 + 1) A n cap 0) := by rw [← hW0] at B0 ⊢; exact Dr.start hB.out B0 (by omega) (heap_top _ _ (by simp))
  have R0 : Hid (Blk4 W0 w.heap.size (0, 0, 0, 0)) := by rw [← hW0]; exact ((Blk4.new 0 0 0 0 rfl).alloc _).alloc _
  have R1 : Hid (Blk4 W0 (w.heap.size + 1) (0, 0, 0, 0)) := by rw [← hW0]; exact (Blk4.new 0 0 0 0 (by simp)).alloc _
  clear hW0
  refine (anyRing_any _ A n cap 0 _ hd0 (by omega)).mono ?_
  rintro e w1 ⟨a, b, c, d, rfl, hd1, ht1⟩
  have Hd1 := Lib.hid hd1
  clear hd1
  go_wp2_with fail
  refine (ring_any _ A n cap _ _ Hd1 (by omega)).mono ?_
  rintro e w2 ⟨a', b', c', d', rfl, _, _, _, _, hd2, ht2⟩
  replace ht2 := ht1.trans ht2
  clear ht1
  have B2 := Touch.new B0 ht2 (by omega)
  replace R0 := Lib.hid (R0.out.touch ht2 (by omega))
  replace R1 := Lib.hid (R1.out.touch ht2 (by omega))
  have sR1 : w.heap.size + 1 + 1 < w2.heap.size := hd2.lt
  have e5 : w2.heap.size + 1 ≠ w.heap.size := by omega
  have e1' : w.heap.size ≠ w2.heap.size := by omega
  have e2' : w.heap.size + 1 ≠ w2.heap.size := by omega
  have e5' : w.heap.size ≠ w2.heap.size + 1 := by omega
  have e1 : w2.heap.size ≠ w.heap.size := by omega
  have e2 : w2.heap.size ≠ w.heap.size + 1 := by omega
  have Hd2 := Lib.hid hd2
  clear hd2 ht2
  go_wp2_with fail
  generalize hW3 : (w2.alloc (.cells #[.int .i64 a, .int .i64 b, .int .i64 c, .int .i64 d] 38)).alloc (.cells #[.int .i64 a', .int .i64 b', .int .i64 c', .int .i64 d'] 38) = W3
  have b3 : Below w2.heap.size w2 W3 := by rw [← hW3]; clear hW3; go_grown
  have X : Hid (Blk4 W3 w2.heap.size (a, b, c, d)) := by rw [← hW3]; exact (Blk4.new a b c d rfl).alloc _
  have Y : Hid (Blk4 W3 (w2.heap.size + 1) (a', b', c', d')) := by rw [← hW3]; exact Blk4.new a' b' c' d' (by simp)
  clear hW3
  have B3 := B2.trans (b3.mono B2.size)
  replace R0 := Lib.hid (R0.out.below b3 R0.out.lt)
  replace R1 := Lib.hid (R1.out.below b3 R1.out.lt)
  replace Hd2 := Lib.hid (Hd2.out.call b3)
  clear b3
  refine (specMul_some _ _ _ _ _ _ _ _ _).mono ?_
  rintro e w4 ⟨p0, p1, p2, p3, o, rfl, b4⟩
  have B4 := B3.trans (b4.mono B3.size)
  replace R0 := Lib.hid (R0.out.below b4 R0.out.lt)
  replace R1 := Lib.hid (R1.out.below b4 R1.out.lt)
  replace X := Lib.hid (X.out.below b4 X.out.lt)
  replace Y := Lib.hid (Y.out.below b4 Y.out.lt)
  replace Hd2 := Lib.hid (Hd2.out.call b4)
  clear b4
  cases o
  · go_wp2_with fail
    generalize hW5 : w4.alloc (.cells #[.int .i64 p0, .int .i64 p1, .int .i64 p2, .int .i64 p3] 38) = W5
    have B5 : Below w.heap.size w W5 := by rw [← hW5]; exact B4.alloc B4.size _
    have R0' : Blk4 W5 w.heap.size (0, 0, 0, 0) := by rw [← hW5]; exact R0.out.alloc _
    have R1' : Blk4 W5 (w.heap.size + 1) (0, 0, 0, 0) := by rw [← hW5]; exact R1.out.alloc _
    have X' : Blk4 W5 w2.heap.size (a, b, c, d) := by rw [← hW5]; exact X.out.alloc _
    have Y' : Blk4 W5 (w2.heap.size + 1) (a', b', c', d') := by rw [← hW5]; exact Y.out.alloc _
    clear hW5
    have s0 := R0'.lt
    have s1 := R1'.lt
    obtain ⟨r0, r1, r2, r3⟩ := R0'.cell
    obtain ⟨q0, q1, q2, q3⟩ := R1'.cell
    obtain ⟨u0, u1, u2, u3⟩ := X'.cell
    obtain ⟨v0, v1, v2, v3⟩ := Y'.cell
    have f0 := R0'.frozen
    have f1 := R1'.frozen
    clear R0' R1' X' Y' sR1
    go_region
    all_goals
      go_wp2
      refine bodyPost_ret (by simp [results, Try.results28, go_sem, r0, r1, r2, r3, q0, q1, q2, q3]) rfl ⟨a, b, c, d, a', b', c', d', rfl, ?_⟩
      go_grown
  · go_wp2_with fail
    have Hd4 := Lib.hid (Hd2.out.alloc (.cells #[.int .i64 p0, .int .i64 p1, .int .i64 p2, .int .i64 p3] 38))
    refine (one_any _ A n cap _ 2 _ Hd4 (by omega) (by decide) (by decide)).mono ?_
    rintro e w5 ⟨k, rfl, _, ht5⟩
    have tt5 := Touch.trans (Touch.alloc (Touch.refl (w.heap.size + 1 + 1) (w.heap.size + 1 + 1 + 1) w4) (.cells #[.int .i64 p0, .int .i64 p1, .int .i64 p2, .int .i64 p3] 38)) ht5
    have B5 : Below w.heap.size w w5 := B4.trans (tt5.far (by omega) B4.size)
    have s24 : w2.heap.size + 1 < w4.heap.size := Y.out.lt
    have R0' := R0.out.touch tt5 (by omega)
    have R1' := R1.out.touch tt5 (by omega)
    have X' := X.out.touch tt5 (.inr (by omega))
    have Y' := Y.out.touch tt5 (.inr (by omega))
    have Z' := (Blk4.new (w := w4) p0 p1 p2 p3 rfl).touch ht5 (.inr (by omega))
    have e3 : w4.heap.size ≠ w.heap.size := by omega
    have e4 : w4.heap.size ≠ w.heap.size + 1 := by omega
    have e3' : w.heap.size ≠ w4.heap.size := by omega
    have e4' : w.heap.size + 1 ≠ w4.heap.size := by omega
    have s0 := R0'.lt
    have s1 := R1'.lt
    obtain ⟨r0, r1, r2, r3⟩ := R0'.cell
    obtain ⟨q0, q1, q2, q3⟩ := R1'.cell
    obtain ⟨u0, u1, u2, u3⟩ := X'.cell
    obtain ⟨v0, v1, v2, v3⟩ := Y'.cell
    obtain ⟨z0, z1, z2, z3⟩ := Z'.cell
    have f0 := R0'.frozen
    have f1 := R1'.frozen
    clear R0' R1' X' Y' Z' sR1 tt5 ht5 Hd4 s24
    cases k
    · go_wp2_with fail
      go_region
      all_goals
        go_wp2
        refine bodyPost_ret (by simp [results, Try.results28, go_sem, r0, r1, r2, r3, q0, q1, q2, q3]) rfl ⟨a, b, c, d, a', b', c', d', rfl, ?_⟩
        go_grown
    · go_wp2_with fail
      go_region
      all_goals
        go_wp2
        refine bodyPost_ret (by simp [results, Try.results28, go_sem, r0, r1, r2, r3, q0, q1, q2, q3]) rfl ⟨p0, p1, p2, p3, a', b', c', d', rfl, ?_⟩
        go_grown
end Go.Proofs.Ytcmkkjdleihjfaa
