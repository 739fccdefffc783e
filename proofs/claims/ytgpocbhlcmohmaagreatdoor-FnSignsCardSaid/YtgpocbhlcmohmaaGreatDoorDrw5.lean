/- The reference's draws of dyadic numbers. -/
import Derived.Test.YtgpocbhlcmohmaaGreatDoorDrw4
import Derived.Test.YtgpocbhlcmohmaaGreatDoorLow
import Derived.Test.YtgpocbhlcmohmaaGreatDoorPhase
import Derived.Deep.RegionWith
namespace Go.Proofs.YtgpocbhlcmohmaaGreatDoor
open Go.RowKit

abbrev Zero5D (w : World) (S : Nat) : Prop := Zero5 w S
theorem Zero5.touch {lo hi : Nat} {w w' : World} {b : Nat} (h : Zero5 w b) (ht : Touch lo hi w w') (hd : b < lo ∨ hi ≤ b) : Zero5 w' b :=
  (ht.block b (Array.getElem?_eq_some_iff.1 h).1 hd).trans h
theorem Zero5.lt {w : World} {b : Nat} (h : Zero5 w b) : b < w.heap.size := (Array.getElem?_eq_some_iff.1 h).1
theorem Zero5.alloc {w : World} {g : Nat} (h : Zero5 w g) (o : Obj) : Zero5 (w.alloc o) g := (Below.heap_alloc _ _ _ h.lt).trans h
theorem set5_far (w : World) {S g : Nat} (h : g ≠ S) (a b c d e : Value) : (((((w.setCell ⟨S, 0, none⟩ a).setCell ⟨S, 1, none⟩ b).setCell ⟨S, 2, none⟩ c).setCell ⟨S, 3, none⟩ d).setCell ⟨S, 4, none⟩ e).heap[g]? = w.heap[g]? :=
  (Below.heap_setCell _ ⟨S, 4, none⟩ e g h).trans (set4_far w h a b c d)
theorem set5_size (w : World) (S : Nat) (a b c d e : Value) : (((((w.setCell ⟨S, 0, none⟩ a).setCell ⟨S, 1, none⟩ b).setCell ⟨S, 2, none⟩ c).setCell ⟨S, 3, none⟩ d).setCell ⟨S, 4, none⟩ e).heap.size = w.heap.size := by simp [World.setCell]
theorem Touch.setD5 {w w4 : World} {g S : Nat} (ht : Touch g (g + 1) w w4) (hS : w.heap.size ≤ S) (a b c d e : Value) : Touch g (g + 1) w (((((w4.setCell ⟨S, 0, none⟩ a).setCell ⟨S, 1, none⟩ b).setCell ⟨S, 2, none⟩ c).setCell ⟨S, 3, none⟩ d).setCell ⟨S, 4, none⟩ e) :=
  (ht.set4 hS a b c d).setNew hS e
theorem Dr.setD5 {w w4 : World} {g : Nat} {A : Option Addr} {n cap T T0 T' cap0 S : Nat} (h : Dr w4 g A n cap T) (h0 : Dr w g A n cap0 T0) (ht : Touch g (g + 1) w w4) (hT : T ≤ T') (hS : w.heap.size ≤ S) (a b c d e : Value) :
    Dr (((((w4.setCell ⟨S, 0, none⟩ a).setCell ⟨S, 1, none⟩ b).setCell ⟨S, 2, none⟩ c).setCell ⟨S, 3, none⟩ d).setCell ⟨S, 4, none⟩ e) g A n cap T' :=
  h.keep h0 (ht.setD5 hS a b c d e) (by rw [set5_size]; exact Nat.le_refl _) (set5_far _ (by have := h0.lt; omega) _ _ _ _ _) hT
theorem rOk_small {a b c d : Int} (ha : -4 ≤ a ∧ a ≤ 4) (hb : -4 ≤ b ∧ b ≤ 4) (hc : -4 ≤ c ∧ c ≤ 4) (hd : -4 ≤ d ∧ d ≤ 4) : rOk a b c d = true := rOk_iff.2 (by omega)
/-- a dyadic number, and the cursor -/
def OneD (w : World) (g : Nat) (A : Option Addr) (n cap T : Nat) (e : Ending) (w' : World) : Prop := ∃ a b c d x : Int, e = .returned (dv a b c d x) ∧ Dr w' g A n cap T ∧ Touch g (g + 1) w w'

set_option maxRecDepth 100000 in
set_option maxHeartbeats 4000000 in
theorem dyadicDraw_any (g : Nat) (A : Option Addr) (n cap T : Nat) (w : World) (hd : Hid (Dr w g A n cap T)) (hT : T ≤ 700000) :
    Calls Tryz.prog 47 #[.pointer (some ⟨g, 0, none⟩)] w fun e w' => OneD w g A n cap (T + 10) e w' := by
  have hg := hd.out.lt
  go_enter Tryz.func47, Tryz.ntmps47
  go_wp2_with fail
  generalize hW0 : w.alloc (.cells #[.int .i64 0, .int .i64 0, .int .i64 0, .int .i64 0, .int .i64 0] 31) = W0
  have Z : Hid (Zero5 W0 w.heap.size) := by rw [← hW0]; exact heap_top _ _ rfl
  have t0 : Touch g (g + 1) w W0 := by rw [← hW0]; exact (Touch.refl _ _ _).alloc _
  have hd0 : Hid (Dr W0 g A n cap T) := by rw [← hW0]; exact hd.out.alloc _
  clear hW0
  refine (ring_any g A n cap T _ hd0 (by omega)).mono ?_
  rintro e w1 ⟨a, b, c, d, rfl, ka, kb, kc, kd, hd1, ht1⟩
  have Hd1 := Lib.hid hd1
  have Hr := Lib.hid (rOk_small ka kb kc kd)
  clear hd1 ka kb kc kd
  go_wp2_with fail
  refine (pick_any g A n cap _ 5 _ Hd1 (by omega) (by decide) (by decide)).mono ?_
  rintro e w2 ⟨k, rfl, hk, hk', hd2, ht2⟩
  obtain ⟨k, rfl⟩ := Int.eq_ofNat_of_zero_le hk
  have Hd2 := Lib.hid hd2
  replace ht2 := ht1.trans ht2
  clear hd2 ht1
  go_wp2_with fail
  refine (l2Low_any a b c d k _ Hr.out (by omega)).mono ?_
  rintro e w3 ⟨rfl, b3⟩
  have Hd3 := Lib.hid (Hd2.out.call b3)
  have ht3 := t0.trans (ht2.call b3)
  have z3 := (Z.out.touch ht2 (by have := Z.out.lt; omega)).below b3 (by have := (Z.out.touch ht2 (by have := Z.out.lt; omega)).lt; exact this)
  obtain ⟨r0, r1, r2, r3, r4⟩ := z3.cell
  have f3 := z3.frozen
  have s3 := z3.lt
  clear z3 b3 ht2
  generalize lowN k (a, b, c, d) = L
  obtain ⟨⟨l0, l1, l2, l3⟩, l4⟩ := L
  go_wp2
  refine bodyPost_ret (by simp [results, Tryz.results47, go_sem, r0, r1, r2, r3, r4]) rfl ⟨l0, l1, l2, l3, l4, rfl, ?_, ?_⟩
  · exact Hd3.out.setD5 hd.out ht3 (by omega) (Nat.le_refl _) _ _ _ _ _
  · exact ht3.setD5 (Nat.le_refl _) _ _ _ _ _

/-- a list of numbers in a new block -/
theorem list_new {w : World} {b : Nat} {t : TypeId} (zs : List Int) (h : w.heap[b]? = some (.cells (zs.map (Value.int .i64)).toArray t (0, 0))) : ∀ j z, zs[j]? = some z → w.cell? ⟨b, j, none⟩ = some (.int .i64 z) := by
  intro j z hz
  rw [cell_of_row w b j _ _ _ h]
  simp [hz]

set_option maxRecDepth 100000 in
set_option maxHeartbeats 8000000 in
theorem anyDyadic_any (g : Nat) (A : Option Addr) (n cap T : Nat) (w : World) (hd : Hid (Dr w g A n cap T)) (hT : T ≤ 600000) :
    Calls Tryz.prog 31 #[.pointer (some ⟨g, 0, none⟩)] w fun e w' => OneD w g A n cap (T + 40) e w' := by
  have hg := hd.out.lt
  go_enter Tryz.func31, Tryz.ntmps31
  go_wp2_with fail
  generalize hW0 : w.alloc (.cells #[.int .i64 0, .int .i64 0, .int .i64 0, .int .i64 0, .int .i64 0] 31) = W0
  have Z : Hid (Zero5 W0 w.heap.size) := by rw [← hW0]; exact heap_top _ _ rfl
  have t0 : Touch g (g + 1) w W0 := by rw [← hW0]; exact (Touch.refl _ _ _).alloc _
  have hd0 : Hid (Dr W0 g A n cap T) := by rw [← hW0]; exact hd.out.alloc _
  clear hW0
  refine (pick_any g A n cap T 14 _ hd0 (by omega) (by decide) (by decide)).mono ?_
  rintro e w1 ⟨k1, rfl, hk1, hk1', hd1, ht1⟩
  have Hd1 := Lib.hid hd1
  have Z1 := Lib.hid (Z.out.touch ht1 (by have := Z.out.lt; omega))
  replace ht1 := t0.trans ht1
  clear hd1 hd0 Z t0
  by_cases h0 : k1 = 0
  · subst h0
    go_wp2_with fail
    refine (ring_any g A n cap _ _ Hd1 (by omega)).mono ?_
    rintro e w2 ⟨a, b, c, d, rfl, ka, kb, kc, kd, hd2, ht2⟩
    have Hd2 := Lib.hid (hd2.alloc (.cells #[.int .i64 1, .int .i64 2, .int .i64 60, .int .i64 61, .int .i64 (-1)] 3))
    have Z2 := Lib.hid (Z1.out.touch ht2 (by have := Z1.out.lt; omega))
    replace ht2 := ht1.trans ht2
    have hl2 := hd2.lt
    clear hd2 ht1 ka kb kc kd
    go_wp2_with fail
    refine (among_any g A n cap _ w2.heap.size 5 [1, 2, 60, 61, -1] _ Hd2 (by omega) (by decide) (by decide) (by omega) (by go_size) (list_new _ (heap_top _ _ rfl))).mono ?_
    rintro e w3 ⟨k, rfl, _, hd3, ht3⟩
    have Hd3 := Lib.hid hd3
    have z3 := (Z2.out.alloc _).touch ht3 (by have := Z2.out.lt; omega)
    replace ht3 := (ht2.alloc _).trans ht3
    obtain ⟨r0, r1, r2, r3, r4⟩ := z3.cell
    have f3 := z3.frozen
    have s3 := z3.lt
    clear z3 hd3 ht2
    go_wp2
    refine bodyPost_ret (by simp [results, Tryz.results31, go_sem, r0, r1, r2, r3, r4]) rfl ⟨a, b, c, d, k, rfl, ?_, ?_⟩
    · exact Hd3.out.setD5 hd.out ht3 (by omega) (Nat.le_refl _) _ _ _ _ _
    · exact ht3.setD5 (Nat.le_refl _) _ _ _ _ _
  have f0 : (k1 == 0) = false := by simpa using h0
  by_cases h1 : k1 = 1
  · subst h1
    go_wp2_with fail
    refine (anyRing_any g A n cap _ _ Hd1 (by omega)).mono ?_
    rintro e w2 ⟨a, b, c, d, rfl, hd2, ht2⟩
    have Hd2 := Lib.hid (hd2.alloc (.cells #[.int .i64 a, .int .i64 b, .int .i64 c, .int .i64 d] 29))
    have Z2 := Lib.hid ((Z1.out.touch ht2 (by have := Z1.out.lt; omega)).alloc (.cells #[.int .i64 a, .int .i64 b, .int .i64 c, .int .i64 d] 29))
    replace ht2 := (ht1.trans ht2).alloc (.cells #[.int .i64 a, .int .i64 b, .int .i64 c, .int .i64 d] 29)
    have hl2 := hd2.lt
    clear hd2 ht1
    go_wp2_with fail
    generalize hW2 : w2.alloc (.cells #[.int .i64 a, .int .i64 b, .int .i64 c, .int .i64 d] 29) = W2
    have X2 : Hid (Blk4 W2 w2.heap.size (a, b, c, d)) := by rw [← hW2]; exact Blk4.new a b c d rfl
    rw [hW2] at Hd2 Z2 ht2
    clear hW2
    rcases hok : rOk a b c d with _ | _
    · refine (l1Good_any _ _ _ _ _).mono ?_
      rintro e w3 ⟨rfl, b3⟩
      rw [hok]
      have Hd3 := Lib.hid (Hd2.out.call b3)
      have Z3 := Lib.hid (Z2.out.below b3 Z2.out.lt)
      replace ht2 := ht2.call b3
      clear b3
      go_wp2_with fail
      refine (dyadicDraw_any g A n cap _ _ Hd3 (by omega)).mono ?_
      rintro e w4 ⟨l0, l1, l2, l3, l4, rfl, hd4, ht4⟩
      have Hd4 := Lib.hid hd4
      have z3 := Z3.out.touch ht4 (by have := Z3.out.lt; omega)
      replace ht4 := ht2.trans ht4
      obtain ⟨r0, r1, r2, r3, r4⟩ := z3.cell
      have f3 := z3.frozen
      have s3 := z3.lt
      clear z3 hd4 ht2
      go_wp2
      refine bodyPost_ret (by simp [results, Tryz.results31, go_sem, r0, r1, r2, r3, r4]) rfl ⟨l0, l1, l2, l3, l4, rfl, ?_, ?_⟩
      · exact Hd4.out.setD5 hd.out ht4 (by omega) (Nat.le_refl _) _ _ _ _ _
      · exact ht4.setD5 (Nat.le_refl _) _ _ _ _ _
    · have Hok := Lib.hid hok
      refine (l1Good_any _ _ _ _ _).mono ?_
      rintro e w3 ⟨rfl, b3⟩
      rw [Hok.out]
      have Hd3 := Lib.hid (Hd2.out.call b3)
      have Z3 := Lib.hid (Z2.out.below b3 Z2.out.lt)
      have X3 := Lib.hid (X2.out.below b3 X2.out.lt)
      replace ht2 := ht2.call b3
      clear b3 Hd2 Z2 X2 hok
      go_wp2_with fail
      obtain ⟨x0, x1, x2, x3⟩ := X3.out.cell
      obtain ⟨r0, r1, r2, r3, r4⟩ := Z3.out.cell
      have f3 := Z3.out.frozen
      have sx := X3.out.lt
      have sz := Z3.out.lt
      have Hl : Hid (∀ (k : Int) (W : World), k ∈ [(0 : Int), 3, 59, 60] → Calls Tryz.prog 46 #[rv a b c d, .int .i64 k] W fun r w' => ∃ l0 l1 l2 l3 l4 : Int, r = .returned (dv l0 l1 l2 l3 l4) ∧ Below W.heap.size W w') := by
        intro k W hk
        have hk0 : 0 ≤ k ∧ k ≤ 60 := by simp at hk; omega
        obtain ⟨j, rfl⟩ := Int.eq_ofNat_of_zero_le hk0.1
        exact (l2Low_any a b c d j W Hok.out (by omega)).mono fun _ _ ⟨h1, h2⟩ => ⟨_, _, _, _, _, h1, h2⟩
      have Ham : Hid (∀ W : World, W = (w3.alloc (.cells #[.int .i64 0, .int .i64 3, .int .i64 59, .int .i64 60] 3)).drew → Calls Tryz.prog 28 #[.pointer (some ⟨g, 0, none⟩), .slice (some ⟨w3.heap.size, 0, none⟩) 4 4] W fun e w' => ∃ k : Int, e = .returned (.int .i64 k) ∧ k ∈ [(0 : Int), 3, 59, 60] ∧ Dr w' g A n cap (T + 2 + 20 + 2) ∧ Touch g (g + 1) W w') := by
        intro W hW
        subst hW
        exact among_any g A n cap (T + 2 + 20) w3.heap.size 4 [0, 3, 59, 60] _ (Dr.drew (Hd3.out.alloc _)) (by omega) (by decide) (by decide) (by have := Hd3.out.lt; omega) (by show w3.heap.size < (w3.alloc _).heap.size; go_size) (list_new (w := (w3.alloc (.cells #[.int .i64 0, .int .i64 3, .int .i64 59, .int .i64 60] 3)).drew) [0, 3, 59, 60] (heap_top w3 (.cells #[.int .i64 0, .int .i64 3, .int .i64 59, .int .i64 60] 3) rfl))
      go_region_with (first | (go_at_call 28; refine (Ham.out _ rfl).mono ?_; rintro e w5 ⟨k, rfl, hk, hd5, ht5⟩; obtain ⟨c5, g5⟩ := Touch.rule ht5 (S := w2.heap.size) (by simp; omega) (by omega); obtain ⟨cz5, gz5⟩ := Touch.rule ht5 (S := w.heap.size) (by simp; omega) (by omega); have ss5 : w3.heap.size + 1 ≤ w5.heap.size := (by have h := ht5.size; simp at h; omega); have y5 : w.heap.size < w5.heap.size := (by omega); have yx5 : w2.heap.size < w5.heap.size := (by omega); have Hd5 := Lib.hid hd5; have Hk := Lib.hid hk; clear hd5 hk) | (go_at_call 46; refine (Hl.out _ _ Hk.out).mono ?_; rintro e w6 ⟨l0, l1, l2, l3, l4, rfl, b6⟩; obtain ⟨b6c, b6f⟩ := bcell b6; have ss6 := b6.size))
      all_goals
        have t6 : Touch g (g + 1) w w6 := ((ht2.alloc _).drew.trans ht5).call b6
        have d6 := Lib.hid (Hd5.out.call b6)
        clear ht5 b6
        go_wp2
        refine bodyPost_ret (by simp [results, Tryz.results31, go_sem, b6c, cz5, y5, sz, r0, r1, r2, r3, r4]) rfl ⟨l0, l1, l2, l3, l4, rfl, ?_, ?_⟩
        · exact d6.out.setD5 hd.out t6 (by omega) (Nat.le_refl _) _ _ _ _ _
        · exact t6.setD5 (Nat.le_refl _) _ _ _ _ _
  have f1 : (k1 == 1) = false := by simpa using h1
  by_cases h2 : k1 = 2
  · subst h2
    go_wp2_with fail
    refine (pick_any g A n cap _ 8 _ Hd1 (by omega) (by decide) (by decide)).mono ?_
    rintro e w2 ⟨k, rfl, hk, hk', hd2, ht2⟩
    obtain ⟨k, rfl⟩ := Int.eq_ofNat_of_zero_le hk
    have Hd2 := Lib.hid hd2
    have Z2 := Lib.hid (Z1.out.touch ht2 (by have := Z1.out.lt; omega))
    replace ht2 := ht1.trans ht2
    clear hd2 ht1
    go_wp2_with fail
    refine (l2Power_any k _ (by omega)).mono ?_
    rintro e w3 ⟨rfl, b3⟩
    have Hd3 := Lib.hid (Hd2.out.call b3)
    have z3 := Z2.out.below b3 Z2.out.lt
    replace ht2 := ht2.call b3
    obtain ⟨r0, r1, r2, r3, r4⟩ := z3.cell
    have f3 := z3.frozen
    have s3 := z3.lt
    clear z3 b3
    generalize powQ k = L
    obtain ⟨l0, l1, l2, l3⟩ := L
    go_wp2
    refine bodyPost_ret (by simp [results, Tryz.results31, go_sem, r0, r1, r2, r3, r4]) rfl ⟨l0, l1, l2, l3, 0, rfl, ?_, ?_⟩
    · exact Hd3.out.setD5 hd.out ht2 (by omega) (Nat.le_refl _) _ _ _ _ _
    · exact ht2.setD5 (Nat.le_refl _) _ _ _ _ _
  have f2 : (k1 == 2) = false := by simpa using h2
  clear h0 h1 h2
  go_wp2_with fail
  refine (dyadicDraw_any g A n cap _ _ Hd1 (by omega)).mono ?_
  rintro e w2 ⟨l0, l1, l2, l3, l4, rfl, hd2, ht2⟩
  have Hd2 := Lib.hid hd2
  have z3 := Z1.out.touch ht2 (by have := Z1.out.lt; omega)
  replace ht2 := ht1.trans ht2
  obtain ⟨r0, r1, r2, r3, r4⟩ := z3.cell
  have f3 := z3.frozen
  have s3 := z3.lt
  clear z3 hd2 ht1
  go_wp2
  refine bodyPost_ret (by simp [results, Tryz.results31, go_sem, r0, r1, r2, r3, r4]) rfl ⟨l0, l1, l2, l3, l4, rfl, ?_, ?_⟩
  · exact Hd2.out.setD5 hd.out ht2 (by omega) (Nat.le_refl _) _ _ _ _ _
  · exact ht2.setD5 (Nat.le_refl _) _ _ _ _ _

/-- two dyadic numbers -/
def TwoD (w : World) (e : Ending) (w' : World) : Prop := ∃ a b c d x a' b' c' d' x' : Int, e = .returned (.tuple #[dv a b c d x, dv a' b' c' d' x']) ∧ Below w.heap.size w w'
/-- a ring number and an integer -/
def RingI (w : World) (e : Ending) (w' : World) : Prop := ∃ a b c d x : Int, e = .returned (.tuple #[rv a b c d, .int .i64 x]) ∧ Below w.heap.size w w'

end Go.Proofs.YtgpocbhlcmohmaaGreatDoor
