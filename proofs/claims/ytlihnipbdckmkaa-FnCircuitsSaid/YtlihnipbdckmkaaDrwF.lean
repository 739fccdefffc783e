/- The reference's draws that begin with bytes: circuits for Concat and for Inverse. -/
import Derived.Test.YtlihnipbdckmkaaDrwE
namespace Go.Proofs.Ytlihnipbdckmkaa
open Go.RowKit

set_option maxHeartbeats 400000 in
theorem mostC_any (a b : Int) (w : World) :
    Calls Try.prog 43 #[.int .i64 a, .int .i64 b] w fun e w' => e = .returned (.int .i64 (if a > b then a else b)) ∧ w = w' := by
  by_cases h : b < a
  · rw [if_pos h]
    go_enter Try.func43, Try.ntmps43
    go_wp2
    go_ret
    exact ⟨rfl, rfl⟩
  · rw [if_neg h]
    go_enter Try.func43, Try.ntmps43
    go_wp2
    go_ret
    exact ⟨rfl, rfl⟩

set_option maxHeartbeats 400000 in
theorem leastC_any (a b : Int) (w : World) :
    Calls Try.prog 42 #[.int .i64 a, .int .i64 b] w fun e w' => e = .returned (.int .i64 (if a < b then a else b)) ∧ w = w' := by
  by_cases h : a < b
  · rw [if_pos h]
    go_enter Try.func42, Try.ntmps42
    go_wp2
    go_ret
    exact ⟨rfl, rfl⟩
  · rw [if_neg h]
    go_enter Try.func42, Try.ntmps42
    go_wp2
    go_ret
    exact ⟨rfl, rfl⟩

/-- a circuit in new memory -/
def CirD (w : World) (e : Ending) (w' : World) : Prop :=
  ∃ (q : Int) (A' : Option Addr) (cap' : Nat) (xs : List G3), e = .returned (cv q A' xs.length cap') ∧ xs.length ≤ 1000 ∧ FlatIn w' A' (flatG xs) w.heap.size w'.heap.size ∧ Below w.heap.size w w'
/-- two circuits in new memory -/
def CirD2 (w : World) (e : Ending) (w' : World) : Prop :=
  ∃ (q : Int) (A1 : Option Addr) (c1 : Nat) (xs : List G3) (p : Int) (A2 : Option Addr) (c2 : Nat) (ys : List G3), e = .returned (.tuple #[cv q A1 xs.length c1, cv p A2 ys.length c2]) ∧ xs.length ≤ 1000 ∧ ys.length ≤ 1000 ∧ FlatIn w' A1 (flatG xs) w.heap.size w'.heap.size ∧ FlatIn w' A2 (flatG ys) w.heap.size w'.heap.size ∧ Below w.heap.size w w'

set_option maxRecDepth 100000 in
set_option maxHeartbeats 8000000 in
theorem drawInvC_any (A : Option Addr) (n cap : Nat) (w : World) (hB : Hid (ByteAt w A n)) :
    Calls Try.prog 17 #[.slice A n cap] w fun e w' => CirD w e w' := by
  obtain ⟨i0, hi, hz0, hz1, hz2⟩ := info_parts Try.infoGate
  go_enter Try.func17, Try.ntmps17
  go_wp2_with fail
  generalize hW0 : (w.alloc (.cells #[.int .i64 0, .slice none 0 0] 38)).alloc (.cells #[.slice A n cap, .int .i64 0, .int .u64 0] 73) = W0
  have B0 : Below w.heap.size w W0 := by rw [← hW0]; clear hW0; go_grown
  have hd0 : Hid (Dr W0 (w.heap.size + 1) A n cap 0) := by rw [← hW0] at B0 ⊢; exact Dr.start hB.out B0 (by omega) (heap_top _ _ (by simp))
  have HZ : Hid (ZeroC W0 w.heap.size) := by rw [← hW0]; exact (Below.heap_alloc _ _ _ (by go_size)).trans (heap_top _ _ rfl)
  have hs0 : w.heap.size + 1 < W0.heap.size := by rw [← hW0]; go_size
  clear hW0
  refine (one_any (w.heap.size + 1) A n cap 0 12 _ hd0 (by omega) (by decide) (by decide)).mono ?_
  rintro e w1 ⟨k, rfl, hd1, ht1⟩
  have Hd1 := Lib.hid hd1
  have B1 := Touch.new B0 ht1 (by omega)
  have HZ1 : Hid (ZeroC w1 w.heap.size) := (ht1.block w.heap.size (by omega) (by omega)).trans HZ.out
  have zs1 := ht1.size
  have zw1 : w.heap.size < w1.heap.size := by omega
  clear hd1 ht1 B0 hd0 HZ
  cases k
  · go_wp2_with fail
    refine (anyCircuit_any _ A n cap _ _ Hd1 (by omega)).mono ?_
    rintro e w2 ⟨q, A', cap', xs, rfl, _, _, hxl, hown, _, ht2⟩
    have B2 := Touch.new B1 ht2 (by omega)
    have HZ2 := Lib.hid ((ht2.block w.heap.size (by omega) (by omega)).trans HZ1.out)
    have Hf := Lib.hid (FlatIn.of_owns hown rfl)
    have zs2 := ht2.size
    have q0 := cell_of_row w2 w.heap.size 0 _ _ _ HZ2.out
    have q1 := cell_of_row w2 w.heap.size 1 _ _ _ HZ2.out
    have qf := fun o => frozen_of_row w2 w.heap.size o _ _ HZ2.out
    have zw2 : w.heap.size < w2.heap.size := by omega
    clear ht2 hown HZ1
    go_wp2
    refine bodyPost_ret (by simp [results, Try.results17, go_sem, q0, q1]) rfl ⟨q, A', cap', xs, rfl, by omega, ?_, ?_⟩
    · refine FlatIn.mono (lo := w1.heap.size) (hi := w2.heap.size) ?_ (by omega) (by go_size) (Nat.le_refl _)
      repeat (first | (with_reducible refine FlatIn.setFar ?_ (by dsimp only; omega) _) | (with_reducible refine FlatIn.drew ?_))
      exact Hf.out
    · go_grown
  · go_upto_region 4 with fail
    generalize hW1 : w1.alloc (.cells #[.int .i64 1, .slice none 0 0] 38) = W1
    have B2 : Below w.heap.size w W1 := by rw [← hW1]; exact B1.alloc B1.size _
    have Hd2 : Hid (Dr W1 (w.heap.size + 1) A n cap (0 + 2)) := by rw [← hW1]; exact Hd1.out.alloc _
    have HZ2 : Hid (ZeroC W1 w.heap.size) := by rw [← hW1]; exact (Below.heap_alloc _ _ _ zw1).trans HZ1.out
    have HR2 : Hid (W1.heap[w1.heap.size]? = some (.cells #[.int .i64 1, .slice none 0 0] 38 (0, 0))) := by rw [← hW1]; exact heap_top _ _ rfl
    have hs2 : w1.heap.size < W1.heap.size := by rw [← hW1]; go_size
    clear hW1 Hd1 HZ1 B1
    go_wp2_with fail
    refine (pick_any _ A n cap _ 5 _ Hd2 (by omega) (by decide) (by decide)).mono ?_
    rintro e w2 ⟨K0, rfl, hk0, hk1, _, ht3⟩
    obtain ⟨K0, rfl⟩ := Int.eq_ofNat_of_zero_le hk0
    have B3 := Touch.new B2 ht3 (by omega)
    have HZ3 := Lib.hid ((ht3.block w.heap.size (by omega) (by omega)).trans HZ2.out)
    have HM3 : Hid (MadeC w2 w1.heap.size (w1.heap.size + 1) w1.heap.size 1 []) := ⟨none, 0, (ht3.block _ (by omega) (by omega)).trans HR2.out, World.ownsRow_nil _ _ _ _, fun k hk => by cases hk⟩
    have zs3 := ht3.size
    clear ht3 HZ2 HR2 B2 hk0 Hd2
    go_wp2_with fail
    go_loopg [5] (55 + K0) (fun gk s wr => ∃ (k : Nat) (xs : List G3), s = .int .i64 k ∧ k = gk ∧ xs.length + k = 55 + K0 ∧ MadeC wr w1.heap.size (w1.heap.size + 1) w1.heap.size 1 xs ∧ ZeroC wr w.heap.size ∧ Below w.heap.size w wr)
    case atStart => exact ⟨55 + K0, [], by go_num, rfl, by simp, HM3.out, HZ3.out, B3⟩
    case round =>
      obtain ⟨k, xs, rfl, hkg, hxk, hmm, hzz, hb⟩ := hrel
      have Hz := Lib.hid hzz
      have Hkg := Lib.hid hkg
      have zr := hb.size
      obtain ⟨A', cap', hb2, hown, hne⟩ := hmm
      have zb2 : w1.heap.size < wr.heap.size := (Array.getElem?_eq_some_iff.1 hb2).1
      have k0 := cell_of_row wr w1.heap.size 0 _ _ _ hb2
      have k1 := cell_of_row wr w1.heap.size 1 _ _ _ hb2
      have kf := frozen_of_row wr w1.heap.size 1 _ _ hb2
      have Hb2 := Lib.hid hb2
      have Hown := Lib.hid hown
      have hxl : xs.length ≤ 60 := by omega
      clear hb2 hown hne hzz hkg
      by_cases hk0 : 0 < k
      · obtain ⟨j, rfl⟩ : ∃ j, k = j + 1 := ⟨k - 1, by omega⟩
        rw [show (((j + 1 : Nat) : Int)) = (j : Int) + 1 from by omega]
        go_wp2_with (at_builtin; refine wpList_append_lies _ rfl _ _ 36 rfl (w1.heap.size + 1) 29 i0 (tv 0 0 0) 3 24 Try.underlying36 hi hz0 hz1 hz2 rfl (by decide) (.slice A' xs.length cap') xs.length ((flatG xs).map (Value.int .i64)) rfl (Hown.out.alloc _) ⟨wr.heap.size, 0, none⟩ 1 1 [.int .i64 12, .int .i64 0, .int .i64 0] rfl rfl ?c1 ?c2 (by decide) ?c3 ?c4 ?c5 (wr.heap.size + 1) ?c6 ?_)
        case c1 => exact cells_at _ (heap_top _ _ rfl)
        case c2 => intro v hv; simp at hv; rcases hv with rfl | rfl <;> rfl
        case c3 => unfold maxLen; omega
        case c4 => omega
        case c5 => simp; omega
        case c6 => simp
        intro g cap2 w3 hown' hgrow hat hlt3
        have hrow : ∀ kk, (Value.slice A' xs.length cap').ownBlock = some kk → w1.heap.size + 1 ≤ kk := fun kk hk => (Hown.out.lt kk hk).1
        have hg' : g ≠ w1.heap.size := by
          rcases hat with h | h
          · have := hrow g h; omega
          · omega
        have hb3 := Lib.hid ((hgrow.block w1.heap.size (by simp; omega) (fun e => by have := hrow _ e.symm; omega)).trans ((Below.heap_alloc wr _ _ (by omega)).trans Hb2.out))
        have hz3 := Lib.hid ((hgrow.block w.heap.size (by simp; omega) (fun e => by have := hrow _ e.symm; omega)).trans ((Below.heap_alloc wr _ _ (by omega)).trans Hz.out))
        have B3 : Below w.heap.size w w3 := Below.grown (by go_grown) hgrow (by simp; omega) (fun kk hk => by have := hrow kk hk; omega)
        have ho' := Lib.hid hown'
        have Hg' := Lib.hid hg'
        have k3 := cell_of_row w3 w1.heap.size 1 _ _ _ hb3.out
        have k3f := frozen_of_row w3 w1.heap.size 1 _ _ hb3.out
        clear hown' hgrow hat hrow hg'
        go_wp2
        go_roundg j
        case measure => have := Hkg.out; omega
        case rel => exact ⟨j, xs ++ [(12, 0, 0)], by go_num, rfl, by simp; omega, MadeC.push hb3.out ho'.out (by omega) Hg'.out, (Below.heap_setCell _ _ _ _ (by dsimp only; omega)).trans hz3.out, B3.setCell (by dsimp only; omega) _⟩
      · have hk00 : k = 0 := by omega
        subst hk00
        have q0 := cell_of_row wr w.heap.size 0 _ _ _ Hz.out
        have q1 := cell_of_row wr w.heap.size 1 _ _ _ Hz.out
        have qf := fun o => frozen_of_row wr w.heap.size o _ _ Hz.out
        have zwr : w.heap.size < wr.heap.size := by omega
        go_wp2
        refine bodyPost_ret (by simp [results, Try.results17, go_sem, q0, q1]) rfl ⟨1, A', cap', xs, rfl, by omega, ?_, ?_⟩
        · refine FlatIn.mono (lo := w1.heap.size + 1) (hi := wr.heap.size) ?_ (by omega) (by go_size) (Nat.le_refl _)
          repeat (first | (with_reducible refine FlatIn.setFar ?_ (by dsimp only; omega) _) | (with_reducible refine FlatIn.drew ?_))
          exact FlatIn.of_owns Hown.out rfl
        · go_grown

end Go.Proofs.Ytlihnipbdckmkaa
