/- Adjoint of the reference. -/
import Derived.Test.YtogafcnaombpaaaAdjM
import Derived.Test.YtogafcnaombpaaaKeep
import Derived.Deep.RegionLaw
namespace Go.Proofs.Ytogafcnaombpaaa
open Go.RowKit

set_option maxRecDepth 100000 in
set_option maxHeartbeats 8000000 in
theorem l3Adj_any (R C : Nat) (A : Option Addr) (cap : Nat) (xs : List D5) (w : World) (hR : R ≤ 32) (hC : C ≤ 32) (hl : xs.length = R * C) (hall : xs.all dOkD = true) (hx : Hid (FlatAt w A (flatD xs))) :
    Calls Try.prog 83 #[mv (R : Int) (C : Int) A xs.length cap] w fun e w' => ∃ (A' : Option Addr) (cap' : Nat), e = .returned (mv C R A' (adjL R C xs).length cap') ∧ FlatIn w' A' (flatD (adjL R C xs)) w.heap.size w'.heap.size ∧ Below w.heap.size w w' := by
  have Hl := Lib.hid hl
  have Hall := Lib.hid hall
  clear hl hall
  obtain ⟨i0, hi, hz0, hz1, hz2⟩ := info_parts Try.infoDyadic
  go_enter Try.func83, Try.ntmps83
  go_wp2_with fail
  generalize hW0 : ((w.alloc (.cells #[.int .i64 (R : Int), .int .i64 (C : Int), .slice A xs.length cap] 29)).alloc (.cells #[.int .i64 0, .int .i64 0, .slice none 0 0] 29)).alloc (.cells #[.int .i64 (C : Int), .int .i64 (R : Int), .slice none 0 0] 29) = W0
  have B0 : Below w.heap.size w W0 := by rw [← hW0]; go_grown
  have HP : Hid (W0.heap[w.heap.size]? = some (.cells #[.int .i64 (R : Int), .int .i64 (C : Int), .slice A xs.length cap] 29 (0, 0))) := by
    rw [← hW0]
    exact (Below.heap_alloc _ _ _ (by go_size)).trans ((Below.heap_alloc _ _ _ (by go_size)).trans (heap_top _ _ rfl))
  have HZ : Hid (Zero3 W0 (w.heap.size + 1)) := by
    rw [← hW0]
    exact (Below.heap_alloc _ _ _ (by go_size)).trans (heap_top _ _ (by simp))
  have HM : Hid (Made W0 (w.heap.size + 1 + 1) (w.heap.size + 1 + 1 + 1) C R []) := by
    rw [← hW0]
    exact ⟨none, 0, heap_top _ _ (by simp), World.ownsRow_nil _ _ _ _⟩
  clear hW0
  go_loopg [4] C (fun gk s wr => ∃ j : Nat, s = .int .i64 j ∧ j + gk = C ∧ Made wr (w.heap.size + 1 + 1) (w.heap.size + 1 + 1 + 1) C R (cellsM R (j * R) fun i j => conjD (atD C xs j i)) ∧ Zero3 wr (w.heap.size + 1) ∧ wr.heap[w.heap.size]? = some (.cells #[.int .i64 (R : Int), .int .i64 (C : Int), .slice A xs.length cap] 29 (0, 0)) ∧ Below w.heap.size w wr)
  case atStart => exact ⟨0, rfl, by omega, by rw [Nat.zero_mul]; exact HM.out, HZ.out, HP.out, B0⟩
  case round =>
    obtain ⟨j, rfl, hjg, hmj, hzj, hpj, hbj⟩ := hrel
    have Hmj := Lib.hid hmj
    have Hzj := Lib.hid hzj
    have Hpj := Lib.hid hpj
    have p0j := cell_of_row wr w.heap.size 0 _ _ _ hpj
    have p1j := cell_of_row wr w.heap.size 1 _ _ _ hpj
    clear hmj hzj hpj
    by_cases hjlt : j < C
    · go_wp2_with fail
      go_loopg [5] R (fun gk s wr => ∃ i : Nat, s = .int .i64 i ∧ i + gk = R ∧ Made wr (w.heap.size + 1 + 1) (w.heap.size + 1 + 1 + 1) C R (cellsM R (j * R + i) fun i j => conjD (atD C xs j i)) ∧ Zero3 wr (w.heap.size + 1) ∧ wr.heap[w.heap.size]? = some (.cells #[.int .i64 (R : Int), .int .i64 (C : Int), .slice A xs.length cap] 29 (0, 0)) ∧ Below w.heap.size w wr)
      case atStart => exact ⟨0, rfl, by omega, Hmj.out, Hzj.out, Hpj.out, hbj⟩
      case round =>
        clear p0j p1j hbj
        obtain ⟨i, rfl, hig, hm, hz, hp, hb⟩ := hrel
        have Hp := Lib.hid hp
        have Hz := Lib.hid hz
        have zb := hb.size
        have zb2 : w.heap.size + 1 + 1 < wr.heap.size := by
          obtain ⟨_, _, h, _⟩ := hm
          exact (Array.getElem?_eq_some_iff.1 h).1
        have p0 := cell_of_row wr w.heap.size 0 _ _ _ hp
        have p1 := cell_of_row wr w.heap.size 1 _ _ _ hp
        have p2 := cell_of_row wr w.heap.size 2 _ _ _ hp
        have Hm := Lib.hid hm
        obtain ⟨A', cap', hb2, hown⟩ := hm
        have k2 := cell_of_row wr (w.heap.size + 1 + 1) 2 _ _ _ hb2
        have kf := frozen_of_row wr (w.heap.size + 1 + 1) 2 _ _ hb2
        have Hb2 := Lib.hid hb2
        have Hown := Lib.hid hown
        clear hp hz hb2 hown
        by_cases hlt : i < R
        · obtain ⟨x, hx0⟩ : ∃ x, x = atD C xs i j := ⟨_, rfl⟩
          obtain ⟨n, hn⟩ : ∃ n : Nat, n = i * C + j := ⟨_, rfl⟩
          have hxn : xs[n]? = some x := by rw [hn, hx0]; exact atD_some Hl.out hlt hjlt
          have hm1 : (0 : Int) ≤ (i : Int) * (C : Int) := Int.mul_nonneg (by omega) (by omega)
          have hm2 : (i : Int) * (C : Int) ≤ 1024 := by
            have h := Nat.mul_le_mul (show i ≤ 32 by omega) hC
            have e : ((i * C : Nat) : Int) = (i : Int) * (C : Int) := Int.natCast_mul i C
            omega
          have hni : (i : Int) * (C : Int) + (j : Int) = (n : Int) := by rw [hn, Int.natCast_add, Int.natCast_mul]
          have hlti : (n : Int) < (xs.length : Int) := by have := (List.getElem?_eq_some_iff.1 hxn).1; omega
          have Hrx : Hid (rOk x.1.1 x.1.2.1 x.1.2.2.1 x.1.2.2.2 = true) := by rw [hx0]; exact dOk_r (all_at Hl.out hlt hjlt Hall.out)
          obtain ⟨b, off, rfl, hbl, hc⟩ := hx.out.five hxn
          obtain ⟨c0, c1, c2, c3, c4⟩ := hc.below hb hbl
          have Hx0 := Lib.hid hx0
          have hn0 : (0 : Int) ≤ (n : Int) := by omega
          have hw3 : IntKind.wrap .i64 (n : Int) = (n : Int) := IntWalk.i64_in _ (by omega)
          have hw1 : IntKind.wrap .i64 ((i : Int) * (C : Int)) = (i : Int) * (C : Int) := IntWalk.i64_in _ (by omega)
          have hw2 : IntKind.wrap .i64 ((i : Int) * (C : Int) + (j : Int)) = (n : Int) := by rw [hni]; exact IntWalk.i64_in _ (by omega)
          clear hc hxn hn hx0
          go_wp2_with fail
          have hlen : (cellsM R (j * R + i) fun i j => conjD (atD C xs j i)).length ≤ 1024 := by
            rw [cellsM_len]
            have := Nat.mul_le_mul (show j ≤ 31 by omega) hR
            omega
          have K0 := Lib.hid (KS.refl hb (show w.heap.size < wr.heap.size by omega) zb2 k2)
          have Hrow : Hid (∀ kk, (Value.slice A' (cellsM R (j * R + i) fun i j => conjD (atD C xs j i)).length cap').ownBlock = some kk → w.heap.size ≤ kk ∧ w.heap.size ≠ kk ∧ w.heap.size + 1 + 1 ≠ kk ∧ w.heap.size + 1 ≠ kk) := fun kk hk => by have := (Hown.out.lt kk hk).1; omega
          go_region_law (first | (go_simp; go_at_call 75; refine (l2Conj_any _ _ _ _ _ _ Hrx.out).mono ?_; rintro e wA ⟨rfl, bA⟩; have bA' : Below wr.heap.size wr wA := (by first | exact bA | exact ⟨bA.os, bA.tape, bA.output, bA.size, bA.block⟩); have HownA := Lib.hid (owns_below Hown.out bA'); have hbA := Lib.hid ((bA'.block _ zb2).trans Hb2.out); have hzA := Lib.hid ((bA'.block (w.heap.size + 1) (by omega)).trans Hz.out); have kA2 := cell_of_row wA (w.heap.size + 1 + 1) 2 _ _ _ hbA.out; have KA := Lib.hid (KS.call K0.out bA'); have zA := bA'.size; have zA2 : w.heap.size + 1 + 1 < wA.heap.size := (by omega); clear bA bA') | (refine step_append_lies _ rfl _ _ _ rfl (w.heap.size + 1 + 1 + 1) 45 i0 (dv 0 0 0 0 0) 5 40 Try.underlying27 hi hz0 hz1 hz2 rfl (by decide) (.slice A' (cellsM R (j * R + i) fun i j => conjD (atD C xs j i)).length cap') (cellsM R (j * R + i) fun i j => conjD (atD C xs j i)).length ((flatD (cellsM R (j * R + i) fun i j => conjD (atD C xs j i))).map (Value.int .i64)) rfl (by first | exact HownA.out.alloc _ | exact World.ownsRow.drew (HownA.out.alloc _) | exact (World.ownsRow.drew HownA.out).alloc _) _ 1 1 [.int .i64 (conjD x).1.1, .int .i64 (conjD x).1.2.1, .int .i64 (conjD x).1.2.2.1, .int .i64 (conjD x).1.2.2.2, .int .i64 (conjD x).2] rfl rfl (World.news_of_block (heap_top _ _ (by simp))) (by intro u hu; simp at hu; rcases hu with rfl | rfl | rfl | rfl | rfl <;> rfl) (by decide) (by unfold maxLen; omega) (by omega) (by simp; omega) _ rfl ?_; intro g cap2 w3 hown' hgrow hat hlt3; have K3 : KS w wr w.heap.size (w.heap.size + 1 + 1) w3 := (by first | exact KS.grown (KS.alloc KA.out _) hgrow (fun kk hk => ⟨(Hrow.out kk hk).1, (Hrow.out kk hk).2.1, (Hrow.out kk hk).2.2.1⟩) | exact KS.grown (KS.drew (KS.alloc KA.out _)) hgrow (fun kk hk => ⟨(Hrow.out kk hk).1, (Hrow.out kk hk).2.1, (Hrow.out kk hk).2.2.1⟩)); have hb3 := Lib.hid ((hgrow.block (w.heap.size + 1 + 1) (by simp; omega) (fun e => (Hrow.out _ e.symm).2.2.1 rfl)).trans ((Below.heap_alloc wA _ _ (by omega)).trans hbA.out)); have hz3 := Lib.hid ((hgrow.block (w.heap.size + 1) (by simp; omega) (fun e => (Hrow.out _ e.symm).2.2.2 rfl)).trans ((Below.heap_alloc wA _ _ (by omega)).trans hzA.out)); have K3' := Lib.hid K3; have ho' := Lib.hid hown'; clear K3 hown' hgrow; have k3 := cell_of_row w3 (w.heap.size + 1 + 1) 2 _ _ _ hb3.out; have k3f := frozen_of_row w3 (w.heap.size + 1 + 1) 2 _ _ hb3.out))
          all_goals
            go_wp2
            go_roundg (R - (i + 1))
            case measure => omega
            case rel =>
              refine ⟨i + 1, by go_num, by omega, ?_, (Below.heap_setCell _ _ _ _ (by dsimp only; omega)).trans hz3.out, (Below.heap_setCell _ _ _ _ (by dsimp only; omega)).trans (K3'.out.same.trans Hp.out), K3'.out.below.setCell (by dsimp only; omega) _⟩
              rw [← Nat.add_assoc, cellsM_step _ hlt]
              show Made _ _ _ _ _ (_ ++ [conjD (atD C xs i j)])
              rw [← Hx0.out]
              exact Made.push hb3.out ho'.out (by omega)
        · have hiR : i = R := by omega
          subst hiR
          go_wp2
          go_roundg (C - (j + 1))
          case measure => omega
          case rel => exact ⟨j + 1, by go_num, by omega, by rw [Nat.succ_mul]; exact Hm.out, Hz.out, Hp.out, hb⟩
    · have hjC : j = C := by omega
      subst hjC
      obtain ⟨A', cap', hb2, hown⟩ := Hmj.out
      have k0 := cell_of_row wr (w.heap.size + 1 + 1) 0 _ _ _ hb2
      have k1 := cell_of_row wr (w.heap.size + 1 + 1) 1 _ _ _ hb2
      have k2 := cell_of_row wr (w.heap.size + 1 + 1) 2 _ _ _ hb2
      have zb2 : w.heap.size + 1 + 1 < wr.heap.size := (Array.getElem?_eq_some_iff.1 hb2).1
      have Hown := Lib.hid hown
      have q0 := cell_of_row wr (w.heap.size + 1) 0 _ _ _ Hzj.out
      have q1 := cell_of_row wr (w.heap.size + 1) 1 _ _ _ Hzj.out
      have q2 := cell_of_row wr (w.heap.size + 1) 2 _ _ _ Hzj.out
      have qf := fun o => frozen_of_row wr (w.heap.size + 1) o _ _ Hzj.out
      clear hb2 hown
      go_wp2
      have hal : adjL R j xs = cellsM R (j * R) fun i k => conjD (atD j xs k i) := rfl
      rw [hal]
      refine bodyPost_ret (by simp [results, Try.results83, go_sem, q0, q1, q2]) rfl ⟨A', cap', rfl, ?_, ?_⟩
      · refine FlatIn.mono (lo := w.heap.size + 1 + 1 + 1) (hi := wr.heap.size) ?_ (by omega) (by go_size) (Nat.le_refl _)
        repeat (refine FlatIn.setFar ?_ (by dsimp only; omega) _)
        exact FlatIn.of_owns Hown.out rfl
      · go_grown
end Go.Proofs.Ytogafcnaombpaaa
