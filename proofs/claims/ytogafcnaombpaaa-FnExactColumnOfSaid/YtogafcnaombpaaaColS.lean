/- ColumnOf of the reference. -/
import Derived.Test.YtogafcnaombpaaaColM
import Derived.Test.YtogafcnaombpaaaKeep
import Derived.Deep.RegionLaw
namespace Go.Proofs.Ytogafcnaombpaaa
open Go.RowKit

theorem cellsM1_step {i : Nat} (cell : Nat → Nat → D5) : cellsM 1 (i + 1) cell = cellsM 1 i cell ++ [cell i 0] := by
  have h := cellsM_step (C := 1) (i := i) (j := 0) cell (by omega)
  rw [Nat.add_zero, Nat.mul_one] at h
  exact h

set_option maxRecDepth 100000 in
set_option maxHeartbeats 4000000 in
theorem l3Column_any (R C k : Nat) (A : Option Addr) (cap : Nat) (xs : List D5) (w : World) (hR : R ≤ 32) (hC : C ≤ 32) (hk : k < C) (hl : xs.length = R * C) (hx : Hid (FlatAt w A (flatD xs))) :
    Calls Try.prog 79 #[mv (R : Int) (C : Int) A xs.length cap, .int .i64 (k : Int)] w fun e w' => ∃ (A' : Option Addr) (cap' : Nat), e = .returned (mv R 1 A' (colL R C k xs).length cap') ∧ FlatIn w' A' (flatD (colL R C k xs)) w.heap.size w'.heap.size ∧ Below w.heap.size w w' := by
  have Hl := Lib.hid hl
  clear hl
  obtain ⟨i0, hi, hz0, hz1, hz2⟩ := info_parts Try.infoDyadic
  go_enter Try.func79, Try.ntmps79
  go_wp2_with fail
  generalize hW0 : ((w.alloc (.cells #[.int .i64 (R : Int), .int .i64 (C : Int), .slice A xs.length cap] 29)).alloc (.cells #[.int .i64 0, .int .i64 0, .slice none 0 0] 29)).alloc (.cells #[.int .i64 (R : Int), .int .i64 1, .slice none 0 0] 29) = W0
  have B0 : Below w.heap.size w W0 := by rw [← hW0]; go_grown
  have HP : Hid (W0.heap[w.heap.size]? = some (.cells #[.int .i64 (R : Int), .int .i64 (C : Int), .slice A xs.length cap] 29 (0, 0))) := by
    rw [← hW0]
    exact (Below.heap_alloc _ _ _ (by go_size)).trans ((Below.heap_alloc _ _ _ (by go_size)).trans (heap_top _ _ rfl))
  have HZ : Hid (Zero3 W0 (w.heap.size + 1)) := by
    rw [← hW0]
    exact (Below.heap_alloc _ _ _ (by go_size)).trans (heap_top _ _ (by simp))
  have HM : Hid (Made W0 (w.heap.size + 1 + 1) (w.heap.size + 1 + 1 + 1) R 1 []) := by
    rw [← hW0]
    exact ⟨none, 0, heap_top _ _ (by simp), World.ownsRow_nil _ _ _ _⟩
  have HS : Hid (W0.heap.size = w.heap.size + 1 + 1 + 1) := by rw [← hW0]; show _ = _; simp
  clear hW0
  go_loopg [6] R (fun gk s wr => ∃ i : Nat, s = .int .i64 i ∧ i + gk = R ∧ Made wr (w.heap.size + 1 + 1) (w.heap.size + 1 + 1 + 1) R 1 (cellsM 1 i fun i _ => atD C xs i k) ∧ Zero3 wr (w.heap.size + 1) ∧ wr.heap[w.heap.size]? = some (.cells #[.int .i64 (R : Int), .int .i64 (C : Int), .slice A xs.length cap] 29 (0, 0)) ∧ Below w.heap.size w wr)
  case atStart => exact ⟨0, rfl, by omega, HM.out, HZ.out, HP.out, B0⟩
  case round =>
    obtain ⟨i, rfl, hig, hm, hz, hp, hb⟩ := hrel
    have Hp := Lib.hid hp
    have Hz := Lib.hid hz
    have zb := hb.size
    have zb2 : w.heap.size + 1 + 1 < wr.heap.size := by
      obtain ⟨_, _, h, _⟩ := hm
      exact (Array.getElem?_eq_some_iff.1 h).1
    have p0 := cell_of_row wr w.heap.size 0 _ _ _ hp
    have p1 := cell_of_row wr w.heap.size 1 _ _ _ hp
    have p2 := cell_of_row wr w.heap.size 2 _ _ _ hp
    obtain ⟨A', cap', hb2, hown⟩ := hm
    have k0 := cell_of_row wr (w.heap.size + 1 + 1) 0 _ _ _ hb2
    have k1 := cell_of_row wr (w.heap.size + 1 + 1) 1 _ _ _ hb2
    have k2 := cell_of_row wr (w.heap.size + 1 + 1) 2 _ _ _ hb2
    have kf := frozen_of_row wr (w.heap.size + 1 + 1) 2 _ _ hb2
    have Hb2 := Lib.hid hb2
    have Hown := Lib.hid hown
    clear hp hz hb2 hown
    by_cases hlt : i < R
    · obtain ⟨x, hx0⟩ : ∃ x, x = atD C xs i k := ⟨_, rfl⟩
      obtain ⟨n, hn⟩ : ∃ n : Nat, n = i * C + k := ⟨_, rfl⟩
      have hxn : xs[n]? = some x := by rw [hn, hx0]; exact atD_some Hl.out hlt hk
      have hm1 : (0 : Int) ≤ (i : Int) * (C : Int) := Int.mul_nonneg (by omega) (by omega)
      have hm2 : (i : Int) * (C : Int) ≤ 1024 := by
        have h := Nat.mul_le_mul (show i ≤ 32 by omega) hC
        have e : ((i * C : Nat) : Int) = (i : Int) * (C : Int) := Int.natCast_mul i C
        omega
      have hni : (i : Int) * (C : Int) + (k : Int) = (n : Int) := by rw [hn, Int.natCast_add, Int.natCast_mul]
      have hlti : (n : Int) < (xs.length : Int) := by have := (List.getElem?_eq_some_iff.1 hxn).1; omega
      obtain ⟨b, off, rfl, hbl, hc⟩ := hx.out.five hxn
      obtain ⟨c0, c1, c2, c3, c4⟩ := hc.below hb hbl
      have Hx0 := Lib.hid hx0
      have hn0 : (0 : Int) ≤ (n : Int) := by omega
      have hw3 : IntKind.wrap .i64 (n : Int) = (n : Int) := IntWalk.i64_in _ (by omega)
      have hw1 : IntKind.wrap .i64 ((i : Int) * (C : Int)) = (i : Int) * (C : Int) := IntWalk.i64_in _ (by omega)
      have hw2 : IntKind.wrap .i64 ((i : Int) * (C : Int) + (k : Int)) = (n : Int) := by rw [hni]; exact IntWalk.i64_in _ (by omega)
      have Hc := Lib.hid hc
      clear hc hxn hn hx0
      go_wp2_with fail
      have HF : Hid (Five w b (off + n * 5) x) := Hc.out
      have hlen : (cellsM 1 i fun i _ => atD C xs i k).length ≤ 1024 := by rw [cellsM_len]; omega
      have K0 := Lib.hid (KS.refl hb (show w.heap.size < wr.heap.size by omega) zb2 k2)
      have Hrow : Hid (∀ kk, (Value.slice A' (cellsM 1 i fun i _ => atD C xs i k).length cap').ownBlock = some kk → w.heap.size ≤ kk ∧ w.heap.size ≠ kk ∧ w.heap.size + 1 + 1 ≠ kk) := fun kk hk => by have := (Hown.out.lt kk hk).1; omega
      go_region_law (first | (refine step_append_lies _ rfl _ _ _ rfl (w.heap.size + 1 + 1 + 1) 45 i0 (dv 0 0 0 0 0) 5 40 Try.underlying27 hi hz0 hz1 hz2 rfl (by decide) (.slice A' (cellsM 1 i fun i _ => atD C xs i k).length cap') (cellsM 1 i fun i _ => atD C xs i k).length ((flatD (cellsM 1 i fun i _ => atD C xs i k)).map (Value.int .i64)) rfl (by first | exact Hown.out.alloc _ | exact World.ownsRow.drew (Hown.out.alloc _) | exact (World.ownsRow.drew Hown.out).alloc _) _ 1 1 [.int .i64 x.1.1, .int .i64 x.1.2.1, .int .i64 x.1.2.2.1, .int .i64 x.1.2.2.2, .int .i64 x.2] rfl rfl (World.news_of_block (heap_top _ _ (by simp))) (by intro u hu; simp at hu; rcases hu with rfl | rfl | rfl | rfl | rfl <;> rfl) (by decide) (by unfold maxLen; omega) (by omega) (by simp; omega) _ rfl ?_; intro g cap2 w3 hown' hgrow hat hlt3; have K3 : KS w wr w.heap.size (w.heap.size + 1 + 1) w3 := (by first | exact KS.grown (KS.alloc K0.out _) hgrow Hrow.out | exact KS.grown (KS.drew (KS.alloc K0.out _)) hgrow Hrow.out); have hb3 := Lib.hid ((hgrow.block (w.heap.size + 1 + 1) (by simp; omega) (fun e => by have := (Hown.out.lt _ e.symm).1; omega)).trans ((Below.heap_alloc wr _ _ zb2).trans Hb2.out)); have hz3 := Lib.hid ((hgrow.block (w.heap.size + 1) (by simp; omega) (fun e => by have := (Hown.out.lt _ e.symm).1; omega)).trans ((Below.heap_alloc wr _ _ (by omega)).trans Hz.out)); have K3' := Lib.hid K3; have ho' := Lib.hid hown'; clear K3 hown' hgrow; have k3 := cell_of_row w3 (w.heap.size + 1 + 1) 2 _ _ _ hb3.out; have k3f := frozen_of_row w3 (w.heap.size + 1 + 1) 2 _ _ hb3.out))
      all_goals
        go_wp2
        go_roundg (R - (i + 1))
        case measure => omega
        case rel =>
          refine ⟨i + 1, by go_num, by omega, ?_, (Below.heap_setCell _ _ _ _ (by dsimp only; omega)).trans hz3.out, (Below.heap_setCell _ _ _ _ (by dsimp only; omega)).trans (K3'.out.same.trans Hp.out), K3'.out.below.setCell (by dsimp only; omega) _⟩
          rw [cellsM1_step]
          show Made _ _ _ _ _ (_ ++ [atD C xs i k])
          rw [← Hx0.out]
          exact Made.push hb3.out ho'.out (by omega)
    · have hiR : i = R := by omega
      subst hiR
      have q0 := cell_of_row wr (w.heap.size + 1) 0 _ _ _ Hz.out
      have q1 := cell_of_row wr (w.heap.size + 1) 1 _ _ _ Hz.out
      have q2 := cell_of_row wr (w.heap.size + 1) 2 _ _ _ Hz.out
      have qf := fun o => frozen_of_row wr (w.heap.size + 1) o _ _ Hz.out
      go_wp2
      have hcl : colL i C k xs = cellsM 1 i fun i _ => atD C xs i k := by unfold colL; rw [Nat.mul_one]
      rw [hcl]
      refine bodyPost_ret (by simp [results, Try.results79, go_sem, q0, q1, q2]) rfl ⟨A', cap', rfl, ?_, ?_⟩
      · refine FlatIn.mono (lo := w.heap.size + 1 + 1 + 1) (hi := wr.heap.size) ?_ (by omega) (by go_size) (Nat.le_refl _)
        repeat (refine FlatIn.setFar ?_ (by dsimp only; omega) _)
        exact FlatIn.of_owns Hown.out rfl
      · go_grown
set_option maxRecDepth 100000 in
set_option maxHeartbeats 4000000 in
theorem specCol_any (r c k : Int) (A : Option Addr) (cap : Nat) (xs : List D5) (w : World) (hx : Hid (FlatAt w A (flatD xs))) :
    Calls Try.prog 38 #[mv r c A xs.length cap, .int .i64 k] w fun e w' => MRes e w w' (colOk r c xs k) r 1 (colL r.toNat c.toNat k.toNat xs) := by
  rcases hok : mOk r c xs with _ | _
  · have Hno : Hid (colOk r c xs k = false) := by show colOk r c xs k = false; simp [colOk, hok]
    go_enter Try.func38, Try.ntmps38
    go_wp2_with fail
    refine (l3Good_any r c A cap xs _ ((hx.out.alloc _).alloc _)).mono ?_
    rintro e w1 ⟨rfl, b1⟩
    obtain ⟨b1c, b1f⟩ := bcell b1
    have z1 := b1.size
    try simp only [World.size_alloc] at z1
    have B1 : Below w.heap.size w w1 := Below.chain (Below.refl _ _) (by go_grown) b1 (by go_size)
    have y10 : w.heap.size < w1.heap.size := by omega
    have y11 : w.heap.size + 1 < w1.heap.size := by omega
    rw [hok]
    go_wp2
    refine bodyPost_ret (by simp [results, Try.results38, go_sem, b1c]) rfl (MRes.no Hno.out ?_)
    go_grown
  obtain ⟨R, C, rfl, rfl, hR1, hR, hC1, hC, hdr, hdc, hlen, hall⟩ := dims hok
  have Hlen := Lib.hid hlen
  have Hok := Lib.hid hok
  clear hlen hall hdc hdr
  rcases hk : inB k 0 ((C : Int) - 1) with _ | _
  · have Hno : Hid (colOk R C xs k = false) := by show colOk R C xs k = false; simp [colOk, hk]
    go_enter Try.func38, Try.ntmps38
    go_wp2_with fail
    refine (l3Good_any R C A cap xs _ ((hx.out.alloc _).alloc _)).mono ?_
    rintro e w1 ⟨rfl, b1⟩
    obtain ⟨b1c, b1f⟩ := bcell b1
    have z1 := b1.size
    try simp only [World.size_alloc] at z1
    have B1 : Below w.heap.size w w1 := Below.chain (Below.refl _ _) (by go_grown) b1 (by go_size)
    have y10 : w.heap.size < w1.heap.size := by omega
    have y11 : w.heap.size + 1 < w1.heap.size := by omega
    rw [Hok.out]
    go_wp2_with fail
    refine (l1In_any _ _ _ _).mono ?_
    rintro e w' ⟨rfl, rfl⟩
    rw [hk]
    go_wp2
    refine bodyPost_ret (by simp [results, Try.results38, go_sem, b1c]) rfl (MRes.no Hno.out ?_)
    go_grown
  obtain ⟨hk1, hk2⟩ := inB_t.1 hk
  obtain ⟨m, rfl⟩ := Int.eq_ofNat_of_zero_le hk1
  have hm : m < C := by omega
  have Hyes : Hid (colOk R C xs m = true) := by show colOk R C xs m = true; simp [colOk, Hok.out, hk]
  have Hk := Lib.hid hk
  clear hk
  go_enter Try.func38, Try.ntmps38
  go_wp2_with fail
  refine (l3Good_any R C A cap xs _ ((hx.out.alloc _).alloc _)).mono ?_
  rintro e w1 ⟨rfl, b1⟩
  obtain ⟨b1c, b1f⟩ := bcell b1
  have z1 := b1.size
  try simp only [World.size_alloc] at z1
  have B1 : Below w.heap.size w w1 := Below.chain (Below.refl _ _) (by go_grown) b1 (by go_size)
  have y10 : w.heap.size < w1.heap.size := by omega
  have y11 : w.heap.size + 1 < w1.heap.size := by omega
  rw [Hok.out]
  go_wp2_with fail
  refine (l1In_any _ _ _ _).mono ?_
  rintro e w' ⟨rfl, rfl⟩
  rw [Hk.out]
  go_wp2_with fail
  refine (l3Column_any R C m A cap xs _ hR hC hm Hlen.out (by refine hx.out.below B1)).mono ?_
  rintro e w2 ⟨A', cap', rfl, hf, b2⟩
  have Hf := Lib.hid hf
  have z2 := b2.size
  have C2 := Below.chain b1 (by go_grown) b2 (by go_size)
  have B2 : Below w.heap.size w w2 := B1.trans (b2.mono B1.size)
  obtain ⟨C2c, C2f⟩ := bcellB C2
  have y20 : w.heap.size < w2.heap.size := by omega
  have y22 : w.heap.size + 1 < w2.heap.size := by omega
  clear hf b2
  go_wp2
  refine bodyPost_ret (by simp [results, Try.results38, go_sem, C2c]) rfl (MRes.yes (A := A') (cap := cap') Hyes.out ?_ ?_)
  · refine FlatIn.mono (lo := w1.heap.size) (hi := w2.heap.size) ?_ (by omega) (by go_size) (Nat.le_refl _)
    repeat (refine FlatIn.setFar ?_ (by dsimp only; omega) _)
    exact Hf.out
  · go_grown
theorem colBd (r c k : Int) (xs : List D5) (R C : Nat) (h : mOk r c xs = true → R ≤ 32) : (if colOk r c xs k then colL R C k.toNat xs else []).length ≤ 1048576 := by
  split
  · next h1 =>
    have := h (by simp [colOk] at h1; exact h1.1)
    rw [colL, cellsM_len]
    omega
  · simp
theorem mOk_R {r c : Int} {xs : List D5} (h : mOk r c xs = true) : r.toNat ≤ 32 := by
  obtain ⟨R, C, rfl, rfl, _, hR, _⟩ := dims h
  exact hR
end Go.Proofs.Ytogafcnaombpaaa
