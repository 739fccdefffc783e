/- GateMatrix of the reference. -/
import Derived.Test.YtlihnipbdckmkaaGmCe5
import Derived.Test.YtlihnipbdckmkaaGmM
import Derived.Test.YtlihnipbdckmkaaKeep
import Derived.Deep.RegionLaw
import Derived.Deep.AppendLies
import Derived.Deep.LoopGhost
namespace Go.Proofs.Ytlihnipbdckmkaa
open Go.RowKit

set_option maxRecDepth 100000 in
set_option maxHeartbeats 8000000 in
theorem l6Gate_any (N K P Q sa sb D : Nat) (w : World) (hN1 : 1 ≤ N) (hN5 : N ≤ 5) (h1 : 1 ≤ K) (h12 : K ≤ 12) (hsa : sa < 5) (hsb : sb < 5) (hne : 9 ≤ K → K ≤ 11 → sa ≠ sb) (ha : (N : Int) - 1 - (P : Int) = (sa : Int)) (hb : (N : Int) - 1 - (Q : Int) = (sb : Int)) (hD : D = 2 ^ N) :
    Calls Try.prog 26 #[.int .i64 (N : Int), tv (K : Int) (P : Int) (Q : Int)] w fun e w' => ∃ (A' : Option Addr) (cap' : Nat), e = .returned (mv D D A' (cellsM D (D * D) (gmD K sa sb)).length cap') ∧ FlatIn w' A' (flatD (cellsM D (D * D) (gmD K sa sb))) w.heap.size w'.heap.size ∧ Below w.heap.size w w' := by
  have hDl := gmN_le hN1 hN5
  rw [← hD] at hDl
  have hw : RowKit.wrap64 ((2 : Int) ^ N) = (D : Int) := by
    have e : ((2 : Int) ^ N) = (D : Int) := by rw [hD]; simp
    rw [e]
    exact IntWalk.wrap64_in _ (by omega)
  have HC : Hid (∀ (i j : Nat) (W : World), i < D → j < D → Calls Try.prog 60 #[.int .i64 (N : Int), tv (K : Int) (P : Int) (Q : Int), .int .i64 (i : Int), .int .i64 (j : Int)] W fun e w' => e = .returned (dvD (gmD K sa sb i j)) ∧ Below W.heap.size W w') :=
    fun i j W hi hj => l6Cell_any N K P Q sa sb i j W h1 h12 hN5 (by omega) (by omega) hsa hsb hne ha hb
  have hD32 : D ≤ 32 := hDl.2
  clear hne ha hb hD hDl h1 h12 hsa hsb
  obtain ⟨i0, hi, hz0, hz1, hz2⟩ := info_parts Try.infoDyadic
  go_enter Try.func26, Try.ntmps26
  go_wp2_with fail
  generalize hW0 : ((w.alloc (.cells #[.int .i64 (K : Int), .int .i64 (P : Int), .int .i64 (Q : Int)] 29)).alloc (.cells #[.int .i64 0, .int .i64 0, .slice none 0 0] 26)).alloc (.cells #[.int .i64 (D : Int), .int .i64 (D : Int), .slice none 0 0] 26) = W0
  have B0 : Below w.heap.size w W0 := by rw [← hW0]; go_grown
  have HP : Hid (LocG W0 w.heap.size K P Q) := by
    rw [← hW0]
    exact (Below.heap_alloc _ _ _ (by go_size)).trans ((Below.heap_alloc _ _ _ (by go_size)).trans (heap_top _ _ rfl))
  have HZ : Hid (Zero3 W0 (w.heap.size + 1)) := by
    rw [← hW0]
    exact (Below.heap_alloc _ _ _ (by go_size)).trans (heap_top _ _ (by simp))
  have HM : Hid (Made W0 (w.heap.size + 1 + 1) (w.heap.size + 1 + 1 + 1) D D []) := by
    rw [← hW0]
    exact ⟨none, 0, heap_top _ _ (by simp), World.ownsRow_nil _ _ _ _⟩
  clear hW0
  rw [hw]
  go_loopg [7] D (fun gk s wr => ∃ i : Nat, s = .int .i64 i ∧ i + gk = D ∧ Made wr (w.heap.size + 1 + 1) (w.heap.size + 1 + 1 + 1) D D (cellsM D (i * D) (gmD K sa sb)) ∧ Zero3 wr (w.heap.size + 1) ∧ LocG wr w.heap.size K P Q ∧ Below w.heap.size w wr)
  case atStart => exact ⟨0, rfl, by omega, by rw [Nat.zero_mul]; exact HM.out, HZ.out, HP.out, B0⟩
  case round =>
    obtain ⟨i, rfl, hig, hmj, hzj, hpj, hbj⟩ := hrel
    have Hmj := Lib.hid hmj
    have Hzj := Lib.hid hzj
    have Hpj := Lib.hid hpj
    clear hmj hzj hpj
    by_cases hilt : i < D
    · go_wp2_with fail
      go_loopg [8] D (fun gk s wr => ∃ j : Nat, s = .int .i64 j ∧ j + gk = D ∧ Made wr (w.heap.size + 1 + 1) (w.heap.size + 1 + 1 + 1) D D (cellsM D (i * D + j) (gmD K sa sb)) ∧ Zero3 wr (w.heap.size + 1) ∧ LocG wr w.heap.size K P Q ∧ Below w.heap.size w wr)
      case atStart => exact ⟨0, rfl, by omega, Hmj.out, Hzj.out, Hpj.out, hbj⟩
      case round =>
        clear hbj
        obtain ⟨j, rfl, hjg, hm, hz, hp, hb⟩ := hrel
        have Hp := Lib.hid hp
        have Hz := Lib.hid hz
        have zb := hb.size
        have zb2 : w.heap.size + 1 + 1 < wr.heap.size := by
          obtain ⟨_, _, h, _⟩ := hm
          exact (Array.getElem?_eq_some_iff.1 h).1
        have p0 := cell_of_row wr w.heap.size 0 _ _ _ hp
        have p1 := cell_of_row wr w.heap.size 1 _ _ _ hp
        have p2 := cell_of_row wr w.heap.size 2 _ _ _ hp
        have Hm := Lib.hid hm
        obtain ⟨A', cap', hb2, hown⟩ := hm
        have k2 := cell_of_row wr (w.heap.size + 1 + 1) 2 _ _ _ hb2
        have kf := frozen_of_row wr (w.heap.size + 1 + 1) 2 _ _ hb2
        have Hb2 := Lib.hid hb2
        have Hown := Lib.hid hown
        clear hp hz hb2 hown
        by_cases hlt : j < D
        · obtain ⟨x, hx0⟩ : ∃ x, x = gmD K sa sb i j := ⟨_, rfl⟩
          have Hx0 := Lib.hid hx0
          have HCx : Hid (∀ W, Calls Try.prog 60 #[.int .i64 (N : Int), tv (K : Int) (P : Int) (Q : Int), .int .i64 (i : Int), .int .i64 (j : Int)] W fun e w' => e = .returned (dvD x) ∧ Below W.heap.size W w') := fun W => by rw [hx0]; exact HC.out i j W hilt hlt
          clear hx0
          go_wp2_with fail
          have hlen : (cellsM D (i * D + j) (gmD K sa sb)).length ≤ 1024 := by
            rw [cellsM_len]
            have := Nat.mul_le_mul (show i ≤ 31 by omega) hD32
            omega
          have K0 := Lib.hid (KS.refl hb (show w.heap.size < wr.heap.size by omega) zb2 k2)
          have Hrow : Hid (∀ kk, (Value.slice A' (cellsM D (i * D + j) (gmD K sa sb)).length cap').ownBlock = some kk → w.heap.size ≤ kk ∧ w.heap.size ≠ kk ∧ w.heap.size + 1 + 1 ≠ kk ∧ w.heap.size + 1 ≠ kk) := fun kk hk => by have := (Hown.out.lt kk hk).1; omega
          go_region_law (first | (go_simp; go_at_call 60; refine (HCx.out _).mono ?_; rintro e wA ⟨rfl, bA⟩; have bA' : Below wr.heap.size wr wA := (by first | exact bA | exact ⟨bA.os, bA.tape, bA.output, bA.size, bA.block⟩); have HownA := Lib.hid (owns_below Hown.out bA'); have hbA := Lib.hid ((bA'.block _ zb2).trans Hb2.out); have hzA := Lib.hid ((bA'.block (w.heap.size + 1) (by omega)).trans Hz.out); have kA2 := cell_of_row wA (w.heap.size + 1 + 1) 2 _ _ _ hbA.out; have KA := Lib.hid (KS.call K0.out bA'); have zA := bA'.size; have zA2 : w.heap.size + 1 + 1 < wA.heap.size := (by omega); clear bA bA') | (refine step_append_lies _ rfl _ _ _ rfl (w.heap.size + 1 + 1 + 1) 60 i0 (dv 0 0 0 0 0) 5 40 Try.underlying24 hi hz0 hz1 hz2 rfl (by decide) (.slice A' (cellsM D (i * D + j) (gmD K sa sb)).length cap') (cellsM D (i * D + j) (gmD K sa sb)).length ((flatD (cellsM D (i * D + j) (gmD K sa sb))).map (Value.int .i64)) rfl (by first | exact HownA.out.alloc _ | exact World.ownsRow.drew (HownA.out.alloc _) | exact (World.ownsRow.drew HownA.out).alloc _) _ 1 1 [.int .i64 x.1.1, .int .i64 x.1.2.1, .int .i64 x.1.2.2.1, .int .i64 x.1.2.2.2, .int .i64 x.2] rfl rfl (World.news_of_block (heap_top _ _ (by simp))) (by intro u hu; simp at hu; rcases hu with rfl | rfl | rfl | rfl | rfl <;> rfl) (by decide) (by unfold maxLen; omega) (by omega) (by simp; omega) _ rfl ?_; intro g cap2 w3 hown' hgrow hat hlt3; have K3 : KS w wr w.heap.size (w.heap.size + 1 + 1) w3 := (by first | exact KS.grown (KS.alloc KA.out _) hgrow (fun kk hk => ⟨(Hrow.out kk hk).1, (Hrow.out kk hk).2.1, (Hrow.out kk hk).2.2.1⟩) | exact KS.grown (KS.drew (KS.alloc KA.out _)) hgrow (fun kk hk => ⟨(Hrow.out kk hk).1, (Hrow.out kk hk).2.1, (Hrow.out kk hk).2.2.1⟩)); have hb3 := Lib.hid ((hgrow.block (w.heap.size + 1 + 1) (by simp; omega) (fun e => (Hrow.out _ e.symm).2.2.1 rfl)).trans ((Below.heap_alloc wA _ _ (by omega)).trans hbA.out)); have hz3 := Lib.hid ((hgrow.block (w.heap.size + 1) (by simp; omega) (fun e => (Hrow.out _ e.symm).2.2.2 rfl)).trans ((Below.heap_alloc wA _ _ (by omega)).trans hzA.out)); have K3' := Lib.hid K3; have ho' := Lib.hid hown'; clear K3 hown' hgrow; have k3 := cell_of_row w3 (w.heap.size + 1 + 1) 2 _ _ _ hb3.out; have k3f := frozen_of_row w3 (w.heap.size + 1 + 1) 2 _ _ hb3.out))
          all_goals
            go_wp2
            go_roundg (D - (j + 1))
            case measure => omega
            case rel =>
              refine ⟨j + 1, by go_num, by omega, ?_, (Below.heap_setCell _ _ _ _ (by dsimp only; omega)).trans hz3.out, (Below.heap_setCell _ _ _ _ (by dsimp only; omega)).trans (K3'.out.same.trans Hp.out), K3'.out.below.setCell (by dsimp only; omega) _⟩
              rw [← Nat.add_assoc, cellsM_step _ hlt]
              rw [← Hx0.out]
              exact Made.push hb3.out ho'.out (by omega)
        · have hjD : j = D := by omega
          subst hjD
          go_wp2
          go_roundg (j - (i + 1))
          case measure => omega
          case rel => exact ⟨i + 1, by go_num, by omega, by rw [Nat.succ_mul]; exact Hm.out, Hz.out, Hp.out, hb⟩
    · have hiD : i = D := by omega
      subst hiD
      obtain ⟨A', cap', hb2, hown⟩ := Hmj.out
      have k0 := cell_of_row wr (w.heap.size + 1 + 1) 0 _ _ _ hb2
      have k1 := cell_of_row wr (w.heap.size + 1 + 1) 1 _ _ _ hb2
      have k2 := cell_of_row wr (w.heap.size + 1 + 1) 2 _ _ _ hb2
      have zb2 : w.heap.size + 1 + 1 < wr.heap.size := (Array.getElem?_eq_some_iff.1 hb2).1
      have Hown := Lib.hid hown
      have q0 := cell_of_row wr (w.heap.size + 1) 0 _ _ _ Hzj.out
      have q1 := cell_of_row wr (w.heap.size + 1) 1 _ _ _ Hzj.out
      have q2 := cell_of_row wr (w.heap.size + 1) 2 _ _ _ Hzj.out
      have qf := fun o => frozen_of_row wr (w.heap.size + 1) o _ _ Hzj.out
      clear hb2 hown
      go_wp2
      refine bodyPost_ret (by simp [results, Try.results26, go_sem, q0, q1, q2]) rfl ⟨A', cap', rfl, ?_, ?_⟩
      · refine FlatIn.mono (lo := w.heap.size + 1 + 1 + 1) (hi := wr.heap.size) ?_ (by omega) (by go_size) (Nat.le_refl _)
        repeat (refine FlatIn.setFar ?_ (by dsimp only; omega) _)
        exact FlatIn.of_owns Hown.out rfl
      · go_grown

set_option maxRecDepth 100000 in
set_option maxHeartbeats 4000000 in
theorem specGm_any (n k a b : Int) (w : World) :
    Calls Try.prog 5 #[.int .i64 n, tv k a b] w fun e w' => MRes e w w' (validB n k a b) (gmN n) (gmN n) (gmL n k a b) := by
  rcases hok : validB n k a b with _ | _
  · rcases hn : inB n 1 5 with _ | _
    · go_enter Try.func5, Try.ntmps5
      go_wp2_with fail
      refine (l1In_any _ _ _ _).mono ?_
      rintro e w' ⟨rfl, rfl⟩
      rw [hn]
      go_wp2
      refine bodyPost_ret (by simp [results, Try.results5, go_sem]) rfl (MRes.no rfl ?_)
      go_grown
    · have hg : gateB n k a b = false := by rw [validB, hn, Bool.true_and] at hok; exact hok
      have hn' := inB_t.1 hn
      have Hn := Lib.hid hn
      clear hn
      go_enter Try.func5, Try.ntmps5
      go_wp2_with fail
      refine (l1In_any _ _ _ _).mono ?_
      rintro e w' ⟨rfl, rfl⟩
      rw [Hn.out]
      go_wp2_with fail
      refine (l4Gate_any _ _ _ _ _ hn'.1 hn'.2).mono ?_
      rintro e w1 ⟨rfl, b1⟩
      obtain ⟨b1c, b1f⟩ := bcell b1
      have z1 := b1.size
      try simp only [World.size_alloc] at z1
      have B1 : Below w.heap.size w w1 := Below.chain (Below.refl _ _) (by go_grown) b1 (by go_size)
      have y10 : w.heap.size < w1.heap.size := by omega
      have y11 : w.heap.size + 1 < w1.heap.size := by omega
      rw [hg]
      go_wp2
      refine bodyPost_ret (by simp [results, Try.results5, go_sem, b1c]) rfl (MRes.no rfl ?_)
      go_grown
  obtain ⟨N, K, P, Q, sa, sb, rfl, rfl, rfl, rfl, hN1, hN5, hK1, hK12, hsa, hsb, hsa5, hsb5, hne⟩ := valid_parts hok
  obtain ⟨hn, hg⟩ : inB (N : Int) 1 5 = true ∧ gateB (N : Int) K P Q = true := by simpa [validB] using hok
  have hn' := inB_t.1 hn
  obtain ⟨D, hD⟩ : ∃ D : Nat, D = 2 ^ N := ⟨_, rfl⟩
  have eN : gmN (N : Int) = D := by rw [hD]; simp [gmN]
  have eL : gmL (N : Int) (K : Int) (P : Int) (Q : Int) = cellsM D (D * D) (gmD K sa sb) := by rw [gmL, eN, hsa, hsb]; simp
  rw [eN, eL]
  have HG : Hid (∀ W, Calls Try.prog 26 #[.int .i64 (N : Int), tv (K : Int) (P : Int) (Q : Int)] W fun e w' => ∃ (A' : Option Addr) (cap' : Nat), e = .returned (mv D D A' (cellsM D (D * D) (gmD K sa sb)).length cap') ∧ FlatIn w' A' (flatD (cellsM D (D * D) (gmD K sa sb))) W.heap.size w'.heap.size ∧ Below W.heap.size W w') :=
    fun W => l6Gate_any N K P Q sa sb D W hN1 hN5 hK1 hK12 hsa5 hsb5 hne hsa hsb hD
  obtain ⟨L, hL⟩ : ∃ L, L = cellsM D (D * D) (gmD K sa sb) := ⟨_, rfl⟩
  rw [← hL] at HG ⊢
  have Hn := Lib.hid hn
  have Hg := Lib.hid hg
  clear hok hn hg eN eL hD hL hK1 hK12 hsa hsb hsa5 hsb5 hne hN1 hN5
  go_enter Try.func5, Try.ntmps5
  go_wp2_with fail
  refine (l1In_any _ _ _ _).mono ?_
  rintro e w' ⟨rfl, rfl⟩
  rw [Hn.out]
  go_wp2_with fail
  refine (l4Gate_any _ _ _ _ _ hn'.1 hn'.2).mono ?_
  rintro e w1 ⟨rfl, b1⟩
  obtain ⟨b1c, b1f⟩ := bcell b1
  have z1 := b1.size
  try simp only [World.size_alloc] at z1
  have B1 : Below w.heap.size w w1 := Below.chain (Below.refl _ _) (by go_grown) b1 (by go_size)
  have y10 : w.heap.size < w1.heap.size := by omega
  have y11 : w.heap.size + 1 < w1.heap.size := by omega
  rw [Hg.out]
  go_wp2_with fail
  refine (HG.out _).mono ?_
  rintro e w2 ⟨A', cap', rfl, hf, b2⟩
  have Hf := Lib.hid hf
  have z2 := b2.size
  have C2 := Below.chain b1 (by go_grown) b2 (by go_size)
  have B2 : Below w.heap.size w w2 := B1.trans (b2.mono B1.size)
  obtain ⟨C2c, C2f⟩ := bcellB C2
  have y20 : w.heap.size < w2.heap.size := by omega
  have y21 : w.heap.size + 1 < w2.heap.size := by omega
  clear hf b2
  go_wp2
  refine bodyPost_ret (by simp [results, Try.results5, go_sem, C2c]) rfl (MRes.yes (A := A') (cap := cap') rfl ?_ ?_)
  · refine FlatIn.mono (lo := w1.heap.size) (hi := w2.heap.size) ?_ (by omega) (by go_size) (Nat.le_refl _)
    repeat (refine FlatIn.setFar ?_ (by dsimp only; omega) _)
    exact Hf.out
  · go_grown
end Go.Proofs.Ytlihnipbdckmkaa
