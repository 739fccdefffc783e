/- EqualUpToPhase of the reference. -/
import Derived.Test.YtcmkkjdleihjfaaEupS
import Derived.Test.YtcmkkjdleihjfaaLoc
namespace Go.Proofs.Ytcmkkjdleihjfaa
open Go.RowKit

theorem up_len {r c r' c' : Int} {xs ys : List D5} (h1 : mOk r c xs = true) (h2 : mOk r' c' ys = true) (hr : r = r') (hc : c = c') : xs.length = ys.length := by
  subst hr hc
  obtain ⟨R, C, rfl, rfl, _, _, _, _, _, _, hl, _⟩ := dims h1
  obtain ⟨R', C', e1, e2, _, _, _, _, _, _, hl', _⟩ := dims h2
  have e1 : R = R' := by omega
  have e2 : C = C' := by omega
  subst e1 e2
  rw [hl, hl']
theorem l1TurnK_any (x : Q4) (k : Nat) (w : World) (hk : k < 8) (hx : okQ x = true) :
    Calls Try.prog 136 #[rv x.1 x.2.1 x.2.2.1 x.2.2.2, .int .i64 (k : Int)] w fun r w' => r = .returned (rv (turnN k x).1 (turnN k x).2.1 (turnN k x).2.2.1 (turnN k x).2.2.2) ∧ Below w.heap.size w w' := by
  have h := l1Turn_any x.1 x.2.1 x.2.2.1 x.2.2.2 (k : Int) w hx
  rw [omN_small hk] at h
  exact h

set_option maxRecDepth 100000 in
set_option maxHeartbeats 4000000 in
theorem l6Turned_any (r c : Int) (A : Option Addr) (cap : Nat) (xs : List D5) (r' c' : Int) (A' : Option Addr) (cap' : Nat) (ys : List D5) (k : Nat) (w : World) (hk : k < 8) (h1 : mOk r c xs = true) (h2 : mOk r' c' ys = true) (hx : Hid (FlatAt w A (flatD xs))) (hy : Hid (FlatAt w A' (flatD ys))) :
    Calls Try.prog 122 #[mv r c A xs.length cap, mv r' c' A' ys.length cap', .int .i64 (k : Int)] w fun e w' => e = .returned (.bool (upB r c xs r' c' ys k)) ∧ Below w.heap.size w w' := by
  have heq := fun (a b c d e a' b' c' d' e' : Int) (W : World) => run_neD a b c d e a' b' c' d' e' W
  have hgd := fun (x y : Operand) (xs ys : Array Value) (W : World) => run_gdD .neq 52 x y xs ys W rfl
  by_cases hr : r = r'
  · by_cases hc : c = c'
    · have Hl := Lib.hid (up_len h1 h2 hr hc)
      have Hall : Hid (ys.all dOkD = true) := by
        obtain ⟨_, _, _, _, _, _, _, _, _, _, _, h⟩ := dims h2
        exact h
      have hlen : ys.length ≤ 1024 := by
        obtain ⟨R, C, _, _, _, hR, _, hC, _, _, h, _⟩ := dims h2
        rw [h]
        exact Nat.mul_le_mul hR hC
      subst hr hc
      have hli : (xs.length : Int) = (ys.length : Int) := by have := Hl.out; omega
      have Hup : Hid (upB r c xs r c ys k = eqDs xs (ys.map (turnD k))) := by show upB _ _ _ _ _ _ _ = _; simp [upB, meqB]
      obtain ⟨zs, hzs⟩ : ∃ zs, zs = ys.map (turnD k) := ⟨_, rfl⟩
      rw [← hzs] at Hup
      rw [Hup.out]
      have Hzs := Lib.hid hzs
      have Hzl : Hid (zs.length = ys.length) := by show _ = _; rw [hzs, List.length_map]
      clear h1 h2 hzs Hup
      go_enter Try.func122, Try.ntmps122
      go_wp2_with fail
      go_loopw [24] (fun i wr => ∃ n : Nat, i = .int .i64 n ∧ n ≤ ys.length ∧ xs.take n = zs.take n ∧ Below (w.heap.size + 2) ((w.alloc (.cells #[.int .i64 r, .int .i64 c, .slice A xs.length cap] 67)).alloc (.cells #[.int .i64 r, .int .i64 c, .slice A' ys.length cap'] 67)) wr) (fun i _ => ys.length - (intOf i).toNat)
      case atStart => exact ⟨0, rfl, Nat.zero_le _, rfl, Below.refl _ _⟩
      case round =>
        obtain ⟨n, rfl, hn, htk, hb0⟩ := hrel
        have Htk := Lib.hid htk
        have Hb0 := Lib.hid hb0
        have hb : Below w.heap.size w wr := Below.trans (by go_grown) (hb0.mono (by omega))
        have zb := hb0.size
        simp only [World.size_alloc] at zb
        have p0 : ∀ o, wr.cell? ⟨w.heap.size, o, none⟩ = _ := fun o => (hb0.cell (p := ⟨w.heap.size, o, none⟩) (by simp)).trans (cell_of_row _ w.heap.size o _ _ _ ((Below.heap_alloc _ _ _ (by go_size)).trans (heap_top _ _ rfl)))
        clear htk hb0
        by_cases hlt : n < ys.length
        · obtain ⟨x, hkx⟩ : ∃ x, xs[n]? = some x := ⟨_, List.getElem?_eq_getElem (by have := Hl.out; omega)⟩
          obtain ⟨y, hky⟩ : ∃ y, ys[n]? = some y := ⟨_, List.getElem?_eq_getElem hlt⟩
          have hkz : zs[n]? = some (turnD k y) := by rw [Hzs.out, List.getElem?_map, hky]; rfl
          have Hst := Lib.hid (take_eq_step hkx hkz Htk.out)
          have Hyd := Lib.hid (dOkD_parts (List.all_eq_true.1 Hall.out y (List.mem_of_getElem? hky))).1
          obtain ⟨b, off, rfl, hbl, hcx⟩ := hx.out.five hkx
          obtain ⟨b', off', rfl, hbl', hcy⟩ := hy.out.five hky
          clear hkx hky hkz
          obtain ⟨c0', c1', c2', c3', c4'⟩ := hcy.below hb hbl'
          have Hcx := Lib.hid (hcx.below hb hbl)
          have hki : (n : Int) < (xs.length : Int) := by omega
          have hki' : (n : Int) < (ys.length : Int) := by omega
          have hbw : b < wr.heap.size := Nat.lt_of_lt_of_le hbl hb.size
          clear hcx hcy
          go_wp2_with fail
          refine (l1TurnK_any y.1 k _ hk Hyd.out).mono ?_
          rintro e w3 ⟨rfl, b3⟩
          have z3 := b3.size
          simp only [World.size_alloc] at z3
          have B3 : Below w.heap.size w w3 := Below.chain hb (by go_grown) b3 (by go_size)
          have B30 := Below.chain Hb0.out (Below.alloc (Below.refl _ _) (by omega) _) b3 (by simp; omega)
          obtain ⟨x0, x1, x2, x3, x4⟩ := (Hcx.out.below (Below.alloc (Below.refl wr.heap.size wr) (Nat.le_refl _) _) hbw).below b3 (by go_size)
          have y0 := (b3.cell (p := ⟨wr.heap.size, 0, none⟩) (by go_size)).trans (by go_simp : _ = some (.int .i64 y.1.1))
          have y1 := (b3.cell (p := ⟨wr.heap.size, 1, none⟩) (by go_size)).trans (by go_simp : _ = some (.int .i64 y.1.2.1))
          have y2 := (b3.cell (p := ⟨wr.heap.size, 2, none⟩) (by go_size)).trans (by go_simp : _ = some (.int .i64 y.1.2.2.1))
          have y3 := (b3.cell (p := ⟨wr.heap.size, 3, none⟩) (by go_size)).trans (by go_simp : _ = some (.int .i64 y.1.2.2.2))
          have y4 := (b3.cell (p := ⟨wr.heap.size, 4, none⟩) (by go_size)).trans (by go_simp : _ = some (.int .i64 y.2))
          have yf := fun o => (b3.frozen (p := ⟨wr.heap.size, o, none⟩) (by go_size)).trans (by go_simp : _ = false)
          have p3 : ∀ o, w3.cell? ⟨w.heap.size, o, none⟩ = _ := fun o => ((b3.cell (p := ⟨w.heap.size, o, none⟩) (by simp; omega)).trans (World.cell?_alloc_lt _ _ _ (by show w.heap.size < wr.heap.size; omega))).trans (p0 o)
          have nb : ¬ b = wr.heap.size := by omega
          have nw : ¬ w.heap.size = wr.heap.size := by omega
          clear b3 c0' c1' c2' c3' c4' p0
          go_wp2_with fail
          generalize hW7 : (((w3.setCell ⟨wr.heap.size, 0, none⟩ (.int .i64 (turnN k y.1).1)).setCell ⟨wr.heap.size, 1, none⟩ (.int .i64 (turnN k y.1).2.1)).setCell ⟨wr.heap.size, 2, none⟩ (.int .i64 (turnN k y.1).2.2.1)).setCell ⟨wr.heap.size, 3, none⟩ (.int .i64 (turnN k y.1).2.2.2) = w7
          have a0 : w7.cell? ⟨b, off + n * 5, none⟩ = some (.int .i64 x.1.1) := by rw [← hW7]; clear hW7; go_simp
          have a1 : w7.cell? ⟨b, off + n * 5 + 1, none⟩ = some (.int .i64 x.1.2.1) := by rw [← hW7]; clear hW7; go_simp
          have a2 : w7.cell? ⟨b, off + n * 5 + 2, none⟩ = some (.int .i64 x.1.2.2.1) := by rw [← hW7]; clear hW7; go_simp
          have a3 : w7.cell? ⟨b, off + n * 5 + 3, none⟩ = some (.int .i64 x.1.2.2.2) := by rw [← hW7]; clear hW7; go_simp
          have a4 : w7.cell? ⟨b, off + n * 5 + 4, none⟩ = some (.int .i64 x.2) := by rw [← hW7]; clear hW7; go_simp
          have d0 : w7.cell? ⟨wr.heap.size, 0, none⟩ = some (.int .i64 (turnN k y.1).1) := by rw [← hW7]; clear hW7; go_simp
          have d1 : w7.cell? ⟨wr.heap.size, 1, none⟩ = some (.int .i64 (turnN k y.1).2.1) := by rw [← hW7]; clear hW7; go_simp
          have d2 : w7.cell? ⟨wr.heap.size, 2, none⟩ = some (.int .i64 (turnN k y.1).2.2.1) := by rw [← hW7]; clear hW7; go_simp
          have d3 : w7.cell? ⟨wr.heap.size, 3, none⟩ = some (.int .i64 (turnN k y.1).2.2.2) := by rw [← hW7]; clear hW7; go_simp
          have d4 : w7.cell? ⟨wr.heap.size, 4, none⟩ = some (.int .i64 y.2) := by rw [← hW7]; clear hW7; go_simp
          have p7 : ∀ o, w7.cell? ⟨w.heap.size, o, none⟩ = _ := fun o => (by rw [← hW7]; clear hW7; go_simp : w7.cell? ⟨w.heap.size, o, none⟩ = w3.cell? ⟨w.heap.size, o, none⟩).trans (p3 o)
          have B7 : Below w.heap.size w w7 := by rw [← hW7]; clear hW7; go_grown
          have B70 : Below (w.heap.size + 2) ((w.alloc (.cells #[.int .i64 r, .int .i64 c, .slice (some ⟨b, off, none⟩) xs.length cap] 67)).alloc (.cells #[.int .i64 r, .int .i64 c, .slice (some ⟨b', off', none⟩) ys.length cap'] 67)) w7 := by
            rw [← hW7]
            repeat (refine Below.setCell ?_ (by dsimp only; omega) _)
            exact B30
          clear hW7 x0 x1 x2 x3 x4 y0 y1 y2 y3 y4 yf p3 B30 B3
          rcases hd : dEqD x (turnD k y) with _ | _
          · have hd' : dEq x.1.1 x.1.2.1 x.1.2.2.1 x.1.2.2.2 x.2 (turnN k y.1).1 (turnN k y.1).2.1 (turnN k y.1).2.2.1 (turnN k y.1).2.2.2 y.2 = false := hd
            go_quiet (fail)
            go_wp2
            go_ret
            refine ⟨ret_bool ?_, Below.drewN B7 nq⟩
            symm
            rw [eqDs, decide_eq_false_iff_not]
            intro h
            have := Hst.out.1 (by rw [h])
            rw [← dEqD_iff, hd] at this
            cases this
          · have hd' : dEq x.1.1 x.1.2.1 x.1.2.2.1 x.1.2.2.2 x.2 (turnN k y.1).1 (turnN k y.1).2.1 (turnN k y.1).2.2.1 (turnN k y.1).2.2.2 y.2 = true := hd
            go_quiet (fail)
            go_wp2
            go_roundw
            case rel => exact ⟨n + 1, by go_num, by omega, Hst.out.2 (dEqD_iff.1 hd), Below.drewN B70 nq⟩
            case measure => simp [intOf]; omega
        · go_wp2
          go_ret
          refine ⟨ret_bool ?_, hb⟩
          have h := Htk.out
          rw [List.take_of_length_le (by have := Hl.out; omega), List.take_of_length_le (by have := Hzl.out; omega)] at h
          simp [eqDs, h]
    · go_enter Try.func122, Try.ntmps122
      go_wp2
      go_ret
      refine ⟨ret_bool (by simp [upB, meqB, hc]), ?_⟩
      go_grown
  · go_enter Try.func122, Try.ntmps122
    go_wp2
    go_ret
    refine ⟨ret_bool (by simp [upB, meqB, hr]), ?_⟩
    go_grown
end Go.Proofs.Ytcmkkjdleihjfaa
