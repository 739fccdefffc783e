/- FoldCircuit, of the reference: how often gates are repeated. -/
import Derived.Test.YtgpocbhlcmohmaaDoorFoldI
namespace Go.Proofs.YtgpocbhlcmohmaaDoor
open Go.RowKit

theorem piece_at {xs : List G3} {L K : Nat} {x : G3} (hK : K < L) (h : xs[K]? = some x) : (xs.take L)[K]? = some x := by
  rw [List.getElem?_take, if_pos hK]
  exact h
theorem piece_at2 {xs : List G3} {p L K : Nat} {x : G3} (hK : K < L) (h : xs[p + K]? = some x) : ((xs.drop p).take L)[K]? = some x := by
  rw [List.getElem?_take, if_pos hK, List.getElem?_drop]
  exact h

set_option maxRecDepth 100000 in
set_option maxHeartbeats 1000000 in
theorem l5Times_any (A : Option Addr) (cap : Nat) (xs : List G3) (L : Nat) (w : World) (hn : xs.length ≤ 400) (hL2 : L ≤ xs.length) (hx : Hid (FlatAt w A (flatG xs))) :
    Calls Tryd.prog 67 #[.slice A xs.length cap, .int .i64 (L : Int)] w fun e w' => e = .returned (.int .i64 (times xs L : Int)) ∧ Below w.heap.size w w' := by
  have heq := fun (a b c a' b' c' : Int) (W : World) => run_neG a b c a' b' c' W
  have hgd := fun (x y : Operand) (xs ys : Array Value) (W : World) => run_gdG .neq 41 x y xs ys W rfl
  go_enter Tryd.func67, Tryd.ntmps67
  go_wp2_with fail
  go_loopg [5] 98 (fun gk s wr => ∃ n : Nat, s = .int .i64 n ∧ 1 ≤ n ∧ n + gk = 99 ∧ n * L ≤ xs.length ∧ timesF xs L (99 - n) n = times xs L ∧ Below w.heap.size w wr)
  case atStart => exact ⟨1, rfl, Nat.le_refl _, rfl, by omega, rfl, Below.refl _ _⟩
  case round =>
    obtain ⟨n, rfl, h1, h99, hnl, ht, hb⟩ := hrel
    have zb := hb.size
    have hn99 : n ≤ 99 := by omega
    obtain ⟨N, hN⟩ : ∃ N, N = n + 1 := ⟨_, rfl⟩
    obtain ⟨m, hm⟩ : ∃ m, m = N * L := ⟨_, rfl⟩
    obtain ⟨p, hp⟩ : ∃ p, p = n * L := ⟨_, rfl⟩
    have hmp : m = p + L := by rw [hm, hN, hp, Nat.succ_mul]
    have hm8 : m ≤ 800 := by omega
    have hp8 : p ≤ 800 := by omega
    have HL := Lib.hid (show L ≤ 400 by omega)
    have HN := Lib.hid hN
    have Hg := Lib.hid h99
    have Ht := Lib.hid ht
    have Hmp := Lib.hid hmp
    have ww1 : IntKind.wrap .i64 ((n : Int) + 1) = (N : Int) := by rw [show (n : Int) + 1 = (N : Int) by omega]; exact IntWalk.i64_in _ (by omega)
    have vv1 : RowKit.wrap64 ((n : Int) + 1) = (N : Int) := by rw [show (n : Int) + 1 = (N : Int) by omega]; exact IntWalk.wrap64_in _ (by omega)
    have Hp := Lib.hid hp
    have Hm := Lib.hid hm
    have eNL : (N : Int) * (L : Int) = (m : Int) := by rw [hm]; simp
    have enL : (n : Int) * (L : Int) = (p : Int) := by rw [hp]; simp
    clear ht h99 hN hm hp hmp hnl
    have ww2 : IntKind.wrap .i64 ((N : Int) * (L : Int)) = (m : Int) := by rw [eNL]; clear eNL enL; exact IntWalk.i64_in _ (by omega)
    have vv2 : RowKit.wrap64 ((N : Int) * (L : Int)) = (m : Int) := by rw [eNL]; clear eNL enL ww2; exact IntWalk.wrap64_in _ (by omega)
    have ww3 : IntKind.wrap .i64 ((n : Int) * (L : Int)) = (p : Int) := by rw [enL]; clear eNL enL ww2 vv2; exact IntWalk.i64_in _ (by omega)
    clear eNL enL
    by_cases hc1 : m ≤ xs.length
    · have hc1i : (m : Int) ≤ (xs.length : Int) := Int.ofNat_le.2 hc1
      by_cases hc2 : n < 99
      · have hc2i : (n : Int) < 99 := by have := hc2; clear ww2 vv2 ww3; omega
        have Hc : Hid ((n + 1) * L ≤ xs.length) := by show _ ≤ _; rw [← HN.out, ← Hm.out]; exact hc1
        have He : Hid (pieceB xs n L = true → timesF xs L (99 - (n + 1)) (n + 1) = times xs L) := fun h => by rw [← times_on hc2 ⟨Hc.out, h⟩, Ht.out]
        have He2 : Hid (pieceB xs n L = false → n = times xs L) := fun h => by rw [← Ht.out, times_end (by rw [h]; simp)]
        obtain ⟨wo, rfl⟩ : ∃ wo : World, wo = wr := ⟨_, rfl⟩
        go_wp2_with fail
        go_loopg [6] L (fun gj k wi => ∃ K : Nat, k = .int .i64 K ∧ K + gj = L ∧ (xs.take L).take K = ((xs.drop p).take L).take K ∧ Below wo.heap.size wo wi)
        case atStart => exact ⟨0, rfl, by omega, by simp, Below.refl _ _⟩
        case round =>
          obtain ⟨K, rfl, hKg, htk, hbi⟩ := hrel
          have zbi := hbi.size
          have hKL : K ≤ L := by clear ww2 vv2 ww3; omega
          have HKg := Lib.hid hKg
          have Htk := Lib.hid htk
          clear htk hKg
          by_cases hlt : K < L
          · have hlti : (K : Int) < (L : Int) := Int.ofNat_lt.2 hlt
            obtain ⟨pk, hpk⟩ : ∃ pk, pk = p + K := ⟨_, rfl⟩
            have hpx : pk < xs.length := by have := Hmp.out; clear ww2 vv2 ww3; omega
            have hKx : K < xs.length := by clear ww2 vv2 ww3; omega
            have ww4 : IntKind.wrap .i64 ((p : Int) + (K : Int)) = (pk : Int) := by clear ww2 vv2 ww3; rw [show (p : Int) + (K : Int) = (pk : Int) by omega]; exact IntWalk.i64_in _ (by omega)
            obtain ⟨x, hkx⟩ : ∃ x, xs[K]? = some x := ⟨_, List.getElem?_eq_getElem hKx⟩
            obtain ⟨y, hky⟩ : ∃ y, xs[pk]? = some y := ⟨_, List.getElem?_eq_getElem hpx⟩
            obtain ⟨b, off, rfl, hbl, hc⟩ := hx.out.three hkx
            obtain ⟨b', off', hA, hbl', hc'⟩ := hx.out.three hky
            obtain ⟨rfl, rfl⟩ : b = b' ∧ off = off' := by cases hA; exact ⟨rfl, rfl⟩
            have Hst := Lib.hid (take_eq_stepG (piece_at hlt hkx) (piece_at2 hlt (by rw [← hpk]; exact hky)) Htk.out)
            clear hkx hky hA hpk
            obtain ⟨c0, c1, c2⟩ := hc.below (hb.trans (hbi.mono zb)) hbl
            obtain ⟨c0', c1', c2'⟩ := hc'.below (hb.trans (hbi.mono zb)) hbl'
            clear hc hc'
            have hki : (K : Int) < (xs.length : Int) := Int.ofNat_lt.2 hKx
            have hki' : (pk : Int) < (xs.length : Int) := Int.ofNat_lt.2 hpx
            rcases hd : gEqG y x with _ | _
            · have hd' : gEq y.1 y.2.1 y.2.2 x.1 x.2.1 x.2.2 = false := hd
              go_wp2_with fail
              go_quiet (fail)
              go_wp2
              go_ret
              clear ww1 vv1 ww2 vv2 ww3 ww4
              rw [← He2.out ?_]
              · exact ⟨rfl, Below.drewNG (hb.trans (hbi.mono zb)) nq⟩
              · rw [pieceB, eqGs, decide_eq_false_iff_not, ← Hp.out]
                intro h
                have h2 := Hst.out.1 (by rw [h])
                rw [h2, gEqG_iff.2 rfl] at hd
                cases hd
            · have hd' : gEq y.1 y.2.1 y.2.2 x.1 x.2.1 x.2.2 = true := hd
              go_wp2_with fail
              go_quiet (fail)
              go_wp2
              go_roundg (L - (K + 1))
              all_goals clear ww1 vv1 ww2 vv2 ww3 ww4
              case measure => have := HKg.out; omega
              case rel => exact ⟨K + 1, by go_num, by omega, Hst.out.2 (gEqG_iff.1 hd).symm, Below.drewNG hbi nq⟩
          · have hlti : ¬ (K : Int) < (L : Int) := fun h => hlt (Int.ofNat_lt.1 h)
            have hpc : pieceB xs n L = true := by
              have h := Htk.out
              have hKe : K = L := by clear ww2 vv2 ww3; omega
              rw [hKe, List.take_take, Nat.min_self, List.take_take, Nat.min_self] at h
              rw [pieceB, eqGs, decide_eq_true_iff, ← Hp.out]
              exact h
            go_wp2
            go_roundg (99 - N)
            all_goals clear ww1 vv1 ww2 vv2 ww3
            case measure => have := HN.out; have := Hg.out; omega
            case rel => have hN' := HN.out; exact ⟨N, rfl, by omega, by omega, by rw [hN']; exact Hc.out, by rw [hN']; exact He.out hpc, hb.trans (hbi.mono zb)⟩
      · have hc2i : ¬ (n : Int) < 99 := by have := hc2; clear ww2 vv2 ww3; omega
        have He2 : Hid (n = times xs L) := by show _ = _; rw [← Ht.out, show 99 - n = 0 by clear ww2 vv2 ww3; omega]; rfl
        go_wp2
        go_ret
        rw [← He2.out]
        exact ⟨rfl, hb⟩
    · have hc1i : ¬ (m : Int) ≤ (xs.length : Int) := fun h => hc1 (Int.ofNat_le.1 h)
      have He2 : Hid (n = times xs L) := by show _ = _; rw [← Ht.out, times_end (by rw [← HN.out, ← Hm.out]; exact fun h => hc1 h.1)]
      go_wp2
      go_ret
      rw [← He2.out]
      exact ⟨rfl, hb⟩
end Go.Proofs.YtgpocbhlcmohmaaDoor
