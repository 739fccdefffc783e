/- FoldCircuit, of the reference. -/
import Derived.Test.YtgpocbhlcmohmaaDoorFoldS
namespace Go.Proofs.YtgpocbhlcmohmaaDoor
open Go.RowKit

set_option maxRecDepth 100000 in
set_option maxHeartbeats 2000000 in
theorem specFold_any (q : Int) (A : Option Addr) (cap : Nat) (xs : List G3) (w : World) (hn : xs.length ≤ 1048576) (hcap : xs.length ≤ cap) (hx : Hid (FlatAt w A (flatG xs))) :
    Calls Tryd.prog 33 #[cv q A xs.length cap] w fun e w' => e = .returned (foRes q xs) ∧ Below w.heap.size w w' := by
  rcases hok : cOk q xs with _ | _
  · have Hr : Hid (foRes q xs = .tuple #[.string ⟨#[]⟩, .bool false]) := by show _ = _; simp [foRes, foldOk, hok]
    go_enter Tryd.func33, Tryd.ntmps33
    go_wp2_with fail
    refine (l4Good_any q A cap xs _ (by omega) (hx.out.alloc _)).mono ?_
    rintro e w1 ⟨rfl, b1⟩
    obtain ⟨b1c, b1f⟩ := bcell b1
    have z1 := b1.size
    try simp only [World.size_alloc] at z1
    have B1 : Below w.heap.size w w1 := Below.chain (Below.refl _ _) (by go_grown) b1 (by go_size)
    have y10 : w.heap.size < w1.heap.size := by omega
    rw [hok]
    go_wp2
    rw [Hr.out]
    go_ret2
    refine ⟨rfl, ?_⟩
    go_grown
  · have hq := cOk_q hok
    have hl := cOk_len hok
    have hg := cOk_all hok
    obtain ⟨u, rfl⟩ := Int.eq_ofNat_of_zero_le (show 0 ≤ q by omega)
    obtain ⟨T, hT⟩ : ∃ T, T = foldT u xs := ⟨_, rfl⟩
    obtain ⟨hd, hhd⟩ : ∃ h, h = headB u := ⟨_, rfl⟩
    obtain ⟨dq, hdq⟩ : ∃ dq : ByteArray, dq = ⟨(Lib.decDigits u).toArray⟩ := ⟨_, rfl⟩
    have hqs : dq.size = 1 := by rw [hdq]; exact digit_size (by omega)
    have Hh : Hid (hd = (⟨#[113, 117, 98, 105, 116, 115, 32]⟩ ++ dq) ++ ⟨#[10]⟩) := by show _ = _; rw [hhd, hdq]; rfl
    have H0 : Hid (Ahead T hd xs) := by rw [hT, hhd]; exact Lib.hid (Ahead.start (by omega) hl hg)
    have Hr : Hid (foRes (u : Int) xs = .tuple #[.string (if T.size ≤ 8000 then T else ⟨#[]⟩), .bool (decide (T.size ≤ 8000))]) := by show _ = _; rw [foRes, foldOk, hok, hT]; simp
    have D1 : Hid (∀ W, Calls Tryd.prog 66 #[.int .i64 (u : Int)] W fun e w' => e = .returned (.string dq) ∧ Below W.heap.size W w') := fun W => by rw [hdq]; exact l1Num_any u (by omega) W
    have m1 : ¬ (9223372036854775807 < 7 + dq.size) := by omega
    have m2 : ¬ (9223372036854775807 < (⟨#[113, 117, 98, 105, 116, 115, 32]⟩ ++ dq : ByteArray).size + 1) := by rw [ByteArray.size_append]; show ¬ _ < 7 + _ + 1; omega
    have m3 : ¬ (9223372036854775807 < 7 + dq.size + 1) := by omega
    have Hok := Lib.hid hok
    clear hok hT hhd hdq hg hq hqs
    go_enter Tryd.func33, Tryd.ntmps33
    go_wp2_with fail
    refine (l4Good_any _ A cap xs _ (by omega) (hx.out.alloc _)).mono ?_
    rintro e w1 ⟨rfl, b1⟩
    obtain ⟨b1c, b1f⟩ := bcell b1
    have z1 := b1.size
    try simp only [World.size_alloc] at z1
    have B1 : Below w.heap.size w w1 := Below.chain (Below.refl _ _) (by go_grown) b1 (by go_size)
    have y10 : w.heap.size < w1.heap.size := by omega
    rw [Hok.out]
    go_wp2_with fail
    refine (D1.out _).mono ?_
    rintro e w2 ⟨rfl, b2⟩
    have z2 := b2.size
    try simp only [World.size_alloc] at z2
    have C2 := Below.chain b1 (by go_grown) b2 (by go_size)
    have B2 : Below w.heap.size w w2 := Below.chain B1 (by go_grown) b2 (by go_size)
    obtain ⟨b2c, b2f⟩ := bcell b2
    obtain ⟨C2c, C2f⟩ := bcellB C2
    have y20 : w.heap.size < w2.heap.size := by omega
    try (have v21 : w1.heap.size < w2.heap.size := by omega)
    go_wp2_with fail
    clear m1 m2 m3
    go_loopg [4, 5] xs.length (fun gk s v wr => ∃ (pre : ByteArray) (ys : List G3) (A' : Option Addr) (cap' : Nat), s = .string pre ∧ v = .slice A' ys.length cap' ∧ ys.length = gk ∧ Ahead T pre ys ∧ ys.length ≤ cap' ∧ FlatAt wr A' (flatG ys) ∧ Below w.heap.size w wr)
    case atStart => exact ⟨_, xs, A, cap, rfl, rfl, rfl, by rw [← Hh.out]; exact H0.out, hcap, hx.out.below B2, B2⟩
    case round =>
      obtain ⟨pre, ys, A', cap', rfl, rfl, hgk, hah, hcp, hfl, hb⟩ := hrel
      have zb := hb.size
      have hy4 : ys.length ≤ 400 := hah.2.2.2
      have hpz : pre.size ≤ 41000 := by have := hah.2.1; omega
      have Hg := Lib.hid hah.2.2.1
      have Hah := Lib.hid hah
      have Hgk := Lib.hid hgk
      clear hgk
      have Hfl := Lib.hid hfl
      clear hah hfl
      by_cases h0 : 0 < ys.length
      · have h0i : (0 : Int) < (ys.length : Int) := by omega
        obtain ⟨wo, rfl⟩ : ∃ wo : World, wo = wr := ⟨_, rfl⟩
        go_wp2_with fail
        go_loopg [6, 7, 8] 8 (fun gj b c l wi => ∃ B C K : Nat, b = .int .i64 B ∧ c = .int .i64 C ∧ l = .int .i64 K ∧ 1 ≤ K ∧ K ≤ ys.length + 1 ∧ K + gj = 9 ∧ bestF ys (K - 1) = (B, C) ∧ Below wo.heap.size wo wi)
        case atStart => exact ⟨0, 0, 1, rfl, rfl, rfl, Nat.le_refl _, by omega, rfl, rfl, Below.refl _ _⟩
        case round =>
          obtain ⟨B, C, K, rfl, rfl, rfl, hK1, hKl, hKg, hbF, hbi⟩ := hrel
          have zbi := hbi.size
          have hbd := bestF_bd ys (K - 1) (by omega)
          rw [hbF] at hbd
          simp only at hbd
          obtain ⟨bc, hbc⟩ : ∃ bc, bc = B * C := ⟨_, rfl⟩
          have hbc4 : bc ≤ ys.length := by
            rcases hbd with h | ⟨_, _, _, _, h⟩
            · cases h
              omega
            · omega
          have ww2 : IntKind.wrap .i64 ((B : Int) * (C : Int)) = (bc : Int) := by rw [show (B : Int) * (C : Int) = (bc : Int) by rw [hbc]; simp]; exact IntWalk.i64_in _ (by omega)
          have ww4 : RowKit.wrap64 ((B : Int) * (C : Int)) = (bc : Int) := by clear ww2; rw [show (B : Int) * (C : Int) = (bc : Int) by rw [hbc]; simp]; exact IntWalk.wrap64_in _ (by omega)
          have Hbc := Lib.hid hbc
          have HbF := Lib.hid hbF
          have Hbd := Lib.hid hbd
          have HKg := Lib.hid hKg
          clear hbc hbF hbd hKg
          by_cases hKM : K ≤ 8 ∧ K ≤ ys.length
          · have hK8i : (K : Int) ≤ 8 := by clear ww2 ww4; omega
            have hKi : (K : Int) ≤ (ys.length : Int) := Int.ofNat_le.2 hKM.2
            have hKL : K ≤ ys.length := hKM.2
            have hK8 : K ≤ 8 := hKM.1
            have htb := times_bd hKL
            have Hst := Lib.hid (bestF_step HbF.out)
            rw [show K - 1 + 1 = K by clear ww2 ww4; omega] at Hst
            obtain ⟨t, ht⟩ : ∃ t, t = times ys K := ⟨_, rfl⟩
            obtain ⟨tk, htk⟩ : ∃ tk, tk = t * K := ⟨_, rfl⟩
            rw [← ht] at htb Hst
            rw [← htk, ← Hbc.out] at Hst
            have htk4 : tk ≤ 400 := by rw [htk]; exact Nat.le_trans htb.2.2 hy4
            have ww1 : IntKind.wrap .i64 ((t : Int) * (K : Int)) = (tk : Int) := by clear ww2 ww4; rw [show (t : Int) * (K : Int) = (tk : Int) by rw [htk]; simp]; exact IntWalk.i64_in _ (by omega)
            have ww3 : RowKit.wrap64 ((t : Int) * (K : Int)) = (tk : Int) := by clear ww1 ww2 ww4; rw [show (t : Int) * (K : Int) = (tk : Int) by rw [htk]; simp]; exact IntWalk.wrap64_in _ (by omega)
            have DF : Hid (∀ W, FlatAt W A' (flatG ys) → Calls Tryd.prog 67 #[.slice A' ys.length cap', .int .i64 (K : Int)] W fun e w' => e = .returned (.int .i64 (t : Int)) ∧ Below W.heap.size W w') := fun W hW => by rw [ht]; exact l5Times_any A' cap' ys K W hy4 hKL hW
            have ht99 : t ≤ 99 := htb.2.1
            clear ht htk htb hKM
            go_wp2_with fail
            refine (DF.out _ (Hfl.out.below hbi)).mono ?_
            rintro e w3 ⟨rfl, b3⟩
            have B3 : Below wo.heap.size wo w3 := hbi.trans (b3.mono zbi)
            clear b3
            by_cases hc1 : 1 < t
            · have hc1i : (1 : Int) < (t : Int) := Int.ofNat_lt.2 hc1
              by_cases hc2 : bc < tk
              · have hc2i : (bc : Int) < (tk : Int) := Int.ofNat_lt.2 hc2
                go_wp2
                go_roundg (9 - (K + 1))
                all_goals clear ww1 ww2 ww3 ww4
                case measure => have := HKg.out; omega
                case rel => exact ⟨K, t, K + 1, rfl, rfl, by go_num, by omega, by omega, by have := HKg.out; omega, by rw [Nat.add_sub_cancel, Hst.out, if_pos ⟨hc1, hc2⟩], B3⟩
              · have hc2i : ¬ (bc : Int) < (tk : Int) := fun h => hc2 (Int.ofNat_lt.1 h)
                go_wp2
                go_roundg (9 - (K + 1))
                all_goals clear ww1 ww2 ww3 ww4
                case measure => have := HKg.out; omega
                case rel => exact ⟨B, C, K + 1, rfl, rfl, by go_num, by omega, by omega, by have := HKg.out; omega, by rw [Nat.add_sub_cancel, Hst.out, if_neg (fun h => hc2 h.2)], B3⟩
            · have hc1i : ¬ (1 : Int) < (t : Int) := fun h => hc1 (Int.ofNat_lt.1 h)
              go_wp2
              go_roundg (9 - (K + 1))
              all_goals clear ww1 ww2 ww3 ww4
              case measure => have := HKg.out; omega
              case rel => exact ⟨B, C, K + 1, rfl, rfl, by go_num, by omega, by omega, by have := HKg.out; omega, by rw [Nat.add_sub_cancel, Hst.out, if_neg (fun h => hc1 h.1)], B3⟩
          · have Hbest : Hid (best ys = (B, C)) := by
              show _ = _
              have h2 := HKg.out
              rw [best, ← HbF.out, show K - 1 = min 8 ys.length by clear ww2 ww4; omega]
            have hx8 : (¬ (K : Int) ≤ 8) ∨ ((K : Int) ≤ 8 ∧ ¬ (K : Int) ≤ (ys.length : Int)) := by clear ww2 ww4; omega
            rcases hx8 with hk8 | ⟨hk8, hk9⟩
            all_goals
              by_cases hB : B = 0
              · subst hB
                have hC0 : C = 0 := by
                  rcases best_bd ys with h | ⟨h1, _⟩
                  · rw [Hbest.out] at h
                    cases h
                    rfl
                  · rw [Hbest.out] at h1
                    simp at h1
                subst hC0
                clear ww2 ww4
                obtain ⟨A2, cap2, e2, f2, hc2⟩ := slicedG A' cap' ys 1 ys.length (by omega) (by omega) hcp
                obtain ⟨r, hr⟩ : ∃ r, r = ys.length - 1 := ⟨_, rfl⟩
                rw [← hr] at e2 f2 hc2
                have hs2 : ∀ W, (Instr.slice 57 (.slice A' ys.length cap') (some (.int .i64 1)) none none).run Tryd.prog W = .ok (.slice A2 r cap2) W := fun W => by rw [← e2]; exact run_sliceGl A' ys.length cap' 1 W (by omega)
                obtain ⟨x, hkx⟩ : ∃ x, ys[0]? = some x := ⟨_, List.getElem?_eq_getElem h0⟩
                obtain ⟨b, off, hA, hbl, hcx⟩ := (Hfl.out.below hbi).three hkx
                subst hA
                have hgx := allG_at Hg.out hkx
                obtain ⟨tx, htx⟩ : ∃ t, t = gtxt x.1.toNat x.2.1.toNat x.2.2.toNat := ⟨_, rfl⟩
                have D2 : Hid (∀ W, Calls Tryd.prog 54 #[tv x.1 x.2.1 x.2.2] W fun e w' => e = .returned (.string tx) ∧ Below W.heap.size W w') := fun W => by rw [htx]; exact l4TextG_any x W hgx
                have hts : tx.size ≤ 8 := by rw [htx]; exact gtxt_size hgx
                have n1 : ¬ (9223372036854775807 < tx.size + 1) := by omega
                have n2 : ¬ (9223372036854775807 < pre.size + (tx ++ ⟨#[10]⟩ : ByteArray).size) := by rw [ByteArray.size_append]; show ¬ _ < _ + (_ + 1); omega
                have n3 : ¬ (9223372036854775807 < pre.size + (tx.size + 1)) := by omega
                have hln : linesB (ys.take 1) = tx ++ ⟨#[10]⟩ := by
                  have h := linesB_step hkx
                  rw [show linesB (ys.take 0) = ⟨#[]⟩ from rfl, emptyB_app] at h
                  rw [h, htx]
                  rfl
                have HnA := Lib.hid (Hah.out.first h0 Hbest.out)
                rw [hln] at HnA
                have Hr1 := Lib.hid hr
                have Hf2 : Hid (∀ W, FlatAt W _ (flatG ys) → FlatAt W A2 (flatG (ys.drop 1))) := fun W hW => by have := f2 W hW; rwa [List.take_of_length_le (by rw [List.length_drop]; omega)] at this
                clear e2 f2 hr hkx htx hgx hts hln
                obtain ⟨c0, c1, c2⟩ := hcx
                rw [Nat.zero_mul, Nat.add_zero] at c0 c1 c2
                go_wp2_with fail
                refine (D2.out _).mono ?_
                rintro e w3 ⟨rfl, b3⟩
                have B3 : Below wo.heap.size wo w3 := hbi.trans (b3.mono zbi)
                clear b3
                go_wp2
                go_roundg r
                case measure => have h1 := Hr1.out; have h2 := Hgk.out; omega
                case rel =>
                  have h1 := Hr1.out
                  have h2 : (ys.drop 1).length = r := by rw [List.length_drop, h1]
                  exact ⟨_, ys.drop 1, A2, cap2, rfl, by rw [h2], h2, HnA.out, by omega, Hf2.out _ (Hfl.out.below B3), hb.trans (B3.mono zb)⟩
              · have hBi : ¬ (B : Int) = 0 := by clear ww2 ww4; omega
                have hbd : 1 ≤ B ∧ B ≤ ys.length ∧ C ≤ 99 ∧ ¬ C = 0 ∧ B ≤ 8 := by
                  rcases best_bd ys with h | ⟨h1, h2, h3, h4, h5, h6⟩
                  · rw [Hbest.out] at h
                    cases h
                    exact absurd rfl hB
                  · rw [Hbest.out] at h1 h2 h3 h4 h5 h6
                    exact ⟨h1, h3, h5, fun h => by simp [h] at h4, h2⟩
                obtain ⟨hB1, hBl, hC99, hC, hB8⟩ := hbd
                have hbc1 : 1 ≤ bc := by rw [Hbc.out]; exact Nat.mul_pos hB1 (Nat.pos_of_ne_zero hC)
                obtain ⟨A1, cap1, e1, f1, _⟩ := slicedG A' cap' ys 0 B (by clear ww2 ww4; omega) hBl hcp
                obtain ⟨A2, cap2, e2, f2, hc2⟩ := slicedG A' cap' ys bc ys.length hbc4 (Nat.le_refl _) hcp
                have hBc : B ≤ cap' := Nat.le_trans hBl hcp
                have hs1 : ∀ W, (Instr.slice 57 (.slice A' ys.length cap') none (some (.int .i64 (B : Int))) none).run Tryd.prog W = .ok (.slice A1 B cap1) W := fun W => by rw [← Nat.sub_zero B, ← e1, Nat.sub_zero]; exact run_sliceGh A' ys.length cap' B W hBc
                obtain ⟨r, hr⟩ : ∃ r, r = ys.length - bc := ⟨_, rfl⟩
                rw [← hr] at e2 f2 hc2
                have hs2 : ∀ W, (Instr.slice 57 (.slice A' ys.length cap') (some (.int .i64 (bc : Int))) none none).run Tryd.prog W = .ok (.slice A2 r cap2) W := fun W => by rw [← e2]; exact run_sliceGl A' ys.length cap' bc W hbc4
                obtain ⟨dC, hdC⟩ : ∃ dC : ByteArray, dC = ⟨(Lib.decDigits C).toArray⟩ := ⟨_, rfl⟩
                have hdz : dC.size ≤ 2 := by rw [hdC]; exact nd_le2 hC99
                have n1 : ¬ (9223372036854775807 < 7 + dC.size) := by clear ww2 ww4; omega
                have n2 : ¬ (9223372036854775807 < (⟨#[114, 101, 112, 101, 97, 116, 32]⟩ ++ dC : ByteArray).size + 3) := by clear ww2 ww4; rw [ByteArray.size_append]; show ¬ _ < 7 + _ + 3; omega
                have n3 : ¬ (9223372036854775807 < 7 + dC.size + 3) := by clear ww2 ww4; omega
                have n4 : ¬ (9223372036854775807 < pre.size + ((⟨#[114, 101, 112, 101, 97, 116, 32]⟩ ++ dC : ByteArray) ++ ⟨#[32, 123, 10]⟩ : ByteArray).size) := by clear ww2 ww4; rw [ByteArray.size_append, ByteArray.size_append]; show ¬ _ < _ + (7 + _ + 3); omega
                have n5 : ¬ (9223372036854775807 < pre.size + (7 + dC.size + 3)) := by clear ww2 ww4; omega
                have hRz : (pre ++ ((⟨#[114, 101, 112, 101, 97, 116, 32]⟩ ++ dC : ByteArray) ++ ⟨#[32, 123, 10]⟩ : ByteArray)).size ≤ 42000 := by clear ww2 ww4; rw [ByteArray.size_append, ByteArray.size_append, ByteArray.size_append]; show _ + (7 + _ + 3) ≤ _; omega
                have D2 : Hid (∀ W, Calls Tryd.prog 66 #[.int .i64 (C : Int)] W fun e w' => e = .returned (.string dC) ∧ Below W.heap.size W w') := fun W => by rw [hdC]; exact l1Num_any C (by clear ww2 ww4; omega) W
                have Hn := Hah.out.rep h0 Hbest.out hC
                rw [← Hbc.out, repB, repH, ← hdC] at Hn
                have HnA := Lib.hid Hn
                have Hr1 := Lib.hid hr
                have HF1 : Hid (∀ W, FlatAt W A' (flatG ys) → FlatAt W A1 (flatG (ys.take B))) := fun W hW => by have := f1 W hW; rwa [List.drop_zero, Nat.sub_zero] at this
                have Hf2 : Hid (∀ W, FlatAt W A' (flatG ys) → FlatAt W A2 (flatG (ys.drop bc))) := fun W hW => by have := f2 W hW; rwa [List.take_of_length_le (by rw [List.length_drop]; clear ww2 ww4; omega)] at this
                have HB := Lib.hid (And.intro hB8 hBl)
                clear e1 e2 f1 f2 hr Hn hdC hdz
                go_wp2_with fail
                refine (D2.out _).mono ?_
                rintro e w3 ⟨rfl, b3⟩
                have B3 : Below wo.heap.size wo w3 := hbi.trans (b3.mono zbi)
                have z3 := B3.size
                clear b3 D2
                obtain ⟨rp, hrp⟩ : ∃ rp, rp = pre ++ ((⟨#[114, 101, 112, 101, 97, 116, 32]⟩ ++ dC : ByteArray) ++ ⟨#[32, 123, 10]⟩ : ByteArray) := ⟨_, rfl⟩
                have Hrp := Lib.hid hrp
                rw [← hrp] at hRz
                clear hrp
                go_wp2_with fail
                clear n1 n2 n3 n4 n5
                go_loopg [4, 72] B (fun gi s i wi => ∃ k : Nat, i = .int .i64 k ∧ k + gi = B ∧ (∃ p2, s = .string p2 ∧ p2 = rp ++ linesB (ys.take k)) ∧ Below w3.heap.size w3 wi)
                case atStart => exact ⟨0, rfl, by clear ww2 ww4; omega, ⟨_, rfl, by rw [show linesB (ys.take 0) = ⟨#[]⟩ from rfl, app_emptyB, Hrp.out]⟩, Below.refl _ _⟩
                case round =>
                  obtain ⟨k, rfl, hkg, ⟨p2, rfl, hp2⟩, hb4⟩ := hrel
                  have zb4 := hb4.size
                  have hkB : k ≤ B := by clear ww2 ww4; omega
                  have Hkg := Lib.hid hkg
                  clear hkg
                  by_cases hlt : k < B
                  · have hlti : (k : Int) < (B : Int) := Int.ofNat_lt.2 hlt
                    have hky : k < ys.length := Nat.lt_of_lt_of_le hlt HB.out.2
                    obtain ⟨x, hkx⟩ : ∃ x, ys[k]? = some x := ⟨_, List.getElem?_eq_getElem hky⟩
                    have hkx2 : (ys.take B)[k]? = some x := piece_at hlt hkx
                    obtain ⟨b, off, hA, hbl, hcx⟩ := (HF1.out _ (Hfl.out.below (B3.trans (hb4.mono z3)))).three hkx2
                    subst hA
                    have hgx := allG_at Hg.out hkx
                    have Hst := Lib.hid (linesB_step hkx)
                    obtain ⟨tx, htx⟩ : ∃ t, t = gtxt x.1.toNat x.2.1.toNat x.2.2.toNat := ⟨_, rfl⟩
                    have D3 : Hid (∀ W, Calls Tryd.prog 54 #[tv x.1 x.2.1 x.2.2] W fun e w' => e = .returned (.string tx) ∧ Below W.heap.size W w') := fun W => by rw [htx]; exact l4TextG_any x W hgx
                    have hts : tx.size ≤ 8 := by rw [htx]; exact gtxt_size hgx
                    have hpz2 : p2.size ≤ 46000 := by
                      have h1 := linesB_size (allG_take Hg.out k)
                      have h2 : (ys.take k).length ≤ 400 := by rw [List.length_take]; clear ww2 ww4; omega
                      rw [hp2, ByteArray.size_append]
                      clear ww2 ww4
                      omega
                    have n1 : ¬ (9223372036854775807 < tx.size + 1) := by clear ww2 ww4; omega
                    have n2 : ¬ (9223372036854775807 < p2.size + (tx ++ ⟨#[10]⟩ : ByteArray).size) := by clear ww2 ww4; rw [ByteArray.size_append]; show ¬ _ < _ + (_ + 1); omega
                    have n3 : ¬ (9223372036854775807 < p2.size + (tx.size + 1)) := by clear ww2 ww4; omega
                    have Hp : Hid (rp ++ linesB (ys.take (k + 1)) = p2 ++ (tx ++ ⟨#[10]⟩)) := by show _ = _; rw [Hst.out, ← ByteArray.append_assoc, ← hp2, htx]; rfl
                    have HkB := Lib.hid hkB
                    clear hkx hkx2 htx hp2 hgx Hst hts hpz2 hky
                    obtain ⟨c0, c1, c2⟩ := hcx
                    go_wp2_with fail
                    refine (D3.out _).mono ?_
                    rintro e w5 ⟨rfl, b5⟩
                    have B5 : Below w3.heap.size w3 w5 := Below.chain hb4 (by go_grown) b5 (by go_size)
                    clear b5
                    go_wp2
                    go_roundg (B - (k + 1))
                    all_goals clear ww2 ww4
                    case measure => have := Hkg.out; omega
                    case rel => exact ⟨k + 1, by go_num, by omega, ⟨_, rfl, Hp.out.symm⟩, B5⟩
                  · have hlti : ¬ (k : Int) < (B : Int) := fun h => hlt (Int.ofNat_lt.1 h)
                    have hke : k = B := by clear ww2 ww4; omega
                    have hpz2 : p2.size ≤ 46000 := by
                      have h1 := linesB_size (allG_take Hg.out k)
                      have h2 : (ys.take k).length ≤ 400 := by rw [List.length_take]; clear ww2 ww4; omega
                      rw [hp2, ByteArray.size_append]
                      clear ww2 ww4
                      omega
                    have n1 : ¬ (9223372036854775807 < p2.size + 2) := by clear ww2 ww4; omega
                    have Hp : Hid (Ahead T (p2 ++ ⟨#[125, 10]⟩) (ys.drop bc)) := by
                      have h := HnA.out
                      rw [← ByteArray.append_assoc, ← ByteArray.append_assoc, ← Hrp.out, ← hke, ← hp2] at h
                      exact h
                    have B6 : Below wo.heap.size wo wr := B3.trans (hb4.mono z3)
                    clear hp2 hpz2 hke
                    go_wp2
                    go_roundg r
                    all_goals clear ww2 ww4
                    case measure => have h1 := Hr1.out; have h2 := Hgk.out; omega
                    case rel =>
                      have h1 := Hr1.out
                      have h2 : (ys.drop bc).length = r := by rw [List.length_drop, h1]
                      exact ⟨_, ys.drop bc, A2, cap2, rfl, by rw [h2], h2, Hp.out, by omega, Hf2.out _ (Hfl.out.below B6), hb.trans (B6.mono zb)⟩
      · have hy0 : ys = [] := List.eq_nil_of_length_eq_zero (by omega)
        subst hy0
        have hpT := Hah.out.done
        subst hpT
        have h0i : ¬ (0 : Int) < (([] : List G3).length : Int) := by simp
        by_cases h8 : pre.size ≤ 8000
        · have h8d : ¬ (8000 : Int) < (pre.size : Int) := by omega
          have Hr2 : Hid (foRes (u : Int) xs = .tuple #[.string pre, .bool true]) := by show _ = _; rw [Hr.out, if_pos h8, decide_eq_true h8]
          go_wp2
          rw [Hr2.out]
          go_ret2
          exact ⟨rfl, hb⟩
        · have h8d : (8000 : Int) < (pre.size : Int) := by omega
          have Hr2 : Hid (foRes (u : Int) xs = .tuple #[.string ⟨#[]⟩, .bool false]) := by show _ = _; rw [Hr.out, if_neg h8, decide_eq_false h8]
          go_wp2
          rw [Hr2.out]
          go_ret2
          exact ⟨rfl, hb⟩
end Go.Proofs.YtgpocbhlcmohmaaDoor
