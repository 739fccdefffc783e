/- FoldCircuit, of the program. -/
import Derived.Test.YtgpocbhlcmohmaaDoorFoldM
import Derived.Deep.LoopGhost
namespace Go.Proofs.YtgpocbhlcmohmaaDoor
open Go.RowKit

theorem small2_any (b : Bool) (w : World) :
    Calls Tryd.prog 69 #[.bool b] w fun e w' => e = .returned (.int .i64 (if b then 1 else 0)) ∧ w = w' := by
  cases b
  · go_enter Tryd.func69, Tryd.ntmps69
    go_wp2
    go_ret
    exact ⟨rfl, rfl⟩
  · go_enter Tryd.func69, Tryd.ntmps69
    go_wp2
    go_ret
    exact ⟨rfl, rfl⟩

/-- the lines of a piece -/
theorem linesPiece_any (A : Option Addr) (cap : Nat) (ys : List G3) (h : Nat) (w : World) (h1 : h ≤ ys.length) (h2 : ys.length ≤ 400) (hg : ys.all (gOkG 5) = true) (hx : FlatAt w A (flatG (ys.take h))) (hN : NamesAt w) :
    Calls Tryd.prog 64 #[.slice A h cap] w fun e w' => e = .returned (.string (linesB (ys.take h))) ∧ Below w.heap.size w w' := by
  have hl : (ys.take h).length = h := by rw [List.length_take]; omega
  have hc := gateLines_any A cap (ys.take h) w (by omega) (allG_take hg h) hx hN
  rw [hl] at hc
  exact hc
theorem bestF_step {ys : List G3} {k B C : Nat} (h : bestF ys k = (B, C)) : bestF ys (k + 1) = if 1 < times ys (k + 1) ∧ B * C < times ys (k + 1) * (k + 1) then (k + 1, times ys (k + 1)) else (B, C) := by
  rw [bestF, h]
theorem foldB_one {f : Nat} {x : G3} {r : List G3} (h : (best (x :: r)).2 = 0) : foldB (f + 1) (x :: r) = gLine x ++ foldB f r := by
  rw [foldB, if_pos h]
theorem foldB_rep {f : Nat} {x : G3} {r : List G3} {B C : Nat} (hb : best (x :: r) = (B, C)) (h : ¬ C = 0) : foldB (f + 1) (x :: r) = repB (x :: r) B C ++ foldB f ((x :: r).drop (B * C)) := by
  rw [foldB, hb, if_neg h]
/-- what lies ahead of the text's rest, at the head of a round -/
def Ahead (T : ByteArray) (pre : ByteArray) (ys : List G3) : Prop :=
  (∃ f, ys.length ≤ f ∧ pre ++ foldB f ys = T) ∧ pre.size + 100 * ys.length ≤ 41000 ∧ ys.all (gOkG 5) = true ∧ ys.length ≤ 400
theorem Ahead.one {T pre : ByteArray} {x : G3} {r : List G3} (h : Ahead T pre (x :: r)) (hb : (best (x :: r)).2 = 0) : Ahead T (pre ++ gLine x) r := by
  obtain ⟨⟨f, h1, h2⟩, h3, h4, h5⟩ := h
  simp only [List.length_cons] at h1 h3 h5
  obtain ⟨f, rfl⟩ : ∃ g, f = g + 1 := ⟨f - 1, by omega⟩
  rw [List.all_cons, Bool.and_eq_true] at h4
  have h6 := gLine_size h4.1
  refine ⟨⟨f, by omega, ?_⟩, ?_, h4.2, by omega⟩
  · rw [← h2, foldB_one hb, ByteArray.append_assoc]
  · rw [ByteArray.size_append]
    omega
theorem Ahead.first {T pre : ByteArray} {ys : List G3} {B : Nat} (h : Ahead T pre ys) (h0 : 0 < ys.length) (hb : best ys = (B, 0)) : Ahead T (pre ++ linesB (ys.take 1)) (ys.drop 1) := by
  rcases ys with _ | ⟨x, r⟩
  · simp at h0
  · have e : linesB ((x :: r).take 1) = gLine x := app_emptyB _
    rw [e]
    exact h.one (by rw [hb])
theorem Ahead.rep {T pre : ByteArray} {ys : List G3} {B C : Nat} (h : Ahead T pre ys) (h0 : 0 < ys.length) (hb : best ys = (B, C)) (hc : ¬ C = 0) : Ahead T (pre ++ repB ys B C) (ys.drop (B * C)) := by
  obtain ⟨⟨f, h1, h2⟩, h3, h4, h5⟩ := h
  obtain ⟨f, rfl⟩ : ∃ g, f = g + 1 := ⟨f - 1, by omega⟩
  rcases best_bd ys with hz | ⟨b1, b2, b3, b4, b5, b6⟩
  · rw [hb] at hz
    cases hz
    exact absurd rfl hc
  rw [hb] at b1 b2 b3 b4 b5 b6
  simp only at b1 b2 b3 b4 b5 b6
  have h6 := repB_size (c := C) (b := B) b5 h4 b2
  have h7 : 1 ≤ B * C := Nat.mul_pos (by omega) (by omega)
  refine ⟨⟨f, by rw [List.length_drop]; omega, ?_⟩, ?_, allG_drop h4 _, by rw [List.length_drop]; omega⟩
  · rcases ys with _ | ⟨x, r⟩
    · simp at h0
    · rw [← h2, foldB_rep hb hc, ByteArray.append_assoc]
  · rw [ByteArray.size_append, List.length_drop]
    omega
theorem Ahead.done {T pre : ByteArray} (h : Ahead T pre []) : pre = T := by
  obtain ⟨⟨f, _, h2⟩, _⟩ := h
  rw [← h2, foldB_nil, app_emptyB]
theorem Ahead.start {u : Nat} {xs : List G3} (hu : u < 10) (hl : xs.length ≤ 400) (hg : xs.all (gOkG 5) = true) : Ahead (foldT u xs) (headB u) xs :=
  ⟨⟨400, hl, rfl⟩, by rw [headB_size hu]; omega, hg, hl⟩
theorem run_sliceS (s : ByteArray) (n : Int) (W : World) (h : n = (s.size : Int)) :
    (Instr.slice 9 (.string s) none (some (.int .i64 n)) none).run Tryd.prog W = .ok (.string s) W := by
  subst h
  have h1 : (s.size : Int).toNat = s.size := Int.toNat_natCast _
  simp [Instr.slice, run_underlying Tryd.underlying9, Instr.sliceBounds, run_sliceBound, ByteArray.extract_zero_size]
theorem run_sliceS0 (s : ByteArray) (W : World) :
    (Instr.slice 9 (.string s) none (some (.int .i64 0)) none).run Tryd.prog W = .ok (.string ⟨#[]⟩) W := by
  simp [Instr.slice, run_underlying Tryd.underlying9, Instr.sliceBounds, run_sliceBound]
  rfl

set_option maxRecDepth 100000 in
set_option maxHeartbeats 2000000 in
theorem implFold_any (q : Int) (A : Option Addr) (cap : Nat) (xs : List G3) (w : World) (hn : xs.length ≤ 1048576) (hcap : xs.length ≤ cap) (hx : Hid (FlatAt w A (flatG xs))) (hN : Hid (NamesAt w)) :
    Calls Tryd.prog 34 #[cv q A xs.length cap] w fun e w' => e = .returned (foRes q xs) ∧ Below w.heap.size w w' := by
  rcases hok : cOk q xs with _ | _
  · have Hr : Hid (foRes q xs = .tuple #[.string ⟨#[]⟩, .bool false]) := by show _ = _; simp [foRes, foldOk, hok]
    clear hN
    go_enter Tryd.func34, Tryd.ntmps34
    go_wp2_with fail
    refine (implValidC_any q A cap xs _ hn (hx.out.alloc _)).mono ?_
    rintro e w1 ⟨rfl, b1⟩
    obtain ⟨b1c, b1f⟩ := bcell b1
    have z1 := b1.size
    try simp only [World.size_alloc] at z1
    have B1 : Below w.heap.size w w1 := Below.chain (Below.refl _ _) (by go_grown) b1 (by go_size)
    have y10 : w.heap.size < w1.heap.size := by omega
    rw [hok]
    go_wp2
    rw [Hr.out]
    go_ret2
    refine ⟨rfl, ?_⟩
    go_grown
  · have hq := cOk_q hok
    have hl := cOk_len hok
    have hg := cOk_all hok
    obtain ⟨u, rfl⟩ := Int.eq_ofNat_of_zero_le (show 0 ≤ q by omega)
    obtain ⟨T, hT⟩ : ∃ T, T = foldT u xs := ⟨_, rfl⟩
    obtain ⟨hd, hhd⟩ : ∃ h, h = headB u := ⟨_, rfl⟩
    obtain ⟨dq, hdq⟩ : ∃ dq : ByteArray, dq = ⟨(Lib.decDigits u).toArray⟩ := ⟨_, rfl⟩
    have hqs : dq.size = 1 := by rw [hdq]; exact digit_size (by omega)
    have Hh : Hid (hd = (⟨#[113, 117, 98, 105, 116, 115, 32]⟩ ++ dq) ++ ⟨#[10]⟩) := by show _ = _; rw [hhd, hdq]; rfl
    have H0 : Hid (Ahead T hd xs) := by rw [hT, hhd]; exact Lib.hid (Ahead.start (by omega) hl hg)
    have Hr : Hid (foRes (u : Int) xs = .tuple #[.string (if T.size ≤ 8000 then T else ⟨#[]⟩), .bool (decide (T.size ≤ 8000))]) := by show _ = _; rw [foRes, foldOk, hok, hT]; simp
    have D1 : Hid (∀ W, Calls Tryd.prog 56 #[.int .i64 (u : Int)] W fun e w' => e = .returned (.string dq) ∧ Below W.heap.size W w') := fun W => by rw [hdq]; exact itoaB_any u W (by omega)
    have m1 : ¬ (9223372036854775807 < 7 + dq.size) := by omega
    have m2 : ¬ (9223372036854775807 < (⟨#[113, 117, 98, 105, 116, 115, 32]⟩ ++ dq : ByteArray).size + 1) := by rw [ByteArray.size_append]; show ¬ _ < 7 + _ + 1; omega
    have m3 : ¬ (9223372036854775807 < 7 + dq.size + 1) := by omega
    have Hok := Lib.hid hok
    clear hok hT hhd hdq hg hq hqs
    go_enter Tryd.func34, Tryd.ntmps34
    go_wp2_with fail
    refine (implValidC_any _ A cap xs _ hn (hx.out.alloc _)).mono ?_
    rintro e w1 ⟨rfl, b1⟩
    obtain ⟨b1c, b1f⟩ := bcell b1
    have z1 := b1.size
    try simp only [World.size_alloc] at z1
    have B1 : Below w.heap.size w w1 := Below.chain (Below.refl _ _) (by go_grown) b1 (by go_size)
    have y10 : w.heap.size < w1.heap.size := by omega
    rw [Hok.out]
    have k0 : w1.cell? ⟨w.heap.size, 0, none⟩ = some (.int .i64 (u : Int)) := by go_simp
    have k1 : w1.cell? ⟨w.heap.size, 1, none⟩ = some (.slice A xs.length cap) := by go_simp
    go_wp2_with fail
    go_region_held3 (fun w' => (∀ b o, b < w1.heap.size → w'.cell? ⟨b, o, none⟩ = w1.cell? ⟨b, o, none⟩) ∧ Below w1.heap.size w1 w') ((refine SB_mk ?_; go_grown)) (first | (go_at_call 56; with_reducible refine (D1.out _).mono ?_; rintro e wA ⟨rfl, bA⟩; obtain ⟨bAc, bAf⟩ := bcell bA; (try with_reducible have yA := lt_size bA); (try with_reducible have yA := lt_sizeD bA); (try with_reducible have yB := Nat.lt_of_lt_of_le (by assumption) bA.size); have sA := (SB_step (W := w1) (by with_reducible assumption) bA).2; have zA := sA.size))
    all_goals
      have BA := B1.trans (sA.mono B1.size)
      rw [← Hh.out]
      clear m1 m2 m3 k0 k1
      go_wp2_with fail
      go_loopg [4, 5] xs.length (fun gk s v wr => ∃ (pre : ByteArray) (ys : List G3) (A' : Option Addr) (cap' : Nat), s = .string pre ∧ v = .slice A' ys.length cap' ∧ ys.length = gk ∧ Ahead T pre ys ∧ ys.length ≤ cap' ∧ FlatAt wr A' (flatG ys) ∧ Below w.heap.size w wr)
      case atStart => exact ⟨hd, xs, A, cap, rfl, rfl, rfl, H0.out, hcap, hx.out.below BA, BA⟩
      case round =>
        obtain ⟨pre, ys, A', cap', rfl, rfl, hgk, hah, hcp, hfl, hb⟩ := hrel
        have zb := hb.size
        have hy4 : ys.length ≤ 400 := hah.2.2.2
        have hpz : pre.size ≤ 41000 := by have := hah.2.1; omega
        have Hg := Lib.hid hah.2.2.1
        have Hah := Lib.hid hah
        have Hgk := Lib.hid hgk
        clear hgk
        have Hfl := Lib.hid hfl
        clear hah hfl
        by_cases h0 : 0 < ys.length
        · have h0i : (0 : Int) < (ys.length : Int) := by omega
          obtain ⟨wo, rfl⟩ : ∃ wo : World, wo = wr := ⟨_, rfl⟩
          go_wp2_with fail
          go_loopg [6, 7, 8] 8 (fun gj b c l wi => ∃ B C K : Nat, b = .int .i64 B ∧ c = .int .i64 C ∧ l = .int .i64 K ∧ 1 ≤ K ∧ K ≤ ys.length + 1 ∧ K + gj = 9 ∧ bestF ys (K - 1) = (B, C) ∧ Below wo.heap.size wo wi)
          case atStart => exact ⟨0, 0, 1, rfl, rfl, rfl, Nat.le_refl _, by omega, rfl, rfl, Below.refl _ _⟩
          case round =>
            obtain ⟨B, C, K, rfl, rfl, rfl, hK1, hKl, hKg, hbF, hbi⟩ := hrel
            have zbi := hbi.size
            have hbd := bestF_bd ys (K - 1) (by omega)
            rw [hbF] at hbd
            simp only at hbd
            obtain ⟨M, hM⟩ : ∃ M, M = min 8 ys.length := ⟨_, rfl⟩
            have hmin : (if (ys.length : Int) < 8 then (ys.length : Int) else 8) = (M : Int) := by rw [hM]; split <;> omega
            obtain ⟨bc, hbc⟩ : ∃ bc, bc = B * C := ⟨_, rfl⟩
            have hbc4 : bc ≤ ys.length := by
              rcases hbd with h | ⟨_, _, _, _, h⟩
              · cases h
                omega
              · omega
            have ww2 : IntKind.wrap .i64 ((B : Int) * (C : Int)) = (bc : Int) := by rw [show (B : Int) * (C : Int) = (bc : Int) by rw [hbc]; simp]; exact IntWalk.i64_in _ (by omega)
            have ww4 : RowKit.wrap64 ((B : Int) * (C : Int)) = (bc : Int) := by rw [show (B : Int) * (C : Int) = (bc : Int) by rw [hbc]; simp]; exact IntWalk.wrap64_in _ (by omega)
            have Hbc := Lib.hid hbc
            have HbF := Lib.hid hbF
            have Hbd := Lib.hid hbd
            have HM := Lib.hid hM
            have HKg := Lib.hid hKg
            clear hbc hbF hbd hM hKg
            by_cases hKM : K ≤ M
            · have hKi : (K : Int) ≤ (M : Int) := by omega
              have hKL : K ≤ ys.length := by have := HM.out; omega
              have hK8 : K ≤ 8 := by have := HM.out; omega
              have htb := times_bd hKL
              have Hst := Lib.hid (bestF_step HbF.out)
              rw [show K - 1 + 1 = K by omega] at Hst
              obtain ⟨t, ht⟩ : ∃ t, t = times ys K := ⟨_, rfl⟩
              obtain ⟨tk, htk⟩ : ∃ tk, tk = t * K := ⟨_, rfl⟩
              rw [← ht] at htb Hst
              rw [← htk, ← Hbc.out] at Hst
              have ww1 : IntKind.wrap .i64 ((t : Int) * (K : Int)) = (tk : Int) := by rw [show (t : Int) * (K : Int) = (tk : Int) by rw [htk]; simp]; exact IntWalk.i64_in _ (by omega)
              have ww3 : RowKit.wrap64 ((t : Int) * (K : Int)) = (tk : Int) := by rw [show (t : Int) * (K : Int) = (tk : Int) by rw [htk]; simp]; exact IntWalk.wrap64_in _ (by omega)
              have DF : Hid (∀ W, FlatAt W A' (flatG ys) → Calls Tryd.prog 68 #[.slice A' ys.length cap', .int .i64 (K : Int)] W fun e w' => e = .returned (.int .i64 (t : Int)) ∧ Below W.heap.size W w') := fun W hW => by rw [ht]; exact folding_any A' cap' ys K W hy4 hK1 hKL hcp hW
              have htk4 : tk ≤ 400 := by rw [htk]; exact Nat.le_trans htb.2.2 hy4
              have ht99 : t ≤ 99 := htb.2.1
              clear ht htk htb
              go_wp2_with fail
              refine (DF.out _ (Hfl.out.below hbi)).mono ?_
              rintro e w3 ⟨rfl, b3⟩
              have B3 : Below wo.heap.size wo w3 := hbi.trans (b3.mono zbi)
              clear b3
              by_cases hc1 : 1 < t
              · have hc1i : (1 : Int) < (t : Int) := Int.ofNat_lt.2 hc1
                by_cases hc2 : bc < tk
                · have hc2i : (bc : Int) < (tk : Int) := Int.ofNat_lt.2 hc2
                  go_wp2
                  go_roundg (9 - (K + 1))
                  all_goals clear ww1 ww2 ww3 ww4 hmin
                  case measure => have := HKg.out; omega
                  case rel => exact ⟨K, t, K + 1, rfl, rfl, by go_num, by omega, by omega, by have := HKg.out; omega, by rw [Nat.add_sub_cancel, Hst.out, if_pos ⟨hc1, hc2⟩], B3⟩
                · have hc2i : ¬ (bc : Int) < (tk : Int) := fun h => hc2 (Int.ofNat_lt.1 h)
                  go_wp2
                  go_roundg (9 - (K + 1))
                  all_goals clear ww1 ww2 ww3 ww4 hmin
                  case measure => have := HKg.out; omega
                  case rel => exact ⟨B, C, K + 1, rfl, rfl, by go_num, by omega, by omega, by have := HKg.out; omega, by rw [Nat.add_sub_cancel, Hst.out, if_neg (fun h => hc2 h.2)], B3⟩
              · have hc1i : ¬ (1 : Int) < (t : Int) := fun h => hc1 (Int.ofNat_lt.1 h)
                go_wp2
                go_roundg (9 - (K + 1))
                all_goals clear ww1 ww2 ww3 ww4 hmin
                case measure => have := HKg.out; omega
                case rel => exact ⟨B, C, K + 1, rfl, rfl, by go_num, by omega, by omega, by have := HKg.out; omega, by rw [Nat.add_sub_cancel, Hst.out, if_neg (fun h => hc1 h.1)], B3⟩
            · have hKi : ¬ (K : Int) ≤ (M : Int) := by omega
              have Hbest : Hid (best ys = (B, C)) := by show _ = _; have h1 := HM.out; have h2 := HKg.out; rw [best, ← HM.out, ← HbF.out, show K - 1 = M by omega]
              by_cases hC : C = 0
              · subst hC
                clear ww2 ww4
                obtain ⟨A1, cap1, e1, f1, _⟩ := slicedG A' cap' ys 0 1 (by omega) (by omega) hcp
                obtain ⟨A2, cap2, e2, f2, hc2⟩ := slicedG A' cap' ys 1 ys.length (by omega) (by omega) hcp
                have hs1 : ∀ W, (Instr.slice 57 (.slice A' ys.length cap') none (some (.int .i64 1)) none).run Tryd.prog W = .ok (.slice A1 1 cap1) W := fun W => by rw [← e1]; exact run_sliceGh A' ys.length cap' 1 W (by omega)
                obtain ⟨r, hr⟩ : ∃ r, r = ys.length - 1 := ⟨_, rfl⟩
                rw [← hr] at e2 f2 hc2
                have hs2 : ∀ W, (Instr.slice 57 (.slice A' ys.length cap') (some (.int .i64 1)) none none).run Tryd.prog W = .ok (.slice A2 r cap2) W := fun W => by rw [← e2]; exact run_sliceGl A' ys.length cap' 1 W (by omega)
                obtain ⟨ln, hln⟩ : ∃ ln, ln = linesB (ys.take 1) := ⟨_, rfl⟩
                have hlz : ln.size ≤ 9 := by
                  have h1 := linesB_size (allG_take Hg.out 1)
                  have h2 : (ys.take 1).length ≤ 1 := by rw [List.length_take]; omega
                  rw [hln]
                  omega
                have n1 : ¬ (9223372036854775807 < pre.size + ln.size) := by omega
                have DL : Hid (∀ W, Below wo.heap.size wo W → Calls Tryd.prog 64 #[.slice A1 1 cap1] W fun e w' => e = .returned (.string ln) ∧ Below W.heap.size W w') := fun W hW => by
                  rw [hln]
                  exact linesPiece_any A1 cap1 ys 1 W (by omega) hy4 Hg.out (by have := f1 W (Hfl.out.below hW); rwa [List.drop_zero] at this) (hN.out.below (hb.trans (hW.mono zb)))
                have Hn := Hah.out.first h0 Hbest.out
                rw [← hln] at Hn
                have HnA := Lib.hid Hn
                have Hr1 := Lib.hid hr
                have Hf2 : Hid (∀ W, FlatAt W A' (flatG ys) → FlatAt W A2 (flatG (ys.drop 1))) := fun W hW => by have := f2 W hW; rwa [List.take_of_length_le (by rw [List.length_drop]; omega)] at this
                clear e1 e2 f1 f2 hln hlz hr Hn
                go_wp2_with fail
                refine (DL.out _ hbi).mono ?_
                rintro e w3 ⟨rfl, b3⟩
                have B3 : Below wo.heap.size wo w3 := hbi.trans (b3.mono zbi)
                clear b3
                go_wp2
                go_roundg r
                case measure => have h1 := Hr1.out; have h2 := Hgk.out; omega
                case rel =>
                  have h1 := Hr1.out
                  have h2 : (ys.drop 1).length = r := by rw [List.length_drop, h1]
                  exact ⟨pre ++ ln, ys.drop 1, A2, cap2, rfl, by rw [h2], h2, HnA.out, by omega, Hf2.out _ (Hfl.out.below B3), hb.trans (B3.mono zb)⟩
              · have hCi : ¬ (C : Int) = 0 := by omega
                have hbd : 1 ≤ B ∧ B ≤ ys.length ∧ C ≤ 99 := by
                  rcases best_bd ys with h | ⟨h1, h2, h3, h4, h5, h6⟩
                  · rw [Hbest.out] at h
                    cases h
                    exact absurd rfl hC
                  · rw [Hbest.out] at h1 h2 h3 h4 h5 h6
                    exact ⟨h1, h3, h5⟩
                obtain ⟨hB1, hBl, hC99⟩ := hbd
                have hbc1 : 1 ≤ bc := by rw [Hbc.out]; exact Nat.mul_pos (by omega) (by omega)
                obtain ⟨A1, cap1, e1, f1, _⟩ := slicedG A' cap' ys 0 B (by omega) hBl hcp
                obtain ⟨A2, cap2, e2, f2, hc2⟩ := slicedG A' cap' ys bc ys.length hbc4 (Nat.le_refl _) hcp
                have hs1 : ∀ W, (Instr.slice 57 (.slice A' ys.length cap') none (some (.int .i64 (B : Int))) none).run Tryd.prog W = .ok (.slice A1 B cap1) W := fun W => by rw [← Nat.sub_zero B, ← e1, Nat.sub_zero]; exact run_sliceGh A' ys.length cap' B W (by omega)
                obtain ⟨r, hr⟩ : ∃ r, r = ys.length - bc := ⟨_, rfl⟩
                rw [← hr] at e2 f2 hc2
                have hs2 : ∀ W, (Instr.slice 57 (.slice A' ys.length cap') (some (.int .i64 (bc : Int))) none none).run Tryd.prog W = .ok (.slice A2 r cap2) W := fun W => by rw [← e2]; exact run_sliceGl A' ys.length cap' bc W hbc4
                obtain ⟨ln, hln⟩ : ∃ ln, ln = linesB (ys.take B) := ⟨_, rfl⟩
                obtain ⟨dC, hdC⟩ : ∃ dC : ByteArray, dC = ⟨(Lib.decDigits C).toArray⟩ := ⟨_, rfl⟩
                have hlz : ln.size ≤ 3600 := by
                  have h1 := linesB_size (allG_take Hg.out B)
                  have h2 : (ys.take B).length ≤ 400 := by rw [List.length_take]; omega
                  rw [hln]
                  omega
                have hdz : dC.size ≤ 2 := by rw [hdC]; exact nd_le2 hC99
                have n1 : ¬ (9223372036854775807 < 7 + dC.size) := by omega
                have n2 : ¬ (9223372036854775807 < (⟨#[114, 101, 112, 101, 97, 116, 32]⟩ ++ dC : ByteArray).size + 3) := by rw [ByteArray.size_append]; show ¬ _ < 7 + _ + 3; omega
                have n3 : ¬ (9223372036854775807 < 7 + dC.size + 3) := by omega
                have n4 : ¬ (9223372036854775807 < ((⟨#[114, 101, 112, 101, 97, 116, 32]⟩ ++ dC : ByteArray) ++ ⟨#[32, 123, 10]⟩ : ByteArray).size + ln.size) := by rw [ByteArray.size_append, ByteArray.size_append]; show ¬ _ < 7 + _ + 3 + _; omega
                have n5 : ¬ (9223372036854775807 < 7 + dC.size + 3 + ln.size) := by omega
                have n6 : ¬ (9223372036854775807 < (((⟨#[114, 101, 112, 101, 97, 116, 32]⟩ ++ dC : ByteArray) ++ ⟨#[32, 123, 10]⟩ : ByteArray) ++ ln : ByteArray).size + 2) := by rw [ByteArray.size_append, ByteArray.size_append, ByteArray.size_append]; show ¬ _ < 7 + _ + 3 + _ + 2; omega
                have n7 : ¬ (9223372036854775807 < 7 + dC.size + 3 + ln.size + 2) := by omega
                have n8 : ¬ (9223372036854775807 < pre.size + ((((⟨#[114, 101, 112, 101, 97, 116, 32]⟩ ++ dC : ByteArray) ++ ⟨#[32, 123, 10]⟩ : ByteArray) ++ ln : ByteArray) ++ ⟨#[125, 10]⟩ : ByteArray).size) := by rw [ByteArray.size_append, ByteArray.size_append, ByteArray.size_append, ByteArray.size_append]; show ¬ _ < _ + (7 + _ + 3 + _ + 2); omega
                have n9 : ¬ (9223372036854775807 < pre.size + (7 + dC.size + 3 + ln.size + 2)) := by omega
                have D2 : Hid (∀ W, Calls Tryd.prog 56 #[.int .i64 (C : Int)] W fun e w' => e = .returned (.string dC) ∧ Below W.heap.size W w') := fun W => by rw [hdC]; exact itoaB_any C W (by omega)
                have DL : Hid (∀ W, ((∀ b o, b < wr.heap.size → W.cell? ⟨b, o, none⟩ = wr.cell? ⟨b, o, none⟩) ∧ Below wr.heap.size wr W) → Calls Tryd.prog 64 #[.slice A1 B cap1] W fun e w' => e = .returned (.string ln) ∧ Below W.heap.size W w') := fun W hW => by
                  have hW' : Below wo.heap.size wo W := hbi.trans (hW.2.mono zbi)
                  rw [hln]
                  exact linesPiece_any A1 cap1 ys B W hBl hy4 Hg.out (by have := f1 W (Hfl.out.below hW'); rwa [List.drop_zero, Nat.sub_zero] at this) (hN.out.below (hb.trans (hW'.mono zb)))
                have Hn := Hah.out.rep h0 Hbest.out hC
                rw [← Hbc.out, repB, repH, ← hln, ← hdC] at Hn
                have HnA := Lib.hid Hn
                have Hr1 := Lib.hid hr
                have Hf2 : Hid (∀ W, FlatAt W A' (flatG ys) → FlatAt W A2 (flatG (ys.drop bc))) := fun W hW => by have := f2 W hW; rwa [List.take_of_length_le (by rw [List.length_drop]; omega)] at this
                clear e1 e2 f1 f2 hln hlz hr Hn hdC hdz
                go_wp2_with fail
                go_region_held3 (fun w' => (∀ b o, b < wr.heap.size → w'.cell? ⟨b, o, none⟩ = wr.cell? ⟨b, o, none⟩) ∧ Below wr.heap.size wr w') ((refine SB_mk ?_; go_grown)) (first | (go_at_call 64; with_reducible refine (DL.out _ (by with_reducible assumption)).mono ?_; rintro e wA ⟨rfl, bA⟩; obtain ⟨bAc, bAf⟩ := bcell bA; (try with_reducible have yA := lt_size bA); (try with_reducible have yA := lt_sizeD bA); (try with_reducible have yB := Nat.lt_of_lt_of_le (by assumption) bA.size); have sA := (SB_step (W := wr) (by with_reducible assumption) bA).2; have zA := sA.size) | (go_at_call 56; with_reducible refine (D2.out _).mono ?_; rintro e wA ⟨rfl, bA⟩; obtain ⟨bAc, bAf⟩ := bcell bA; (try with_reducible have yA := lt_size bA); (try with_reducible have yA := lt_sizeD bA); (try with_reducible have yB := Nat.lt_of_lt_of_le (by assumption) bA.size); have sA := (SB_step (W := wr) (by with_reducible assumption) bA).2; have zA := sA.size))
                all_goals
                  have B3 : Below wo.heap.size wo _ := hbi.trans (sA.mono zbi)
                  go_wp2
                  go_roundg r
                  all_goals clear ww2 ww4 hmin
                  case measure => have h1 := Hr1.out; have h2 := Hgk.out; omega
                  case rel =>
                    have h1 := Hr1.out
                    have h2 : (ys.drop bc).length = r := by rw [List.length_drop, h1]
                    exact ⟨_, ys.drop bc, A2, cap2, rfl, by rw [h2], h2, HnA.out, by omega, Hf2.out _ (Hfl.out.below B3), hb.trans (B3.mono zb)⟩
        · have hy0 : ys = [] := List.eq_nil_of_length_eq_zero (by omega)
          subst hy0
          have hpT := Hah.out.done
          subst hpT
          have h0i : ¬ (0 : Int) < (([] : List G3).length : Int) := by simp
          by_cases h8 : pre.size ≤ 8000
          · have h8d : decide ((pre.size : Int) ≤ 8000) = true := decide_eq_true (by omega)
            have hs1 := fun W => run_sliceS pre (pre.size : Int) W rfl
            have Hr2 : Hid (foRes (u : Int) xs = .tuple #[.string pre, .bool true]) := by show _ = _; rw [Hr.out, if_pos h8, decide_eq_true h8]
            go_wp2_with fail
            refine (small2_any _ _).mono ?_
            rintro e w3 ⟨rfl, rfl⟩
            go_wp2
            rw [Hr2.out]
            go_ret2
            exact ⟨rfl, hb⟩
          · have h8d : decide ((pre.size : Int) ≤ 8000) = false := decide_eq_false (by omega)
            have hs1 := fun W => run_sliceS0 pre W
            have Hr2 : Hid (foRes (u : Int) xs = .tuple #[.string ⟨#[]⟩, .bool false]) := by show _ = _; rw [Hr.out, if_neg h8, decide_eq_false h8]
            go_wp2_with fail
            refine (small2_any _ _).mono ?_
            rintro e w3 ⟨rfl, rfl⟩
            go_wp2
            rw [Hr2.out]
            go_ret2
            exact ⟨rfl, hb⟩
end Go.Proofs.YtgpocbhlcmohmaaDoor
