/- FnExactScaleMatrix is proved: the program's ScaleMatrix returns what the reference's returns, for all arguments. No conditions. -/
import Derived.Test.YtcmkkjdleihjfaaFrame
import Derived.Test.YtcmkkjdleihjfaaOpenM
import Derived.Test.YtcmkkjdleihjfaaSclT
import Derived.Test.YtcmkkjdleihjfaaRes
import Derived.Deep.DeepCutAuto
namespace Go.Proofs.Ytcmkkjdleihjfaa
open Go.RowKit Go.WideShapes Go.ChangeShapes Go.ChangeAt

set_option maxRecDepth 100000 in
set_option maxHeartbeats 8000000 in
theorem fnExactScaleMatrix_any (r0 c0 : Int) (A0 : Option Addr) (p0 : Nat) (x0 : List D5) (a1 b1 c1 e1 x1 : Int) (w : World) (hl0 : x0.length ≤ maxLen) (hf0 : FlatAt w A0 (flatD x0)) :
    Calls Try.prog 10 #[mv r0 c0 A0 x0.length p0, dv a1 b1 c1 e1 x1] w fun e w' => e = .returned (.bool true) ∧ Below w.heap.size w w' := by
  have Hf0 := Lib.hid hf0
  clear hf0
  have hm0 : x0.length ≤ 9223372036854775807 := hl0
  by_cases hn0 : x0.length ≤ 1048576
  · skip
    go_enter Try.func10, Try.ntmps10
    go_upto_region 1 with fail
    generalize hW0 : (w.alloc (.cells #[.int .i64 r0, .int .i64 c0, .slice A0 x0.length p0] 61)).alloc (.cells #[.int .i64 a1, .int .i64 b1, .int .i64 c1, .int .i64 e1, .int .i64 x1] 73) = W0
    have B : Below w.heap.size w W0 := by rw [← hW0]; go_grown
    have P0 : Hid (LocM W0 w.heap.size r0 c0 A0 x0.length p0) := LocM.of_row (by rw [← hW0]; exact (Below.heap_alloc _ _ _ (by go_size)).trans (heap_top _ _ rfl))
    have D1 : Hid (LocD W0 (w.heap.size + 1) ((a1, b1, c1, e1), x1)) := LocD.of_row (by rw [← hW0]; exact heap_top _ _ (by simp))
    clear hW0
    have sW0 : w.heap.size + 2 ≤ W0.heap.size := by have := D1.out.1; omega
    obtain ⟨_, P0c0, P0c1, P0c2⟩ := P0.out
    go_wp2_with fail
    refine (szMatrix_any _ _ _ _ _ _ _ (by omega) hm0).mono ?_
    rintro e w1 ⟨rfl, bw1⟩
    rw [if_neg (by omega)]
    have zw1 := bw1.size
    replace B := B.trans (bw1.mono B.size)
    replace P0 := Lib.hid (P0.out.call bw1)
    replace D1 := Lib.hid (D1.out.call bw1)
    clear P0c0 P0c1 P0c2
    clear bw1
    go_upto_region 5 with fail
    obtain ⟨_, P0c0, P0c1, P0c2⟩ := P0.out
    have D1lt := D1.out.1
    obtain ⟨D1c0, D1c1, D1c2, D1c3, D1c4⟩ := D1.out.five
    go_cut [6, 7] (fun sA sB wx => ∃ (g lo hi p : Nat) (A : Option Addr) (r c : Int) (x : List D5), sA = .pointer (some ⟨g, 0, none⟩) ∧ sB = .bool (sclAll r0 c0 x0 ((a1, b1, c1, e1), x1)) ∧ r = rI (sclAll r0 c0 x0 ((a1, b1, c1, e1), x1)) r0 ∧ c = rI (sclAll r0 c0 x0 ((a1, b1, c1, e1), x1)) c0 ∧ x = (if sclAll r0 c0 x0 ((a1, b1, c1, e1), x1) then sclL r0.toNat c0.toNat x0 ((a1, b1, c1, e1), x1) else []) ∧ w1.heap.size ≤ lo ∧ w1.heap.size ≤ g ∧ hi ≤ wx.heap.size ∧ (g < lo ∨ hi ≤ g) ∧ LocM wx g r c A x.length p ∧ FlatIn wx A (flatD x) lo hi ∧ Below w1.heap.size w1 wx)
    case first =>
      go_region_held3 (fun w' => (∀ b o, b < w1.heap.size → w'.cell? ⟨b, o, none⟩ = w1.cell? ⟨b, o, none⟩) ∧ Below w1.heap.size w1 w') ((refine SB_mk ?_; go_grown)) (first | (go_at_call 45; refine (toMatrix_any _ _ _ _ _ _ ?_ ?_).mono ?_; exact hn0; exact flat_sb Hf0.out B (by with_reducible assumption); rintro e wA ⟨gA, rfl, fA', bA⟩; have fA := Lib.hid fA'; clear fA'; obtain ⟨bAc, bAf⟩ := bcell bA; have sA := (SB_step (W := w1) (by with_reducible assumption) bA).2; have zA := sA.size; (try with_reducible have yA := lt_size bA); (try with_reducible have yA := lt_sizeD bA); (try with_reducible have vA := Nat.lt_of_lt_of_le (by assumption) bA.size)) | (go_at_call 49; refine (toDyadic_any a1 b1 c1 e1 x1 _).mono ?_; rintro e wC ⟨rfl, bC⟩; obtain ⟨bCc, bCf⟩ := bcell bC; have sC := (SB_step (W := w1) (by with_reducible assumption) bC).2; have zC := sC.size; (try with_reducible have yC := lt_size bC); (try with_reducible have yC := lt_sizeD bC); (try with_reducible have vC := Nat.lt_of_lt_of_le (by assumption) bC.size)) | (go_at_call 48; (first | refine (specScale_any r0 c0 _ _ x0 ((a1, b1, c1, e1), x1) _ (by show FlatAt _ _ _; repeat (first | (with_reducible exact fA.out.at) | (with_reducible refine FlatAt.alloc ?_ _) | (with_reducible refine FlatAt.drew ?_) | (with_reducible refine FlatAt.below ?_ bC)))).mono ?_); rintro e wR hm; obtain ⟨AR, pR, rR, cR, xR, rfl, hr, hc, hx, hf, bR⟩ := hm.form; have eR := Lib.hid (And.intro hr (And.intro hc hx)); obtain ⟨loR, hloR, hloR', hf'⟩ := SB_lo (W := w1) (by with_reducible assumption) bR hf; have fR := Lib.hid hf'; clear hm hr hc hx hf hf'; obtain ⟨bRc, bRf⟩ := bcell bR; have sR := (SB_step (W := w1) (by with_reducible assumption) bR).2; have zR := sR.size; (try with_reducible have yR := lt_size bR); (try with_reducible have yR := lt_sizeD bR); (try with_reducible have vR := Nat.lt_of_lt_of_le (by assumption) bR.size)))
      all_goals
        go_wp2_with fail
        go_meet
        refine ⟨_, loR, wR.heap.size, pR, AR, rR, cR, xR, rfl, rfl, eR.out.1, eR.out.2.1, eR.out.2.2, hloR, ?_, ?_, ?_, ⟨?_, ?_, ?_, ?_⟩, ?_, ?_⟩
        · first | omega | (simp; omega)
        · go_size
        · first | omega | (have h := hloR'; simp only [World.size_alloc, World.size_drew] at h; omega)
        · go_size
        · go_simp
        · go_simp
        · go_simp
        · have h := hloR'
          try simp only [World.size_alloc, World.size_drew] at h
          repeat (first | (with_reducible exact fR.out) | (refine FlatIn.setFar ?_ (by dsimp only; omega) _) | (refine FlatIn.alloc ?_ _) | (refine FlatIn.drew ?_))
        · go_grown
    case rest =>
      obtain ⟨w2, rfl⟩ : ∃ w2 : World, w2 = wc := ⟨_, rfl⟩
      obtain ⟨gW, loW, hiW, pW, AW, rW, cW, xW, rfl, rfl, hrW, hcW, hxW, hloW, hgW, hhiW, hgdW, hL, hF, bw2⟩ := hcut
      have hnW : xW.length ≤ 1048576 := by rw [hxW]; exact sclBd _ _ _ _
      have hmW : xW.length ≤ 9223372036854775807 := by omega
      have EW := Lib.hid (And.intro hrW (And.intro hcW (hxW)))
      clear hrW hcW hxW
      have ltgW := hL.lt
      have LW := Lib.hid hL
      have FW := Lib.hid hF
      clear hL hF
      clear P0c0 P0c1 P0c2
      clear D1lt D1c0 D1c1 D1c2 D1c3 D1c4
      have zw2 := bw2.size
      replace B := B.trans (bw2.mono B.size)
      replace P0 := Lib.hid (P0.out.call bw2)
      replace D1 := Lib.hid (D1.out.call bw2)
      clear bw2
      obtain ⟨_, P0c0, P0c1, P0c2⟩ := P0.out
      go_wp2_with fail
      refine (toMatrix_any r0 c0 A0 p0 x0 _ hn0 (by refine Hf0.out.below B)).mono ?_
      rintro e w3 ⟨g0, rfl, fw3, bw3⟩
      go_upto_region 7 with fail
      generalize hW : w3.alloc (.cells #[.int .i64 r0, .int .i64 c0, .slice (some ⟨g0, 0, none⟩) x0.length x0.length] 67) = V4
      have bV4 : Below w2.heap.size w2 V4 := by rw [← hW]; exact Below.alloc bw3 bw3.size _
      have X0 : Hid (LocM V4 w3.heap.size r0 c0 (some ⟨g0, 0, none⟩) x0.length x0.length) := LocM.of_row (by rw [← hW]; exact heap_top _ _ rfl)
      have F0 : Hid (FlatIn V4 (some ⟨g0, 0, none⟩) (flatD x0) w2.heap.size w3.heap.size) := by rw [← hW]; exact fw3.alloc _
      have sw3 := bw3.size
      have sV4 : w3.heap.size < V4.heap.size := by rw [← hW]; go_size
      clear P0c0 P0c1 P0c2
      clear hW fw3 bw3
      replace B := B.trans (bV4.mono B.size)
      replace P0 := Lib.hid (P0.out.call bV4)
      replace D1 := Lib.hid (D1.out.call bV4)
      replace LW := Lib.hid (LW.out.call bV4)
      replace FW := Lib.hid (FW.out.call bV4)
      clear bV4
      go_upto_region 7 with fail
      obtain ⟨_, X0c0, X0c1, X0c2⟩ := X0.out
      have D1lt := D1.out.1
      obtain ⟨D1c0, D1c1, D1c2, D1c3, D1c4⟩ := D1.out.five
      go_cut [9, 10] (fun sA sB wx => ∃ (g lo hi p : Nat) (A : Option Addr) (r c : Int) (x : List D5), sA = .pointer (some ⟨g, 0, none⟩) ∧ sB = .bool (sclAll r0 c0 x0 ((a1, b1, c1, e1), x1)) ∧ r = rI (sclAll r0 c0 x0 ((a1, b1, c1, e1), x1)) r0 ∧ c = rI (sclAll r0 c0 x0 ((a1, b1, c1, e1), x1)) c0 ∧ x = (if sclAll r0 c0 x0 ((a1, b1, c1, e1), x1) then sclL r0.toNat c0.toNat x0 ((a1, b1, c1, e1), x1) else []) ∧ V4.heap.size ≤ lo ∧ V4.heap.size ≤ g ∧ hi ≤ wx.heap.size ∧ (g < lo ∨ hi ≤ g) ∧ LocM wx g r c A x.length p ∧ FlatIn wx A (flatD x) lo hi ∧ Below V4.heap.size V4 wx)
      case first =>
        go_region_held3 (fun w' => (∀ b o, b < V4.heap.size → w'.cell? ⟨b, o, none⟩ = V4.cell? ⟨b, o, none⟩) ∧ Below V4.heap.size V4 w') ((refine SB_mk ?_; go_grown)) (first | (go_at_call 49; refine (toDyadic_any a1 b1 c1 e1 x1 _).mono ?_; rintro e wC ⟨rfl, bC⟩; obtain ⟨bCc, bCf⟩ := bcell bC; have sC := (SB_step (W := V4) (by with_reducible assumption) bC).2; have zC := sC.size; (try with_reducible have yC := lt_size bC); (try with_reducible have yC := lt_sizeD bC); (try with_reducible have vC := Nat.lt_of_lt_of_le (by assumption) bC.size)) | (go_at_call 50; (first | refine (implScale_any r0 c0 _ _ x0 ((a1, b1, c1, e1), x1) _ hn0 (by show FlatAt _ _ _; repeat (first | (with_reducible exact F0.out.at) | (with_reducible exact flatin_sb F0.out (by with_reducible assumption))))).mono ?_); rintro e wR hm; obtain ⟨AR, pR, rR, cR, xR, rfl, hr, hc, hx, hf, bR⟩ := hm.form; have eR := Lib.hid (And.intro hr (And.intro hc hx)); obtain ⟨loR, hloR, hloR', hf'⟩ := SB_lo (W := V4) (by with_reducible assumption) bR hf; have fR := Lib.hid hf'; clear hm hr hc hx hf hf'; obtain ⟨bRc, bRf⟩ := bcell bR; have sR := (SB_step (W := V4) (by with_reducible assumption) bR).2; have zR := sR.size; (try with_reducible have yR := lt_size bR); (try with_reducible have yR := lt_sizeD bR); (try with_reducible have vR := Nat.lt_of_lt_of_le (by assumption) bR.size)))
        all_goals
          go_wp2_with fail
          go_meet
          refine ⟨_, loR, wR.heap.size, pR, AR, rR, cR, xR, rfl, rfl, eR.out.1, eR.out.2.1, eR.out.2.2, hloR, ?_, ?_, ?_, ⟨?_, ?_, ?_, ?_⟩, ?_, ?_⟩
          · first | omega | (simp; omega)
          · go_size
          · first | omega | (have h := hloR'; simp only [World.size_alloc, World.size_drew] at h; omega)
          · go_size
          · go_simp
          · go_simp
          · go_simp
          · have h := hloR'
            try simp only [World.size_alloc, World.size_drew] at h
            repeat (first | (with_reducible exact fR.out) | (refine FlatIn.setFar ?_ (by dsimp only; omega) _) | (refine FlatIn.alloc ?_ _) | (refine FlatIn.drew ?_))
          · go_grown
      case rest =>
        obtain ⟨w5, rfl⟩ : ∃ w5 : World, w5 = wc := ⟨_, rfl⟩
        obtain ⟨gG, loG, hiG, pG, AG, rG, cG, xG, rfl, rfl, hrG, hcG, hxG, hloG, hgG, hhiG, hgdG, hL, hF, bw5⟩ := hcut
        replace hrG := (hrG.trans (EW.out.1).symm).symm
        subst hrG
        replace hcG := (hcG.trans (EW.out.2.1).symm).symm
        subst hcG
        replace hxG := (hxG.trans (EW.out.2.2).symm).symm
        subst hxG
        have ltgG := hL.lt
        have LG := Lib.hid hL
        have FG := Lib.hid hF
        clear hL hF
        clear X0c0 X0c1 X0c2
        clear D1lt D1c0 D1c1 D1c2 D1c3 D1c4
        have zw5 := bw5.size
        replace B := B.trans (bw5.mono B.size)
        replace P0 := Lib.hid (P0.out.call bw5)
        replace D1 := Lib.hid (D1.out.call bw5)
        replace LW := Lib.hid (LW.out.call bw5)
        replace FW := Lib.hid (FW.out.call bw5)
        replace X0 := Lib.hid (X0.out.call bw5)
        replace F0 := Lib.hid (F0.out.call bw5)
        clear bw5
        obtain ⟨_, LGc0, LGc1, LGc2⟩ := LG.out
        obtain ⟨_, LWc0, LWc1, LWc2⟩ := LW.out
        go_wp2_with fail
        refine (eqMatrix_same rW cW _ _ _ _ xW _ hmW FG.out.at FW.out.at).mono ?_
        rintro e w6 ⟨rfl, bw6⟩
        have zw6 := bw6.size
        replace B := B.trans (bw6.mono B.size)
        replace P0 := Lib.hid (P0.out.call bw6)
        replace D1 := Lib.hid (D1.out.call bw6)
        replace LW := Lib.hid (LW.out.call bw6)
        replace FW := Lib.hid (FW.out.call bw6)
        replace X0 := Lib.hid (X0.out.call bw6)
        replace F0 := Lib.hid (F0.out.call bw6)
        replace LG := Lib.hid (LG.out.call bw6)
        replace FG := Lib.hid (FG.out.call bw6)
        clear LGc0 LGc1 LGc2
        clear LWc0 LWc1 LWc2
        clear bw6
        go_upto_region 10 with fail
        obtain ⟨_, P0c0, P0c1, P0c2⟩ := P0.out
        obtain ⟨_, X0c0, X0c1, X0c2⟩ := X0.out
        go_cut [51] (fun sA wx => sA = .bool false ∧ Below w6.heap.size w6 wx)
        case first =>
          go_region_held3 (fun w' => (∀ b o, b < w6.heap.size → w'.cell? ⟨b, o, none⟩ = w6.cell? ⟨b, o, none⟩) ∧ Below w6.heap.size w6 w') ((refine SB_mk ?_; go_grown)) (first | (go_at_call 45; refine (toMatrix_any _ _ _ _ _ _ ?_ ?_).mono ?_; exact hn0; exact flat_sb Hf0.out B (by with_reducible assumption); rintro e wA ⟨gA, rfl, fA', bA⟩; have fA := Lib.hid fA'; clear fA'; obtain ⟨bAc, bAf⟩ := bcell bA; have sA := (SB_step (W := w6) (by with_reducible assumption) bA).2; have zA := sA.size) | (go_at_call 47; refine (eqMatrix_same r0 c0 _ _ _ _ x0 _ hm0 (flatin_sb F0.out (by with_reducible assumption)) fA.out.at).mono ?_; rintro e wB ⟨rfl, bB⟩; obtain ⟨bBc, bBf⟩ := bcell bB; have sB := (SB_step (W := w6) (by with_reducible assumption) bB).2; have zB := sB.size))
          all_goals
            go_wp2_with fail
            go_meet
            exact ⟨rfl, by go_grown⟩
        case rest =>
          obtain ⟨w7, rfl⟩ : ∃ w7 : World, w7 = wc := ⟨_, rfl⟩
          obtain ⟨rfl, bw7⟩ := hcut
          have zw7 := bw7.size
          replace B := B.trans (bw7.mono B.size)
          replace P0 := Lib.hid (P0.out.call bw7)
          replace D1 := Lib.hid (D1.out.call bw7)
          replace LW := Lib.hid (LW.out.call bw7)
          replace FW := Lib.hid (FW.out.call bw7)
          replace X0 := Lib.hid (X0.out.call bw7)
          replace F0 := Lib.hid (F0.out.call bw7)
          replace LG := Lib.hid (LG.out.call bw7)
          replace FG := Lib.hid (FG.out.call bw7)
          clear bw7
          clear P0c0 P0c1 P0c2
          clear X0c0 X0c1 X0c2
          obtain ⟨_, X0c0, X0c1, X0c2⟩ := X0.out
          go_wp2_with fail
          refine (markMatrix_any r0 c0 _ _ x0.length (1) (flatD x0) _ _ _ hn0 (by omega) (flatD_len x0) F0.out).mono ?_
          rintro e w8 ⟨rfl, fw8, tw8⟩
          clear X0c0 X0c1 X0c2
          have sw8 := tw8.size
          replace F0 := Lib.hid fw8
          replace P0 := Lib.hid (P0.out.touch tw8 (by omega))
          replace D1 := Lib.hid (D1.out.touch tw8 (by omega))
          replace LW := Lib.hid (LW.out.touch tw8 (by omega))
          replace FW := Lib.hid (FW.out.touch tw8 (by omega))
          replace X0 := Lib.hid (X0.out.touch tw8 (by omega))
          replace LG := Lib.hid (LG.out.touch tw8 (by omega))
          replace FG := Lib.hid (FG.out.touch tw8 (by omega))
          replace B := B.trans (tw8.far (by omega) B.size)
          clear fw8 tw8
          obtain ⟨_, LGc0, LGc1, LGc2⟩ := LG.out
          obtain ⟨_, LWc0, LWc1, LWc2⟩ := LW.out
          go_wp2_with fail
          refine (eqMatrix_same rW cW _ _ _ _ xW _ hmW FG.out.at FW.out.at).mono ?_
          rintro e w9 ⟨rfl, bw9⟩
          have zw9 := bw9.size
          replace B := B.trans (bw9.mono B.size)
          replace P0 := Lib.hid (P0.out.call bw9)
          replace D1 := Lib.hid (D1.out.call bw9)
          replace LW := Lib.hid (LW.out.call bw9)
          replace FW := Lib.hid (FW.out.call bw9)
          replace X0 := Lib.hid (X0.out.call bw9)
          replace F0 := Lib.hid (F0.out.call bw9)
          replace LG := Lib.hid (LG.out.call bw9)
          replace FG := Lib.hid (FG.out.call bw9)
          clear LGc0 LGc1 LGc2
          clear LWc0 LWc1 LWc2
          clear bw9
          obtain ⟨_, LGc0, LGc1, LGc2⟩ := LG.out
          go_wp2_with fail
          refine (markMatrix_any rW cW _ _ xW.length (1) (flatD xW) _ _ _ hnW (by omega) (flatD_len xW) FG.out).mono ?_
          rintro e w10 ⟨rfl, fw10, tw10⟩
          clear LGc0 LGc1 LGc2
          have sw10 := tw10.size
          replace FG := Lib.hid fw10
          replace P0 := Lib.hid (P0.out.touch tw10 (by omega))
          replace D1 := Lib.hid (D1.out.touch tw10 (by omega))
          replace LW := Lib.hid (LW.out.touch tw10 (by omega))
          replace FW := Lib.hid (FW.out.touch tw10 (by omega))
          replace X0 := Lib.hid (X0.out.touch tw10 (by omega))
          replace F0 := Lib.hid (F0.out.touch tw10 (by omega))
          replace LG := Lib.hid (LG.out.touch tw10 (by omega))
          replace B := B.trans (tw10.far (by omega) B.size)
          clear fw10 tw10
          obtain ⟨_, LGc0, LGc1, LGc2⟩ := LG.out
          go_wp2_with fail
          refine (heldMatrix_any rW cW _ _ xW.length (1) _ hnW (by omega) FG.out.at).mono ?_
          rintro e w11 ⟨rfl, bw11⟩
          have zw11 := bw11.size
          replace B := B.trans (bw11.mono B.size)
          replace P0 := Lib.hid (P0.out.call bw11)
          replace D1 := Lib.hid (D1.out.call bw11)
          replace LW := Lib.hid (LW.out.call bw11)
          replace FW := Lib.hid (FW.out.call bw11)
          replace X0 := Lib.hid (X0.out.call bw11)
          replace F0 := Lib.hid (F0.out.call bw11)
          replace LG := Lib.hid (LG.out.call bw11)
          replace FG := Lib.hid (FG.out.call bw11)
          clear LGc0 LGc1 LGc2
          clear bw11
          go_upto_region 24 with fail
          obtain ⟨_, P0c0, P0c1, P0c2⟩ := P0.out
          have D1lt := D1.out.1
          obtain ⟨D1c0, D1c1, D1c2, D1c3, D1c4⟩ := D1.out.five
          go_cut [14, 15] (fun sA sB wx => ∃ (g lo hi p : Nat) (A : Option Addr) (r c : Int) (x : List D5), sA = .pointer (some ⟨g, 0, none⟩) ∧ sB = .bool (sclAll r0 c0 x0 ((a1, b1, c1, e1), x1)) ∧ r = rI (sclAll r0 c0 x0 ((a1, b1, c1, e1), x1)) r0 ∧ c = rI (sclAll r0 c0 x0 ((a1, b1, c1, e1), x1)) c0 ∧ x = (if sclAll r0 c0 x0 ((a1, b1, c1, e1), x1) then sclL r0.toNat c0.toNat x0 ((a1, b1, c1, e1), x1) else []) ∧ w11.heap.size ≤ lo ∧ w11.heap.size ≤ g ∧ hi ≤ wx.heap.size ∧ (g < lo ∨ hi ≤ g) ∧ LocM wx g r c A x.length p ∧ FlatIn wx A (flatD x) lo hi ∧ Below w11.heap.size w11 wx)
          case first =>
            go_region_held3 (fun w' => (∀ b o, b < w11.heap.size → w'.cell? ⟨b, o, none⟩ = w11.cell? ⟨b, o, none⟩) ∧ Below w11.heap.size w11 w') ((refine SB_mk ?_; go_grown)) (first | (go_at_call 45; refine (toMatrix_any _ _ _ _ _ _ ?_ ?_).mono ?_; exact hn0; exact flat_sb Hf0.out B (by with_reducible assumption); rintro e wA ⟨gA, rfl, fA', bA⟩; have fA := Lib.hid fA'; clear fA'; obtain ⟨bAc, bAf⟩ := bcell bA; have sA := (SB_step (W := w11) (by with_reducible assumption) bA).2; have zA := sA.size; (try with_reducible have yA := lt_size bA); (try with_reducible have yA := lt_sizeD bA); (try with_reducible have vA := Nat.lt_of_lt_of_le (by assumption) bA.size)) | (go_at_call 49; refine (toDyadic_any a1 b1 c1 e1 x1 _).mono ?_; rintro e wC ⟨rfl, bC⟩; obtain ⟨bCc, bCf⟩ := bcell bC; have sC := (SB_step (W := w11) (by with_reducible assumption) bC).2; have zC := sC.size; (try with_reducible have yC := lt_size bC); (try with_reducible have yC := lt_sizeD bC); (try with_reducible have vC := Nat.lt_of_lt_of_le (by assumption) bC.size)) | (go_at_call 50; (first | refine (implScale_any r0 c0 _ _ x0 ((a1, b1, c1, e1), x1) _ hn0 (by show FlatAt _ _ _; repeat (first | (with_reducible exact fA.out.at) | (with_reducible refine FlatAt.alloc ?_ _) | (with_reducible refine FlatAt.drew ?_) | (with_reducible refine FlatAt.below ?_ bC)))).mono ?_); rintro e wR hm; obtain ⟨AR, pR, rR, cR, xR, rfl, hr, hc, hx, hf, bR⟩ := hm.form; have eR := Lib.hid (And.intro hr (And.intro hc hx)); obtain ⟨loR, hloR, hloR', hf'⟩ := SB_lo (W := w11) (by with_reducible assumption) bR hf; have fR := Lib.hid hf'; clear hm hr hc hx hf hf'; obtain ⟨bRc, bRf⟩ := bcell bR; have sR := (SB_step (W := w11) (by with_reducible assumption) bR).2; have zR := sR.size; (try with_reducible have yR := lt_size bR); (try with_reducible have yR := lt_sizeD bR); (try with_reducible have vR := Nat.lt_of_lt_of_le (by assumption) bR.size)))
            all_goals
              go_wp2_with fail
              go_meet
              refine ⟨_, loR, wR.heap.size, pR, AR, rR, cR, xR, rfl, rfl, eR.out.1, eR.out.2.1, eR.out.2.2, hloR, ?_, ?_, ?_, ⟨?_, ?_, ?_, ?_⟩, ?_, ?_⟩
              · first | omega | (simp; omega)
              · go_size
              · first | omega | (have h := hloR'; simp only [World.size_alloc, World.size_drew] at h; omega)
              · go_size
              · go_simp
              · go_simp
              · go_simp
              · have h := hloR'
                try simp only [World.size_alloc, World.size_drew] at h
                repeat (first | (with_reducible exact fR.out) | (refine FlatIn.setFar ?_ (by dsimp only; omega) _) | (refine FlatIn.alloc ?_ _) | (refine FlatIn.drew ?_))
              · go_grown
          case rest =>
            obtain ⟨w12, rfl⟩ : ∃ w12 : World, w12 = wc := ⟨_, rfl⟩
            obtain ⟨gH, loH, hiH, pH, AH, rH, cH, xH, rfl, rfl, hrH, hcH, hxH, hloH, hgH, hhiH, hgdH, hL, hF, bw12⟩ := hcut
            replace hrH := (hrH.trans (EW.out.1).symm).symm
            subst hrH
            replace hcH := (hcH.trans (EW.out.2.1).symm).symm
            subst hcH
            replace hxH := (hxH.trans (EW.out.2.2).symm).symm
            subst hxH
            have ltgH := hL.lt
            have LH := Lib.hid hL
            have FH := Lib.hid hF
            clear hL hF
            clear P0c0 P0c1 P0c2
            clear D1lt D1c0 D1c1 D1c2 D1c3 D1c4
            have zw12 := bw12.size
            replace B := B.trans (bw12.mono B.size)
            replace P0 := Lib.hid (P0.out.call bw12)
            replace D1 := Lib.hid (D1.out.call bw12)
            replace LW := Lib.hid (LW.out.call bw12)
            replace FW := Lib.hid (FW.out.call bw12)
            replace X0 := Lib.hid (X0.out.call bw12)
            replace F0 := Lib.hid (F0.out.call bw12)
            replace LG := Lib.hid (LG.out.call bw12)
            replace FG := Lib.hid (FG.out.call bw12)
            clear bw12
            obtain ⟨_, LHc0, LHc1, LHc2⟩ := LH.out
            obtain ⟨_, LWc0, LWc1, LWc2⟩ := LW.out
            go_wp2_with fail
            refine (eqMatrix_same rW cW _ _ _ _ xW _ hmW FH.out.at FW.out.at).mono ?_
            rintro e w13 ⟨rfl, bw13⟩
            have zw13 := bw13.size
            replace B := B.trans (bw13.mono B.size)
            replace P0 := Lib.hid (P0.out.call bw13)
            replace D1 := Lib.hid (D1.out.call bw13)
            replace LW := Lib.hid (LW.out.call bw13)
            replace FW := Lib.hid (FW.out.call bw13)
            replace X0 := Lib.hid (X0.out.call bw13)
            replace F0 := Lib.hid (F0.out.call bw13)
            replace LG := Lib.hid (LG.out.call bw13)
            replace FG := Lib.hid (FG.out.call bw13)
            replace LH := Lib.hid (LH.out.call bw13)
            replace FH := Lib.hid (FH.out.call bw13)
            clear LHc0 LHc1 LHc2
            clear LWc0 LWc1 LWc2
            clear bw13
            obtain ⟨_, LGc0, LGc1, LGc2⟩ := LG.out
            go_wp2_with fail
            refine (heldMatrix_any rW cW _ _ xW.length (1) _ hnW (by omega) FG.out.at).mono ?_
            rintro e w14 ⟨rfl, bw14⟩
            have zw14 := bw14.size
            replace B := B.trans (bw14.mono B.size)
            replace P0 := Lib.hid (P0.out.call bw14)
            replace D1 := Lib.hid (D1.out.call bw14)
            replace LW := Lib.hid (LW.out.call bw14)
            replace FW := Lib.hid (FW.out.call bw14)
            replace X0 := Lib.hid (X0.out.call bw14)
            replace F0 := Lib.hid (F0.out.call bw14)
            replace LG := Lib.hid (LG.out.call bw14)
            replace FG := Lib.hid (FG.out.call bw14)
            replace LH := Lib.hid (LH.out.call bw14)
            replace FH := Lib.hid (FH.out.call bw14)
            clear LGc0 LGc1 LGc2
            clear bw14
            go_wp2
            go_ret
            exact ⟨rfl, B⟩
  · go_enter Try.func10, Try.ntmps10
    go_upto_region 1 with fail
    generalize hW0 : (w.alloc (.cells #[.int .i64 r0, .int .i64 c0, .slice A0 x0.length p0] 61)).alloc (.cells #[.int .i64 a1, .int .i64 b1, .int .i64 c1, .int .i64 e1, .int .i64 x1] 73) = W0
    have B : Below w.heap.size w W0 := by rw [← hW0]; go_grown
    have P0 : Hid (LocM W0 w.heap.size r0 c0 A0 x0.length p0) := LocM.of_row (by rw [← hW0]; exact (Below.heap_alloc _ _ _ (by go_size)).trans (heap_top _ _ rfl))
    have D1 : Hid (LocD W0 (w.heap.size + 1) ((a1, b1, c1, e1), x1)) := LocD.of_row (by rw [← hW0]; exact heap_top _ _ (by simp))
    clear hW0
    have sW0 : w.heap.size + 2 ≤ W0.heap.size := by have := D1.out.1; omega
    obtain ⟨_, P0c0, P0c1, P0c2⟩ := P0.out
    go_wp2_with fail
    refine (szMatrix_any _ _ _ _ _ _ _ (by omega) hm0).mono ?_
    rintro e w1 ⟨rfl, bw1⟩
    rw [if_pos (by omega)]
    have zw1 := bw1.size
    replace B := B.trans (bw1.mono B.size)
    replace P0 := Lib.hid (P0.out.call bw1)
    replace D1 := Lib.hid (D1.out.call bw1)
    clear P0c0 P0c1 P0c2
    clear bw1
    go_wp2
    go_ret
    exact ⟨rfl, B⟩

set_option maxRecDepth 100000 in
theorem fnExactScaleMatrix_lifted (os : Os) (started : os.Started) (H : Type) (enc : TypeId × Value → H) :
    ReturnsInHanded {} Try.checked os 10 .any (Rows.fnExactScaleMatrixSpec.pre6 enc Try.prog Try.f10 Rows.fnExactScaleMatrixRow.domain false) (Rows.fnExactScaleMatrixSpec.post enc Try.prog Try.f10 false true false false) := by
  refine law_lifted (C := Try.checked) (tb := 4) Try.own started (by kernel_rfl) Try.func10
    (ChangeSpec.witness6 (enc := enc) (C := Try.checked) false ⟨#[], #[.agg #[.int .i64 0, .int .i64 0, .slice none 0 0], .agg #[.int .i64 0, .int .i64 0, .int .i64 0, .int .i64 0, .int .i64 0]], []⟩ 8 (by kernel_rfl) (by kernel_rfl) (by kernel_rfl) (by kernel_rfl))
    Try.laidOut (by kernel_rfl) rfl rfl Try.underlying4 (fun es he => ?_) ?_
  · match es, he with
    | [_, _], _ => rfl
  · intro W base args ds p hval0 hA hwt hsh hblk
    have hval : ∀ (j : Nat) t v, Try.f10.params[j]? = some t → args[j]? = some v → Value.okWide Try.prog W .any base t v := hval0
    have hA' : DataW.TrodAll enc Try.prog W 0 (fun _ => true) true Try.f10.params.toList args.toList ds p := hA
    rw [Try.params10] at hA' hval
    obtain ⟨v0, v1, d0, d1, p0, p1, rfl, rfl, rfl, h0, h1⟩ := trodAll_two hA'
    obtain ⟨r0, c0, A0, p0, x0, rfl, hl0, hf0⟩ := open_matrix (hval 0 61 v0 rfl rfl) h0
    obtain ⟨a1, b1, c1, e1, x1, rfl⟩ := open_dyadic (hval 1 73 v1 rfl rfl) h1
    exact fnExactScaleMatrix_any r0 c0 A0 p0 x0 a1 b1 c1 e1 x1 W hl0 hf0

theorem fnExactScaleMatrix_holds : Rows.FnExactScaleMatrixSaid :=
  OpenClaim.holds_of_wide 10 Try.f10 rfl rfl rfl rfl rfl rfl rfl ⟨rfl, rfl, rfl, rfl, rfl⟩ rfl rfl rfl rfl rfl (by kernel_rfl) Try.func10 (by kernel_rfl)
    (of_decide_eq_true (by kernel_rfl)) (by unfold Func.isWrapper; first | (rw [if_pos (by decide +kernel)]; kernel_rfl) | (rw [if_neg (by decide +kernel)]; exact ⟨rfl, rfl⟩))
    (fun os started H enc _ => fnExactScaleMatrix_lifted os started H enc)

end Go.Proofs.Ytcmkkjdleihjfaa
