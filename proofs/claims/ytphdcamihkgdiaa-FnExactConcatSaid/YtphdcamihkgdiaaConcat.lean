/- FnExactConcat is proved: the program's Concat returns what the reference's returns, for all arguments. No conditions. -/
import Derived.Test.YtphdcamihkgdiaaFrame
import Derived.Test.YtphdcamihkgdiaaOpenC
import Derived.Test.YtphdcamihkgdiaaResC
import Derived.Test.YtphdcamihkgdiaaLocC
import Derived.Deep.DeepCutAuto
namespace Go.Proofs.Ytphdcamihkgdiaa
open Go.RowKit Go.WideShapes Go.ChangeShapes Go.ChangeAt

set_option maxRecDepth 100000 in
set_option maxHeartbeats 8000000 in
theorem fnExactConcat_any (q0 : Int) (A0 : Option Addr) (p0 : Nat) (x0 : List G3) (q1 : Int) (A1 : Option Addr) (p1 : Nat) (x1 : List G3) (w : World) (hl0 : x0.length ≤ maxLen) (hf0 : FlatAt w A0 (flatG x0)) (hl1 : x1.length ≤ maxLen) (hf1 : FlatAt w A1 (flatG x1)) :
    Calls Try.prog 8 #[cv q0 A0 x0.length p0, cv q1 A1 x1.length p1] w fun e w' => e = .returned (.bool true) ∧ Below w.heap.size w w' := by
  have Hf0 := Lib.hid hf0
  clear hf0
  have hm0 : x0.length ≤ 9223372036854775807 := hl0
  have Hf1 := Lib.hid hf1
  clear hf1
  have hm1 : x1.length ≤ 9223372036854775807 := hl1
  by_cases hn0 : x0.length ≤ 1048576
  · skip
    by_cases hc1 : x1.length ≤ 1048576 - x0.length
    · have hn1 : x1.length ≤ 1048576 := by omega
      go_enter Try.func8, Try.ntmps8
      go_upto_region 1 with fail
      generalize hW0 : (w.alloc (.cells #[.int .i64 q0, .slice A0 x0.length p0] 24)).alloc (.cells #[.int .i64 q1, .slice A1 x1.length p1] 24) = W0
      have B : Below w.heap.size w W0 := by rw [← hW0]; go_grown
      have P0 : Hid (LocC W0 w.heap.size q0 A0 x0.length p0) := LocC.of_row (by rw [← hW0]; exact (Below.heap_alloc _ _ _ (by go_size)).trans (heap_top _ _ rfl))
      have P1 : Hid (LocC W0 (w.heap.size + 1) q1 A1 x1.length p1) := LocC.of_row (by rw [← hW0]; exact heap_top _ _ (by simp))
      clear hW0
      have sW0 : w.heap.size + 2 ≤ W0.heap.size := by have := P1.out.lt; omega
      obtain ⟨_, P0c0, P0c1⟩ := P0.out
      go_wp2_with fail
      refine (szCircuit_any _ _ _ _ _ _ (by omega) hm0).mono ?_
      rintro e w1 ⟨rfl, bw1⟩
      rw [if_neg (by omega)]
      have zw1 := bw1.size
      replace B := B.trans (bw1.mono B.size)
      replace P0 := Lib.hid (P0.out.call bw1)
      replace P1 := Lib.hid (P1.out.call bw1)
      clear P0c0 P0c1
      clear bw1
      obtain ⟨_, P1c0, P1c1⟩ := P1.out
      go_wp2_with fail
      refine (szCircuit_any _ _ _ _ _ _ (by omega) hm1).mono ?_
      rintro e w2 ⟨rfl, bw2⟩
      rw [if_neg (by omega)]
      have zw2 := bw2.size
      replace B := B.trans (bw2.mono B.size)
      replace P0 := Lib.hid (P0.out.call bw2)
      replace P1 := Lib.hid (P1.out.call bw2)
      clear P1c0 P1c1
      clear bw2
      have hn1' := hn1
      go_upto_region 8 with fail
      obtain ⟨_, P0c0, P0c1⟩ := P0.out
      obtain ⟨_, P1c0, P1c1⟩ := P1.out
      go_cut [6, 7] (fun sA sB wx => ∃ (g lo hi p : Nat) (A : Option Addr) (q : Int) (x : List G3), sA = .pointer (some ⟨g, 0, none⟩) ∧ sB = .bool (catOk q0 x0 q1 x1) ∧ q = rI (catOk q0 x0 q1 x1) q0 ∧ x = (if catOk q0 x0 q1 x1 then x0 ++ x1 else []) ∧ w2.heap.size ≤ lo ∧ w2.heap.size ≤ g ∧ hi ≤ wx.heap.size ∧ (g < lo ∨ hi ≤ g) ∧ LocC wx g q A x.length p ∧ FlatIn wx A (flatG x) lo hi ∧ Below w2.heap.size w2 wx)
      case first =>
        go_region_held3 (fun w' => (∀ b o, b < w2.heap.size → w'.cell? ⟨b, o, none⟩ = w2.cell? ⟨b, o, none⟩) ∧ Below w2.heap.size w2 w') ((refine SB_mk ?_; go_grown)) (first | (go_at_call 16; refine (toCircuit_any _ _ _ _ _ ?_ ?_).mono ?_; exact hn0; exact flat_sb Hf0.out B (by with_reducible assumption); rintro e wA ⟨gA, rfl, fA', bA⟩; have fA := Lib.hid fA'; clear fA'; obtain ⟨bAc, bAf⟩ := bcell bA; have sA := (SB_step (W := w2) (by with_reducible assumption) bA).2; have zA := sA.size; (try with_reducible have yA := lt_size bA); (try with_reducible have yA := lt_sizeD bA); (try with_reducible have vA := Nat.lt_of_lt_of_le (by assumption) bA.size)) | (go_at_call 16; refine (toCircuit_any _ _ _ _ _ ?_ ?_).mono ?_; exact hn1; exact flat_sb Hf1.out B (by with_reducible assumption); rintro e wC ⟨gC, rfl, fC', bC⟩; have fC := Lib.hid fC'; clear fC'; obtain ⟨bCc, bCf⟩ := bcell bC; have sC := (SB_step (W := w2) (by with_reducible assumption) bC).2; have zC := sC.size; (try with_reducible have yC := lt_size bC); (try with_reducible have yC := lt_sizeD bC); (try with_reducible have vC := Nat.lt_of_lt_of_le (by assumption) bC.size)) | (go_at_call 27; (first | refine (specCat_any q0 _ _ x0 q1 _ _ x1 _ hn0 hn1 (by show FlatAt _ _ _; repeat (first | (with_reducible exact fA.out.at) | (with_reducible refine FlatAt.alloc ?_ _) | (with_reducible refine FlatAt.drew ?_) | (with_reducible refine FlatAt.below ?_ bC))) (by show FlatAt _ _ _; repeat (first | (with_reducible exact fC.out.at) | (with_reducible refine FlatAt.alloc ?_ _) | (with_reducible refine FlatAt.drew ?_) | (with_reducible refine FlatAt.below ?_ bA)))).mono ?_); rintro e wR hm; obtain ⟨AR, pR, qR, xR, rfl, hq, hx, hf, bR⟩ := hm.form; have eR := Lib.hid (And.intro hq hx); obtain ⟨loR, hloR, hloR', hf'⟩ := SB_lo (W := w2) (by with_reducible assumption) bR hf; have fR := Lib.hid hf'; clear hm hq hx hf hf'; obtain ⟨bRc, bRf⟩ := bcell bR; have sR := (SB_step (W := w2) (by with_reducible assumption) bR).2; have zR := sR.size; (try with_reducible have yR := lt_size bR); (try with_reducible have yR := lt_sizeD bR); (try with_reducible have vR := Nat.lt_of_lt_of_le (by assumption) bR.size)))
        all_goals
          go_wp2_with fail
          go_meet
          refine ⟨_, loR, wR.heap.size, pR, AR, qR, xR, rfl, rfl, eR.out.1, eR.out.2, hloR, ?_, ?_, ?_, ⟨?_, ?_, ?_⟩, ?_, ?_⟩
          · first | omega | (simp; omega)
          · go_size
          · first | omega | (have h := hloR'; simp only [World.size_alloc] at h; omega)
          · go_size
          · go_simp
          · go_simp
          · have h := hloR'
            try simp only [World.size_alloc] at h
            repeat (first | (with_reducible exact fR.out) | (refine FlatIn.setFar ?_ (by dsimp only; omega) _) | (refine FlatIn.alloc ?_ _) | (refine FlatIn.drew ?_))
          · go_grown
      case rest =>
        obtain ⟨w3, rfl⟩ : ∃ w3 : World, w3 = wc := ⟨_, rfl⟩
        obtain ⟨gW, loW, hiW, pW, AW, qW, xW, rfl, rfl, hqW, hxW, hloW, hgW, hhiW, hgdW, hL, hF, bw3⟩ := hcut
        have hnW : xW.length ≤ 1048576 := by rw [hxW]; exact catBd _ _ _ _
        have hmW : xW.length ≤ 9223372036854775807 := by omega
        have EW := Lib.hid (And.intro hqW (hxW))
        clear hqW hxW
        have ltgW := hL.lt
        have LW := Lib.hid hL
        have FW := Lib.hid hF
        clear hL hF
        clear P0c0 P0c1
        clear P1c0 P1c1
        have zw3 := bw3.size
        replace B := B.trans (bw3.mono B.size)
        replace P0 := Lib.hid (P0.out.call bw3)
        replace P1 := Lib.hid (P1.out.call bw3)
        clear bw3
        obtain ⟨_, P0c0, P0c1⟩ := P0.out
        go_wp2_with fail
        refine (toCircuit_any q0 A0 p0 x0 _ hn0 (by refine Hf0.out.below B)).mono ?_
        rintro e w4 ⟨g0, rfl, fw4, bw4⟩
        go_upto_region 10 with fail
        generalize hW : w4.alloc (.cells #[.int .i64 q0, .slice (some ⟨g0, 0, none⟩) x0.length x0.length] 29) = V5
        have bV5 : Below w3.heap.size w3 V5 := by rw [← hW]; exact Below.alloc bw4 bw4.size _
        have X0 : Hid (LocC V5 w4.heap.size q0 (some ⟨g0, 0, none⟩) x0.length x0.length) := LocC.of_row (by rw [← hW]; exact heap_top _ _ rfl)
        have F0 : Hid (FlatIn V5 (some ⟨g0, 0, none⟩) (flatG x0) w3.heap.size w4.heap.size) := by rw [← hW]; exact fw4.alloc _
        have sw4 := bw4.size
        have sV5 : w4.heap.size < V5.heap.size := by rw [← hW]; go_size
        clear P0c0 P0c1
        clear hW fw4 bw4
        replace B := B.trans (bV5.mono B.size)
        replace P0 := Lib.hid (P0.out.call bV5)
        replace P1 := Lib.hid (P1.out.call bV5)
        replace LW := Lib.hid (LW.out.call bV5)
        replace FW := Lib.hid (FW.out.call bV5)
        clear bV5
        obtain ⟨_, P1c0, P1c1⟩ := P1.out
        go_wp2_with fail
        refine (toCircuit_any q1 A1 p1 x1 _ hn1 (by refine Hf1.out.below B)).mono ?_
        rintro e w6 ⟨g1, rfl, fw6, bw6⟩
        go_upto_region 11 with fail
        generalize hW : w6.alloc (.cells #[.int .i64 q1, .slice (some ⟨g1, 0, none⟩) x1.length x1.length] 29) = V7
        have bV7 : Below V5.heap.size V5 V7 := by rw [← hW]; exact Below.alloc bw6 bw6.size _
        have X1 : Hid (LocC V7 w6.heap.size q1 (some ⟨g1, 0, none⟩) x1.length x1.length) := LocC.of_row (by rw [← hW]; exact heap_top _ _ rfl)
        have F1 : Hid (FlatIn V7 (some ⟨g1, 0, none⟩) (flatG x1) V5.heap.size w6.heap.size) := by rw [← hW]; exact fw6.alloc _
        have sw6 := bw6.size
        have sV7 : w6.heap.size < V7.heap.size := by rw [← hW]; go_size
        clear P1c0 P1c1
        clear hW fw6 bw6
        replace B := B.trans (bV7.mono B.size)
        replace P0 := Lib.hid (P0.out.call bV7)
        replace P1 := Lib.hid (P1.out.call bV7)
        replace LW := Lib.hid (LW.out.call bV7)
        replace FW := Lib.hid (FW.out.call bV7)
        replace X0 := Lib.hid (X0.out.call bV7)
        replace F0 := Lib.hid (F0.out.call bV7)
        clear bV7
        obtain ⟨_, X0c0, X0c1⟩ := X0.out
        obtain ⟨_, X1c0, X1c1⟩ := X1.out
        go_wp2_with fail
        refine (implCat_any q0 _ _ x0 q1 _ _ x1 _ hn0 hn1 F0.out.at F1.out.at).mono ?_
        rintro e w8 hm
        obtain ⟨AG, pG, qG, xG, rfl, hqG, hxG, hfG, bw8⟩ := hm.form
        clear hm
        replace hqG := (hqG.trans (EW.out.1).symm).symm
        subst hqG
        replace hxG := (hxG.trans (EW.out.2).symm).symm
        subst hxG
        go_upto_region 12 with fail
        generalize hW : w8.alloc (.cells #[.int .i64 qW, .slice AG xW.length pG] 29) = V9
        have bV9 : Below V7.heap.size V7 V9 := by rw [← hW]; exact Below.alloc bw8 bw8.size _
        have LG : Hid (LocC V9 w8.heap.size qW AG xW.length pG) := LocC.of_row (by rw [← hW]; exact heap_top _ _ rfl)
        have FG : Hid (FlatIn V9 AG (flatG xW) V7.heap.size w8.heap.size) := by rw [← hW]; exact hfG.alloc _
        have sw8 := bw8.size
        have sV9 : w8.heap.size < V9.heap.size := by rw [← hW]; go_size
        clear X0c0 X0c1
        clear X1c0 X1c1
        clear hW hfG bw8
        replace B := B.trans (bV9.mono B.size)
        replace P0 := Lib.hid (P0.out.call bV9)
        replace P1 := Lib.hid (P1.out.call bV9)
        replace LW := Lib.hid (LW.out.call bV9)
        replace FW := Lib.hid (FW.out.call bV9)
        replace X0 := Lib.hid (X0.out.call bV9)
        replace F0 := Lib.hid (F0.out.call bV9)
        replace X1 := Lib.hid (X1.out.call bV9)
        replace F1 := Lib.hid (F1.out.call bV9)
        clear bV9
        obtain ⟨_, LGc0, LGc1⟩ := LG.out
        obtain ⟨_, LWc0, LWc1⟩ := LW.out
        go_wp2_with fail
        refine (eqCircuit_same qW _ _ _ _ xW _ hmW FG.out.at FW.out.at).mono ?_
        rintro e w10 ⟨rfl, bw10⟩
        have zw10 := bw10.size
        replace B := B.trans (bw10.mono B.size)
        replace P0 := Lib.hid (P0.out.call bw10)
        replace P1 := Lib.hid (P1.out.call bw10)
        replace LW := Lib.hid (LW.out.call bw10)
        replace FW := Lib.hid (FW.out.call bw10)
        replace X0 := Lib.hid (X0.out.call bw10)
        replace F0 := Lib.hid (F0.out.call bw10)
        replace X1 := Lib.hid (X1.out.call bw10)
        replace F1 := Lib.hid (F1.out.call bw10)
        replace LG := Lib.hid (LG.out.call bw10)
        replace FG := Lib.hid (FG.out.call bw10)
        clear LGc0 LGc1
        clear LWc0 LWc1
        clear bw10
        go_upto_region 14 with fail
        obtain ⟨_, P0c0, P0c1⟩ := P0.out
        obtain ⟨_, X0c0, X0c1⟩ := X0.out
        go_cut [58] (fun sA wx => sA = .bool false ∧ Below w10.heap.size w10 wx)
        case first =>
          go_region_held3 (fun w' => (∀ b o, b < w10.heap.size → w'.cell? ⟨b, o, none⟩ = w10.cell? ⟨b, o, none⟩) ∧ Below w10.heap.size w10 w') ((refine SB_mk ?_; go_grown)) (first | (go_at_call 16; refine (toCircuit_any _ _ _ _ _ ?_ ?_).mono ?_; exact hn0; exact flat_sb Hf0.out B (by with_reducible assumption); rintro e wA ⟨gA, rfl, fA', bA⟩; have fA := Lib.hid fA'; clear fA'; obtain ⟨bAc, bAf⟩ := bcell bA; have sA := (SB_step (W := w10) (by with_reducible assumption) bA).2; have zA := sA.size) | (go_at_call 18; refine (eqCircuit_same q0 _ _ _ _ x0 _ hm0 (flatin_sb F0.out (by with_reducible assumption)) fA.out.at).mono ?_; rintro e wB ⟨rfl, bB⟩; obtain ⟨bBc, bBf⟩ := bcell bB; have sB := (SB_step (W := w10) (by with_reducible assumption) bB).2; have zB := sB.size))
          all_goals
            go_wp2_with fail
            go_meet
            exact ⟨rfl, by go_grown⟩
        case rest =>
          obtain ⟨w11, rfl⟩ : ∃ w11 : World, w11 = wc := ⟨_, rfl⟩
          obtain ⟨rfl, bw11⟩ := hcut
          have zw11 := bw11.size
          replace B := B.trans (bw11.mono B.size)
          replace P0 := Lib.hid (P0.out.call bw11)
          replace P1 := Lib.hid (P1.out.call bw11)
          replace LW := Lib.hid (LW.out.call bw11)
          replace FW := Lib.hid (FW.out.call bw11)
          replace X0 := Lib.hid (X0.out.call bw11)
          replace F0 := Lib.hid (F0.out.call bw11)
          replace X1 := Lib.hid (X1.out.call bw11)
          replace F1 := Lib.hid (F1.out.call bw11)
          replace LG := Lib.hid (LG.out.call bw11)
          replace FG := Lib.hid (FG.out.call bw11)
          clear bw11
          clear P0c0 P0c1
          clear X0c0 X0c1
          go_upto_region 16 with fail
          obtain ⟨_, P1c0, P1c1⟩ := P1.out
          obtain ⟨_, X1c0, X1c1⟩ := X1.out
          go_cut [63] (fun sA wx => sA = .bool false ∧ Below w11.heap.size w11 wx)
          case first =>
            go_region_held3 (fun w' => (∀ b o, b < w11.heap.size → w'.cell? ⟨b, o, none⟩ = w11.cell? ⟨b, o, none⟩) ∧ Below w11.heap.size w11 w') ((refine SB_mk ?_; go_grown)) (first | (go_at_call 16; refine (toCircuit_any _ _ _ _ _ ?_ ?_).mono ?_; exact hn1; exact flat_sb Hf1.out B (by with_reducible assumption); rintro e wA ⟨gA, rfl, fA', bA⟩; have fA := Lib.hid fA'; clear fA'; obtain ⟨bAc, bAf⟩ := bcell bA; have sA := (SB_step (W := w11) (by with_reducible assumption) bA).2; have zA := sA.size) | (go_at_call 18; refine (eqCircuit_same q1 _ _ _ _ x1 _ hm1 (flatin_sb F1.out (by with_reducible assumption)) fA.out.at).mono ?_; rintro e wB ⟨rfl, bB⟩; obtain ⟨bBc, bBf⟩ := bcell bB; have sB := (SB_step (W := w11) (by with_reducible assumption) bB).2; have zB := sB.size))
            all_goals
              go_wp2_with fail
              go_meet
              exact ⟨rfl, by go_grown⟩
          case rest =>
            obtain ⟨w12, rfl⟩ : ∃ w12 : World, w12 = wc := ⟨_, rfl⟩
            obtain ⟨rfl, bw12⟩ := hcut
            have zw12 := bw12.size
            replace B := B.trans (bw12.mono B.size)
            replace P0 := Lib.hid (P0.out.call bw12)
            replace P1 := Lib.hid (P1.out.call bw12)
            replace LW := Lib.hid (LW.out.call bw12)
            replace FW := Lib.hid (FW.out.call bw12)
            replace X0 := Lib.hid (X0.out.call bw12)
            replace F0 := Lib.hid (F0.out.call bw12)
            replace X1 := Lib.hid (X1.out.call bw12)
            replace F1 := Lib.hid (F1.out.call bw12)
            replace LG := Lib.hid (LG.out.call bw12)
            replace FG := Lib.hid (FG.out.call bw12)
            clear bw12
            clear P1c0 P1c1
            clear X1c0 X1c1
            obtain ⟨_, X0c0, X0c1⟩ := X0.out
            go_wp2_with fail
            refine (markCircuit_any q0 _ _ x0.length (1) (flatG x0) _ _ _ hn0 (by omega) (flatG_len x0) F0.out).mono ?_
            rintro e w13 ⟨rfl, fw13, tw13⟩
            clear X0c0 X0c1
            have sw13 := tw13.size
            replace F0 := Lib.hid fw13
            replace P0 := Lib.hid (P0.out.touch tw13 (by omega))
            replace P1 := Lib.hid (P1.out.touch tw13 (by omega))
            replace LW := Lib.hid (LW.out.touch tw13 (by omega))
            replace FW := Lib.hid (FW.out.touch tw13 (by omega))
            replace X0 := Lib.hid (X0.out.touch tw13 (by omega))
            replace X1 := Lib.hid (X1.out.touch tw13 (by omega))
            replace F1 := Lib.hid (F1.out.touch tw13 (by omega))
            replace LG := Lib.hid (LG.out.touch tw13 (by omega))
            replace FG := Lib.hid (FG.out.touch tw13 (by omega))
            replace B := B.trans (tw13.far (by omega) B.size)
            clear fw13 tw13
            obtain ⟨_, X1c0, X1c1⟩ := X1.out
            go_wp2_with fail
            refine (markCircuit_any q1 _ _ x1.length (1 + x0.length * 3) (flatG x1) _ _ _ hn1 (by omega) (flatG_len x1) F1.out).mono ?_
            rintro e w14 ⟨rfl, fw14, tw14⟩
            clear X1c0 X1c1
            have sw14 := tw14.size
            replace F1 := Lib.hid fw14
            replace P0 := Lib.hid (P0.out.touch tw14 (by omega))
            replace P1 := Lib.hid (P1.out.touch tw14 (by omega))
            replace LW := Lib.hid (LW.out.touch tw14 (by omega))
            replace FW := Lib.hid (FW.out.touch tw14 (by omega))
            replace X0 := Lib.hid (X0.out.touch tw14 (by omega))
            replace F0 := Lib.hid (F0.out.touch tw14 (by omega))
            replace X1 := Lib.hid (X1.out.touch tw14 (by omega))
            replace LG := Lib.hid (LG.out.touch tw14 (by omega))
            replace FG := Lib.hid (FG.out.touch tw14 (by omega))
            replace B := B.trans (tw14.far (by omega) B.size)
            clear fw14 tw14
            obtain ⟨_, LGc0, LGc1⟩ := LG.out
            obtain ⟨_, LWc0, LWc1⟩ := LW.out
            go_wp2_with fail
            refine (eqCircuit_same qW _ _ _ _ xW _ hmW FG.out.at FW.out.at).mono ?_
            rintro e w15 ⟨rfl, bw15⟩
            have zw15 := bw15.size
            replace B := B.trans (bw15.mono B.size)
            replace P0 := Lib.hid (P0.out.call bw15)
            replace P1 := Lib.hid (P1.out.call bw15)
            replace LW := Lib.hid (LW.out.call bw15)
            replace FW := Lib.hid (FW.out.call bw15)
            replace X0 := Lib.hid (X0.out.call bw15)
            replace F0 := Lib.hid (F0.out.call bw15)
            replace X1 := Lib.hid (X1.out.call bw15)
            replace F1 := Lib.hid (F1.out.call bw15)
            replace LG := Lib.hid (LG.out.call bw15)
            replace FG := Lib.hid (FG.out.call bw15)
            clear LGc0 LGc1
            clear LWc0 LWc1
            clear bw15
            obtain ⟨_, LGc0, LGc1⟩ := LG.out
            go_wp2_with fail
            refine (markCircuit_any qW _ _ xW.length (1) (flatG xW) _ _ _ hnW (by omega) (flatG_len xW) FG.out).mono ?_
            rintro e w16 ⟨rfl, fw16, tw16⟩
            clear LGc0 LGc1
            have sw16 := tw16.size
            replace FG := Lib.hid fw16
            replace P0 := Lib.hid (P0.out.touch tw16 (by omega))
            replace P1 := Lib.hid (P1.out.touch tw16 (by omega))
            replace LW := Lib.hid (LW.out.touch tw16 (by omega))
            replace FW := Lib.hid (FW.out.touch tw16 (by omega))
            replace X0 := Lib.hid (X0.out.touch tw16 (by omega))
            replace F0 := Lib.hid (F0.out.touch tw16 (by omega))
            replace X1 := Lib.hid (X1.out.touch tw16 (by omega))
            replace F1 := Lib.hid (F1.out.touch tw16 (by omega))
            replace LG := Lib.hid (LG.out.touch tw16 (by omega))
            replace B := B.trans (tw16.far (by omega) B.size)
            clear fw16 tw16
            obtain ⟨_, LGc0, LGc1⟩ := LG.out
            go_wp2_with fail
            refine (heldCircuit_any qW _ _ xW.length (1) _ hnW (by omega) FG.out.at).mono ?_
            rintro e w17 ⟨rfl, bw17⟩
            have zw17 := bw17.size
            replace B := B.trans (bw17.mono B.size)
            replace P0 := Lib.hid (P0.out.call bw17)
            replace P1 := Lib.hid (P1.out.call bw17)
            replace LW := Lib.hid (LW.out.call bw17)
            replace FW := Lib.hid (FW.out.call bw17)
            replace X0 := Lib.hid (X0.out.call bw17)
            replace F0 := Lib.hid (F0.out.call bw17)
            replace X1 := Lib.hid (X1.out.call bw17)
            replace F1 := Lib.hid (F1.out.call bw17)
            replace LG := Lib.hid (LG.out.call bw17)
            replace FG := Lib.hid (FG.out.call bw17)
            clear LGc0 LGc1
            clear bw17
            go_upto_region 31 with fail
            obtain ⟨_, P0c0, P0c1⟩ := P0.out
            obtain ⟨_, P1c0, P1c1⟩ := P1.out
            go_cut [15, 16] (fun sA sB wx => ∃ (g lo hi p : Nat) (A : Option Addr) (q : Int) (x : List G3), sA = .pointer (some ⟨g, 0, none⟩) ∧ sB = .bool (catOk q0 x0 q1 x1) ∧ q = rI (catOk q0 x0 q1 x1) q0 ∧ x = (if catOk q0 x0 q1 x1 then x0 ++ x1 else []) ∧ w17.heap.size ≤ lo ∧ w17.heap.size ≤ g ∧ hi ≤ wx.heap.size ∧ (g < lo ∨ hi ≤ g) ∧ LocC wx g q A x.length p ∧ FlatIn wx A (flatG x) lo hi ∧ Below w17.heap.size w17 wx)
            case first =>
              go_region_held3 (fun w' => (∀ b o, b < w17.heap.size → w'.cell? ⟨b, o, none⟩ = w17.cell? ⟨b, o, none⟩) ∧ Below w17.heap.size w17 w') ((refine SB_mk ?_; go_grown)) (first | (go_at_call 16; refine (toCircuit_any _ _ _ _ _ ?_ ?_).mono ?_; exact hn0; exact flat_sb Hf0.out B (by with_reducible assumption); rintro e wA ⟨gA, rfl, fA', bA⟩; have fA := Lib.hid fA'; clear fA'; obtain ⟨bAc, bAf⟩ := bcell bA; have sA := (SB_step (W := w17) (by with_reducible assumption) bA).2; have zA := sA.size; (try with_reducible have yA := lt_size bA); (try with_reducible have yA := lt_sizeD bA); (try with_reducible have vA := Nat.lt_of_lt_of_le (by assumption) bA.size)) | (go_at_call 16; refine (toCircuit_any _ _ _ _ _ ?_ ?_).mono ?_; exact hn1; exact flat_sb Hf1.out B (by with_reducible assumption); rintro e wC ⟨gC, rfl, fC', bC⟩; have fC := Lib.hid fC'; clear fC'; obtain ⟨bCc, bCf⟩ := bcell bC; have sC := (SB_step (W := w17) (by with_reducible assumption) bC).2; have zC := sC.size; (try with_reducible have yC := lt_size bC); (try with_reducible have yC := lt_sizeD bC); (try with_reducible have vC := Nat.lt_of_lt_of_le (by assumption) bC.size)) | (go_at_call 28; (first | refine (implCat_any q0 _ _ x0 q1 _ _ x1 _ hn0 hn1 (by show FlatAt _ _ _; repeat (first | (with_reducible exact fA.out.at) | (with_reducible refine FlatAt.alloc ?_ _) | (with_reducible refine FlatAt.drew ?_) | (with_reducible refine FlatAt.below ?_ bC))) (by show FlatAt _ _ _; repeat (first | (with_reducible exact fC.out.at) | (with_reducible refine FlatAt.alloc ?_ _) | (with_reducible refine FlatAt.drew ?_) | (with_reducible refine FlatAt.below ?_ bA)))).mono ?_); rintro e wR hm; obtain ⟨AR, pR, qR, xR, rfl, hq, hx, hf, bR⟩ := hm.form; have eR := Lib.hid (And.intro hq hx); obtain ⟨loR, hloR, hloR', hf'⟩ := SB_lo (W := w17) (by with_reducible assumption) bR hf; have fR := Lib.hid hf'; clear hm hq hx hf hf'; obtain ⟨bRc, bRf⟩ := bcell bR; have sR := (SB_step (W := w17) (by with_reducible assumption) bR).2; have zR := sR.size; (try with_reducible have yR := lt_size bR); (try with_reducible have yR := lt_sizeD bR); (try with_reducible have vR := Nat.lt_of_lt_of_le (by assumption) bR.size)))
              all_goals
                go_wp2_with fail
                go_meet
                refine ⟨_, loR, wR.heap.size, pR, AR, qR, xR, rfl, rfl, eR.out.1, eR.out.2, hloR, ?_, ?_, ?_, ⟨?_, ?_, ?_⟩, ?_, ?_⟩
                · first | omega | (simp; omega)
                · go_size
                · first | omega | (have h := hloR'; simp only [World.size_alloc] at h; omega)
                · go_size
                · go_simp
                · go_simp
                · have h := hloR'
                  try simp only [World.size_alloc] at h
                  repeat (first | (with_reducible exact fR.out) | (refine FlatIn.setFar ?_ (by dsimp only; omega) _) | (refine FlatIn.alloc ?_ _) | (refine FlatIn.drew ?_))
                · go_grown
            case rest =>
              obtain ⟨w18, rfl⟩ : ∃ w18 : World, w18 = wc := ⟨_, rfl⟩
              obtain ⟨gH, loH, hiH, pH, AH, qH, xH, rfl, rfl, hqH, hxH, hloH, hgH, hhiH, hgdH, hL, hF, bw18⟩ := hcut
              replace hqH := (hqH.trans (EW.out.1).symm).symm
              subst hqH
              replace hxH := (hxH.trans (EW.out.2).symm).symm
              subst hxH
              have ltgH := hL.lt
              have LH := Lib.hid hL
              have FH := Lib.hid hF
              clear hL hF
              clear P0c0 P0c1
              clear P1c0 P1c1
              have zw18 := bw18.size
              replace B := B.trans (bw18.mono B.size)
              replace P0 := Lib.hid (P0.out.call bw18)
              replace P1 := Lib.hid (P1.out.call bw18)
              replace LW := Lib.hid (LW.out.call bw18)
              replace FW := Lib.hid (FW.out.call bw18)
              replace X0 := Lib.hid (X0.out.call bw18)
              replace F0 := Lib.hid (F0.out.call bw18)
              replace X1 := Lib.hid (X1.out.call bw18)
              replace F1 := Lib.hid (F1.out.call bw18)
              replace LG := Lib.hid (LG.out.call bw18)
              replace FG := Lib.hid (FG.out.call bw18)
              clear bw18
              obtain ⟨_, LHc0, LHc1⟩ := LH.out
              obtain ⟨_, LWc0, LWc1⟩ := LW.out
              go_wp2_with fail
              refine (eqCircuit_same qW _ _ _ _ xW _ hmW FH.out.at FW.out.at).mono ?_
              rintro e w19 ⟨rfl, bw19⟩
              have zw19 := bw19.size
              replace B := B.trans (bw19.mono B.size)
              replace P0 := Lib.hid (P0.out.call bw19)
              replace P1 := Lib.hid (P1.out.call bw19)
              replace LW := Lib.hid (LW.out.call bw19)
              replace FW := Lib.hid (FW.out.call bw19)
              replace X0 := Lib.hid (X0.out.call bw19)
              replace F0 := Lib.hid (F0.out.call bw19)
              replace X1 := Lib.hid (X1.out.call bw19)
              replace F1 := Lib.hid (F1.out.call bw19)
              replace LG := Lib.hid (LG.out.call bw19)
              replace FG := Lib.hid (FG.out.call bw19)
              replace LH := Lib.hid (LH.out.call bw19)
              replace FH := Lib.hid (FH.out.call bw19)
              clear LHc0 LHc1
              clear LWc0 LWc1
              clear bw19
              obtain ⟨_, LGc0, LGc1⟩ := LG.out
              go_wp2_with fail
              refine (heldCircuit_any qW _ _ xW.length (1) _ hnW (by omega) FG.out.at).mono ?_
              rintro e w20 ⟨rfl, bw20⟩
              have zw20 := bw20.size
              replace B := B.trans (bw20.mono B.size)
              replace P0 := Lib.hid (P0.out.call bw20)
              replace P1 := Lib.hid (P1.out.call bw20)
              replace LW := Lib.hid (LW.out.call bw20)
              replace FW := Lib.hid (FW.out.call bw20)
              replace X0 := Lib.hid (X0.out.call bw20)
              replace F0 := Lib.hid (F0.out.call bw20)
              replace X1 := Lib.hid (X1.out.call bw20)
              replace F1 := Lib.hid (F1.out.call bw20)
              replace LG := Lib.hid (LG.out.call bw20)
              replace FG := Lib.hid (FG.out.call bw20)
              replace LH := Lib.hid (LH.out.call bw20)
              replace FH := Lib.hid (FH.out.call bw20)
              clear LGc0 LGc1
              clear bw20
              go_wp2
              go_ret
              exact ⟨rfl, B⟩
    · go_enter Try.func8, Try.ntmps8
      go_upto_region 1 with fail
      generalize hW0 : (w.alloc (.cells #[.int .i64 q0, .slice A0 x0.length p0] 24)).alloc (.cells #[.int .i64 q1, .slice A1 x1.length p1] 24) = W0
      have B : Below w.heap.size w W0 := by rw [← hW0]; go_grown
      have P0 : Hid (LocC W0 w.heap.size q0 A0 x0.length p0) := LocC.of_row (by rw [← hW0]; exact (Below.heap_alloc _ _ _ (by go_size)).trans (heap_top _ _ rfl))
      have P1 : Hid (LocC W0 (w.heap.size + 1) q1 A1 x1.length p1) := LocC.of_row (by rw [← hW0]; exact heap_top _ _ (by simp))
      clear hW0
      have sW0 : w.heap.size + 2 ≤ W0.heap.size := by have := P1.out.lt; omega
      obtain ⟨_, P0c0, P0c1⟩ := P0.out
      go_wp2_with fail
      refine (szCircuit_any _ _ _ _ _ _ (by omega) hm0).mono ?_
      rintro e w1 ⟨rfl, bw1⟩
      rw [if_neg (by omega)]
      have zw1 := bw1.size
      replace B := B.trans (bw1.mono B.size)
      replace P0 := Lib.hid (P0.out.call bw1)
      replace P1 := Lib.hid (P1.out.call bw1)
      clear P0c0 P0c1
      clear bw1
      obtain ⟨_, P1c0, P1c1⟩ := P1.out
      go_wp2_with fail
      refine (szCircuit_any _ _ _ _ _ _ (by omega) hm1).mono ?_
      rintro e w2 ⟨rfl, bw2⟩
      rw [if_pos (by omega)]
      have zw2 := bw2.size
      replace B := B.trans (bw2.mono B.size)
      replace P0 := Lib.hid (P0.out.call bw2)
      replace P1 := Lib.hid (P1.out.call bw2)
      clear P1c0 P1c1
      clear bw2
      go_wp2
      go_ret
      exact ⟨rfl, B⟩
  · go_enter Try.func8, Try.ntmps8
    go_upto_region 1 with fail
    generalize hW0 : (w.alloc (.cells #[.int .i64 q0, .slice A0 x0.length p0] 24)).alloc (.cells #[.int .i64 q1, .slice A1 x1.length p1] 24) = W0
    have B : Below w.heap.size w W0 := by rw [← hW0]; go_grown
    have P0 : Hid (LocC W0 w.heap.size q0 A0 x0.length p0) := LocC.of_row (by rw [← hW0]; exact (Below.heap_alloc _ _ _ (by go_size)).trans (heap_top _ _ rfl))
    have P1 : Hid (LocC W0 (w.heap.size + 1) q1 A1 x1.length p1) := LocC.of_row (by rw [← hW0]; exact heap_top _ _ (by simp))
    clear hW0
    have sW0 : w.heap.size + 2 ≤ W0.heap.size := by have := P1.out.lt; omega
    obtain ⟨_, P0c0, P0c1⟩ := P0.out
    go_wp2_with fail
    refine (szCircuit_any _ _ _ _ _ _ (by omega) hm0).mono ?_
    rintro e w1 ⟨rfl, bw1⟩
    rw [if_pos (by omega)]
    have zw1 := bw1.size
    replace B := B.trans (bw1.mono B.size)
    replace P0 := Lib.hid (P0.out.call bw1)
    replace P1 := Lib.hid (P1.out.call bw1)
    clear P0c0 P0c1
    clear bw1
    go_wp2
    go_ret
    exact ⟨rfl, B⟩

set_option maxRecDepth 100000 in
theorem fnExactConcat_lifted (os : Os) (started : os.Started) (H : Type) (enc : TypeId × Value → H) :
    ReturnsInHanded {} Try.checked os 8 .any (Rows.fnExactConcatSpec.pre6 enc Try.prog Try.f8 Rows.fnExactConcatRow.domain false) (Rows.fnExactConcatSpec.post enc Try.prog Try.f8 false true false false) := by
  refine law_lifted (C := Try.checked) (tb := 4) Try.own started (by kernel_rfl) Try.func8
    (ChangeSpec.witness6 (enc := enc) (C := Try.checked) false ⟨#[], #[.agg #[.int .i64 0, .slice none 0 0], .agg #[.int .i64 0, .slice none 0 0]], []⟩ 8 (by kernel_rfl) (by kernel_rfl) (by kernel_rfl) (by kernel_rfl))
    Try.laidOut (by kernel_rfl) rfl rfl Try.underlying4 (fun es he => ?_) ?_
  · match es, he with
    | [_, _], _ => rfl
  · intro W base args ds p hval0 hA hwt hsh hblk
    have hval : ∀ (j : Nat) t v, Try.f8.params[j]? = some t → args[j]? = some v → Value.okWide Try.prog W .any base t v := hval0
    have hA' : DataW.TrodAll enc Try.prog W 0 (fun _ => true) true Try.f8.params.toList args.toList ds p := hA
    rw [Try.params8] at hA' hval
    obtain ⟨v0, v1, d0, d1, p0, p1, rfl, rfl, rfl, h0, h1⟩ := trodAll_two hA'
    obtain ⟨q0, A0, p0, x0, rfl, hl0, hf0⟩ := open_circuit (hval 0 24 v0 rfl rfl) h0
    obtain ⟨q1, A1, p1, x1, rfl, hl1, hf1⟩ := open_circuit (hval 1 24 v1 rfl rfl) h1
    exact fnExactConcat_any q0 A0 p0 x0 q1 A1 p1 x1 W hl0 hf0 hl1 hf1

theorem fnExactConcat_holds : Rows.FnExactConcatSaid :=
  OpenClaim.holds_of_wide 8 Try.f8 rfl rfl rfl rfl rfl rfl rfl ⟨rfl, rfl, rfl, rfl, rfl⟩ rfl rfl rfl rfl rfl (by kernel_rfl) Try.func8 (by kernel_rfl)
    (of_decide_eq_true (by kernel_rfl)) (by unfold Func.isWrapper; first | (rw [if_pos (by decide +kernel)]; kernel_rfl) | (rw [if_neg (by decide +kernel)]; exact ⟨rfl, rfl⟩))
    (fun os started H enc _ => fnExactConcat_lifted os started H enc)

end Go.Proofs.Ytphdcamihkgdiaa
