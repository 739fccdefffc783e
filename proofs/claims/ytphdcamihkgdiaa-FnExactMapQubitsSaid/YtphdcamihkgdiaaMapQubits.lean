/- FnExactMapQubits is proved: the program's MapQubits returns what the reference's returns, for all arguments. No conditions. -/
import Derived.Test.YtphdcamihkgdiaaFrame
import Derived.Test.YtphdcamihkgdiaaOpenC
import Derived.Test.YtphdcamihkgdiaaOpenI
import Derived.Test.YtphdcamihkgdiaaIs
import Derived.Test.YtphdcamihkgdiaaMapM
import Derived.Test.YtphdcamihkgdiaaLocC
import Derived.Deep.DeepCutAuto
namespace Go.Proofs.Ytphdcamihkgdiaa
open Go.RowKit Go.WideShapes Go.ChangeShapes Go.ChangeAt

set_option maxRecDepth 100000 in
set_option maxHeartbeats 8000000 in
theorem fnExactMapQubits_any (q0 : Int) (A0 : Option Addr) (p0 : Nat) (x0 : List G3) (A1 : Option Addr) (p1 : Nat) (t1 : List Int) (n2 : Int) (w : World) (hl0 : x0.length ≤ maxLen) (hf0 : FlatAt w A0 (flatG x0)) (hl1 : t1.length ≤ maxLen) (hf1 : FlatAt w A1 t1) :
    Calls Try.prog 10 #[cv q0 A0 x0.length p0, .slice A1 t1.length p1, .int .i64 n2] w fun e w' => e = .returned (.bool true) ∧ Below w.heap.size w w' := by
  have Hf0 := Lib.hid hf0
  have Hf1 := Lib.hid hf1
  clear hf0 hf1
  have hm0 : x0.length ≤ 9223372036854775807 := hl0
  have hmt : t1.length ≤ 9223372036854775807 := hl1
  by_cases hnt : t1.length ≤ 1048576
  case neg =>
    go_enter Try.func10, Try.ntmps10
    go_wp2
    go_ret
    refine ⟨rfl, ?_⟩
    go_grown
  by_cases hn0 : x0.length ≤ 1048576
  · skip
    go_enter Try.func10, Try.ntmps10
    go_upto_region 1 with fail
    generalize hW0 : w.alloc (.cells #[.int .i64 q0, .slice A0 x0.length p0] 24) = W0
    have B : Below w.heap.size w W0 := by rw [← hW0]; go_grown
    have P0 : Hid (LocC W0 w.heap.size q0 A0 x0.length p0) := LocC.of_row (by rw [← hW0]; exact heap_top _ _ rfl)
    clear hW0
    have sW0 : w.heap.size + 1 ≤ W0.heap.size := by have := P0.out.lt; omega
    obtain ⟨_, P0c0, P0c1⟩ := P0.out
    go_wp2_with fail
    refine (szCircuit_any _ _ _ _ _ _ (by omega) hm0).mono ?_
    rintro e w1 ⟨rfl, bw1⟩
    rw [if_neg (by omega)]
    have zw1 := bw1.size
    replace B := B.trans (bw1.mono B.size)
    replace P0 := Lib.hid (P0.out.call bw1)
    clear P0c0 P0c1
    clear bw1
    obtain ⟨_, P0c0, P0c1⟩ := P0.out
    go_wp2_with fail
    refine (toCircuit_any q0 A0 p0 x0 _ hn0 (by refine Hf0.out.below B)).mono ?_
    rintro e w2 ⟨gG1, rfl, fw2, bw2⟩
    clear P0c0 P0c1
    have G1 := Lib.hid fw2
    have zw2 := bw2.size
    clear fw2
    replace B := B.trans (bw2.mono B.size)
    replace P0 := Lib.hid (P0.out.call bw2)
    clear bw2
    go_wp2_with fail
    refine (toIntS_any A1 p1 t1 _ hnt (by refine Hf1.out.below B)).mono ?_
    rintro e w3 ⟨gG2, rfl, fw3, bw3⟩
    have G2 := Lib.hid fw3
    have zw3 := bw3.size
    clear fw3
    replace B := B.trans (bw3.mono B.size)
    replace P0 := Lib.hid (P0.out.call bw3)
    replace G1 := Lib.hid (G1.out.call bw3)
    clear bw3
    go_wp2_with fail
    refine (specMap_any q0 _ _ x0 _ _ t1 n2 _ hn0 hnt (Nat.le_refl _) G1.out.at G2.out.at).mono ?_
    rintro e w4 hm
    obtain ⟨AW, pW, qW, xW, rfl, hqW, hxW, hfW, bw4⟩ := hm.form
    clear hm
    have hnW : xW.length ≤ 1048576 := by rw [hxW]; exact mapBd _ _ _ _
    have hmW : xW.length ≤ 9223372036854775807 := by omega
    have EW := Lib.hid (And.intro hqW (hxW))
    clear hqW hxW
    go_upto_region 8 with fail
    generalize hW : w4.alloc (.cells #[.int .i64 qW, .slice AW xW.length pW] 29) = V5
    have bV5 : Below w3.heap.size w3 V5 := by rw [← hW]; exact Below.alloc bw4 bw4.size _
    have LW : Hid (LocC V5 w4.heap.size qW AW xW.length pW) := LocC.of_row (by rw [← hW]; exact heap_top _ _ rfl)
    have FW : Hid (FlatIn V5 AW (flatG xW) w3.heap.size w4.heap.size) := by rw [← hW]; exact hfW.alloc _
    have sw4 := bw4.size
    have sV5 : w4.heap.size < V5.heap.size := by rw [← hW]; go_size
    clear hW hfW bw4
    replace B := B.trans (bV5.mono B.size)
    replace P0 := Lib.hid (P0.out.call bV5)
    replace G1 := Lib.hid (G1.out.call bV5)
    replace G2 := Lib.hid (G2.out.call bV5)
    clear bV5
    clear G1 G2
    obtain ⟨_, P0c0, P0c1⟩ := P0.out
    go_wp2_with fail
    refine (toCircuit_any q0 A0 p0 x0 _ hn0 (by refine Hf0.out.below B)).mono ?_
    rintro e w6 ⟨g0, rfl, fw6, bw6⟩
    go_upto_region 9 with fail
    generalize hW : w6.alloc (.cells #[.int .i64 q0, .slice (some ⟨g0, 0, none⟩) x0.length x0.length] 29) = V7
    have bV7 : Below V5.heap.size V5 V7 := by rw [← hW]; exact Below.alloc bw6 bw6.size _
    have X0 : Hid (LocC V7 w6.heap.size q0 (some ⟨g0, 0, none⟩) x0.length x0.length) := LocC.of_row (by rw [← hW]; exact heap_top _ _ rfl)
    have F0 : Hid (FlatIn V7 (some ⟨g0, 0, none⟩) (flatG x0) V5.heap.size w6.heap.size) := by rw [← hW]; exact fw6.alloc _
    have sw6 := bw6.size
    have sV7 : w6.heap.size < V7.heap.size := by rw [← hW]; go_size
    clear P0c0 P0c1
    clear hW fw6 bw6
    replace B := B.trans (bV7.mono B.size)
    replace P0 := Lib.hid (P0.out.call bV7)
    replace LW := Lib.hid (LW.out.call bV7)
    replace FW := Lib.hid (FW.out.call bV7)
    clear bV7
    go_wp2_with fail
    refine (toIntS_any A1 p1 t1 _ hnt (by refine Hf1.out.below B)).mono ?_
    rintro e w8 ⟨gI0, rfl, fw8, bw8⟩
    have I0 := Lib.hid fw8
    have zw8 := bw8.size
    clear fw8
    replace B := B.trans (bw8.mono B.size)
    replace P0 := Lib.hid (P0.out.call bw8)
    replace LW := Lib.hid (LW.out.call bw8)
    replace FW := Lib.hid (FW.out.call bw8)
    replace X0 := Lib.hid (X0.out.call bw8)
    replace F0 := Lib.hid (F0.out.call bw8)
    clear bw8
    obtain ⟨_, X0c0, X0c1⟩ := X0.out
    go_wp2_with fail
    refine (implMap_any q0 _ _ x0 _ _ t1 n2 _ hn0 hnt (Nat.le_refl _) F0.out.at I0.out.at).mono ?_
    rintro e w9 hm
    obtain ⟨AG, pG, qG, xG, rfl, hqG, hxG, hfG, bw9⟩ := hm.form
    clear hm
    replace hqG := (hqG.trans (EW.out.1).symm).symm
    subst hqG
    replace hxG := (hxG.trans (EW.out.2).symm).symm
    subst hxG
    go_upto_region 11 with fail
    generalize hW : w9.alloc (.cells #[.int .i64 qW, .slice AG xW.length pG] 29) = V10
    have bV10 : Below w8.heap.size w8 V10 := by rw [← hW]; exact Below.alloc bw9 bw9.size _
    have LG : Hid (LocC V10 w9.heap.size qW AG xW.length pG) := LocC.of_row (by rw [← hW]; exact heap_top _ _ rfl)
    have FG : Hid (FlatIn V10 AG (flatG xW) w8.heap.size w9.heap.size) := by rw [← hW]; exact hfG.alloc _
    have sw9 := bw9.size
    have sV10 : w9.heap.size < V10.heap.size := by rw [← hW]; go_size
    clear X0c0 X0c1
    clear hW hfG bw9
    replace B := B.trans (bV10.mono B.size)
    replace P0 := Lib.hid (P0.out.call bV10)
    replace LW := Lib.hid (LW.out.call bV10)
    replace FW := Lib.hid (FW.out.call bV10)
    replace X0 := Lib.hid (X0.out.call bV10)
    replace F0 := Lib.hid (F0.out.call bV10)
    replace I0 := Lib.hid (I0.out.call bV10)
    clear bV10
    obtain ⟨_, LGc0, LGc1⟩ := LG.out
    obtain ⟨_, LWc0, LWc1⟩ := LW.out
    go_wp2_with fail
    refine (eqCircuit_same qW _ _ _ _ xW _ hmW FG.out.at FW.out.at).mono ?_
    rintro e w11 ⟨rfl, bw11⟩
    have zw11 := bw11.size
    replace B := B.trans (bw11.mono B.size)
    replace P0 := Lib.hid (P0.out.call bw11)
    replace LW := Lib.hid (LW.out.call bw11)
    replace FW := Lib.hid (FW.out.call bw11)
    replace X0 := Lib.hid (X0.out.call bw11)
    replace F0 := Lib.hid (F0.out.call bw11)
    replace I0 := Lib.hid (I0.out.call bw11)
    replace LG := Lib.hid (LG.out.call bw11)
    replace FG := Lib.hid (FG.out.call bw11)
    clear LGc0 LGc1
    clear LWc0 LWc1
    clear bw11
    go_upto_region 13 with fail
    obtain ⟨_, P0c0, P0c1⟩ := P0.out
    obtain ⟨_, X0c0, X0c1⟩ := X0.out
    go_cut [60] (fun sA wx => sA = .bool false ∧ Below w11.heap.size w11 wx)
    case first =>
      go_region_held3 (fun w' => (∀ b o, b < w11.heap.size → w'.cell? ⟨b, o, none⟩ = w11.cell? ⟨b, o, none⟩) ∧ Below w11.heap.size w11 w') ((refine SB_mk ?_; go_grown)) (first | (go_at_call 16; refine (toCircuit_any _ _ _ _ _ ?_ ?_).mono ?_; exact hn0; exact flat_sb Hf0.out B (by with_reducible assumption); rintro e wA ⟨gA, rfl, fA', bA⟩; have fA := Lib.hid fA'; clear fA'; obtain ⟨bAc, bAf⟩ := bcell bA; have sA := (SB_step (W := w11) (by with_reducible assumption) bA).2; have zA := sA.size) | (go_at_call 18; refine (eqCircuit_same q0 _ _ _ _ x0 _ hm0 (flatin_sb F0.out (by with_reducible assumption)) fA.out.at).mono ?_; rintro e wB ⟨rfl, bB⟩; obtain ⟨bBc, bBf⟩ := bcell bB; have sB := (SB_step (W := w11) (by with_reducible assumption) bB).2; have zB := sB.size))
      all_goals
        go_wp2_with fail
        go_meet
        exact ⟨rfl, by go_grown⟩
    case rest =>
      obtain ⟨w12, rfl⟩ : ∃ w12 : World, w12 = wc := ⟨_, rfl⟩
      obtain ⟨rfl, bw12⟩ := hcut
      have zw12 := bw12.size
      replace B := B.trans (bw12.mono B.size)
      replace P0 := Lib.hid (P0.out.call bw12)
      replace LW := Lib.hid (LW.out.call bw12)
      replace FW := Lib.hid (FW.out.call bw12)
      replace X0 := Lib.hid (X0.out.call bw12)
      replace F0 := Lib.hid (F0.out.call bw12)
      replace I0 := Lib.hid (I0.out.call bw12)
      replace LG := Lib.hid (LG.out.call bw12)
      replace FG := Lib.hid (FG.out.call bw12)
      clear bw12
      clear P0c0 P0c1
      clear X0c0 X0c1
      go_wp2_with fail
      refine (toIntS_any A1 p1 t1 _ hnt (by refine Hf1.out.below B)).mono ?_
      rintro e w13 ⟨gG3, rfl, fw13, bw13⟩
      have G3 := Lib.hid fw13
      have zw13 := bw13.size
      clear fw13
      replace B := B.trans (bw13.mono B.size)
      replace P0 := Lib.hid (P0.out.call bw13)
      replace LW := Lib.hid (LW.out.call bw13)
      replace FW := Lib.hid (FW.out.call bw13)
      replace X0 := Lib.hid (X0.out.call bw13)
      replace F0 := Lib.hid (F0.out.call bw13)
      replace I0 := Lib.hid (I0.out.call bw13)
      replace LG := Lib.hid (LG.out.call bw13)
      replace FG := Lib.hid (FG.out.call bw13)
      clear bw13
      go_wp2_with fail
      refine (eqIntS_same _ _ _ _ t1 _ hmt I0.out.at G3.out.at).mono ?_
      rintro e w14 ⟨rfl, bw14⟩
      have zw14 := bw14.size
      replace B := B.trans (bw14.mono B.size)
      replace P0 := Lib.hid (P0.out.call bw14)
      replace LW := Lib.hid (LW.out.call bw14)
      replace FW := Lib.hid (FW.out.call bw14)
      replace X0 := Lib.hid (X0.out.call bw14)
      replace F0 := Lib.hid (F0.out.call bw14)
      replace I0 := Lib.hid (I0.out.call bw14)
      replace LG := Lib.hid (LG.out.call bw14)
      replace FG := Lib.hid (FG.out.call bw14)
      replace G3 := Lib.hid (G3.out.call bw14)
      clear bw14
      clear G3
      obtain ⟨_, X0c0, X0c1⟩ := X0.out
      go_wp2_with fail
      refine (markCircuit_any q0 _ _ x0.length (1) (flatG x0) _ _ _ hn0 (by omega) (flatG_len x0) F0.out).mono ?_
      rintro e w15 ⟨rfl, fw15, tw15⟩
      clear X0c0 X0c1
      have sw15 := tw15.size
      replace F0 := Lib.hid fw15
      replace P0 := Lib.hid (P0.out.touch tw15 (by omega))
      replace LW := Lib.hid (LW.out.touch tw15 (by omega))
      replace FW := Lib.hid (FW.out.touch tw15 (by omega))
      replace X0 := Lib.hid (X0.out.touch tw15 (by omega))
      replace I0 := Lib.hid (I0.out.touch tw15 (by omega))
      replace LG := Lib.hid (LG.out.touch tw15 (by omega))
      replace FG := Lib.hid (FG.out.touch tw15 (by omega))
      replace B := B.trans (tw15.far (by omega) B.size)
      clear fw15 tw15
      go_wp2_with fail
      refine (markIntS_any _ _ t1.length (1 + x0.length * 3) t1 _ _ _ hnt (by omega) rfl I0.out).mono ?_
      rintro e w16 ⟨rfl, fw16, tw16⟩
      have sw16 := tw16.size
      replace I0 := Lib.hid fw16
      replace P0 := Lib.hid (P0.out.touch tw16 (by omega))
      replace LW := Lib.hid (LW.out.touch tw16 (by omega))
      replace FW := Lib.hid (FW.out.touch tw16 (by omega))
      replace X0 := Lib.hid (X0.out.touch tw16 (by omega))
      replace F0 := Lib.hid (F0.out.touch tw16 (by omega))
      replace LG := Lib.hid (LG.out.touch tw16 (by omega))
      replace FG := Lib.hid (FG.out.touch tw16 (by omega))
      replace B := B.trans (tw16.far (by omega) B.size)
      clear fw16 tw16
      obtain ⟨_, LGc0, LGc1⟩ := LG.out
      obtain ⟨_, LWc0, LWc1⟩ := LW.out
      go_wp2_with fail
      refine (eqCircuit_same qW _ _ _ _ xW _ hmW FG.out.at FW.out.at).mono ?_
      rintro e w17 ⟨rfl, bw17⟩
      have zw17 := bw17.size
      replace B := B.trans (bw17.mono B.size)
      replace P0 := Lib.hid (P0.out.call bw17)
      replace LW := Lib.hid (LW.out.call bw17)
      replace FW := Lib.hid (FW.out.call bw17)
      replace X0 := Lib.hid (X0.out.call bw17)
      replace F0 := Lib.hid (F0.out.call bw17)
      replace I0 := Lib.hid (I0.out.call bw17)
      replace LG := Lib.hid (LG.out.call bw17)
      replace FG := Lib.hid (FG.out.call bw17)
      clear LGc0 LGc1
      clear LWc0 LWc1
      clear bw17
      obtain ⟨_, LGc0, LGc1⟩ := LG.out
      go_wp2_with fail
      refine (markCircuit_any qW _ _ xW.length (1) (flatG xW) _ _ _ hnW (by omega) (flatG_len xW) FG.out).mono ?_
      rintro e w18 ⟨rfl, fw18, tw18⟩
      clear LGc0 LGc1
      have sw18 := tw18.size
      replace FG := Lib.hid fw18
      replace P0 := Lib.hid (P0.out.touch tw18 (by omega))
      replace LW := Lib.hid (LW.out.touch tw18 (by omega))
      replace FW := Lib.hid (FW.out.touch tw18 (by omega))
      replace X0 := Lib.hid (X0.out.touch tw18 (by omega))
      replace F0 := Lib.hid (F0.out.touch tw18 (by omega))
      replace I0 := Lib.hid (I0.out.touch tw18 (by omega))
      replace LG := Lib.hid (LG.out.touch tw18 (by omega))
      replace B := B.trans (tw18.far (by omega) B.size)
      clear fw18 tw18
      obtain ⟨_, LGc0, LGc1⟩ := LG.out
      go_wp2_with fail
      refine (heldCircuit_any qW _ _ xW.length (1) _ hnW (by omega) FG.out.at).mono ?_
      rintro e w19 ⟨rfl, bw19⟩
      have zw19 := bw19.size
      replace B := B.trans (bw19.mono B.size)
      replace P0 := Lib.hid (P0.out.call bw19)
      replace LW := Lib.hid (LW.out.call bw19)
      replace FW := Lib.hid (FW.out.call bw19)
      replace X0 := Lib.hid (X0.out.call bw19)
      replace F0 := Lib.hid (F0.out.call bw19)
      replace I0 := Lib.hid (I0.out.call bw19)
      replace LG := Lib.hid (LG.out.call bw19)
      replace FG := Lib.hid (FG.out.call bw19)
      clear LGc0 LGc1
      clear bw19
      obtain ⟨_, P0c0, P0c1⟩ := P0.out
      go_wp2_with fail
      refine (toCircuit_any q0 A0 p0 x0 _ hn0 (by refine Hf0.out.below B)).mono ?_
      rintro e w20 ⟨gG4, rfl, fw20, bw20⟩
      clear P0c0 P0c1
      have G4 := Lib.hid fw20
      have zw20 := bw20.size
      clear fw20
      replace B := B.trans (bw20.mono B.size)
      replace P0 := Lib.hid (P0.out.call bw20)
      replace LW := Lib.hid (LW.out.call bw20)
      replace FW := Lib.hid (FW.out.call bw20)
      replace X0 := Lib.hid (X0.out.call bw20)
      replace F0 := Lib.hid (F0.out.call bw20)
      replace I0 := Lib.hid (I0.out.call bw20)
      replace LG := Lib.hid (LG.out.call bw20)
      replace FG := Lib.hid (FG.out.call bw20)
      clear bw20
      go_wp2_with fail
      refine (toIntS_any A1 p1 t1 _ hnt (by refine Hf1.out.below B)).mono ?_
      rintro e w21 ⟨gG5, rfl, fw21, bw21⟩
      have G5 := Lib.hid fw21
      have zw21 := bw21.size
      clear fw21
      replace B := B.trans (bw21.mono B.size)
      replace P0 := Lib.hid (P0.out.call bw21)
      replace LW := Lib.hid (LW.out.call bw21)
      replace FW := Lib.hid (FW.out.call bw21)
      replace X0 := Lib.hid (X0.out.call bw21)
      replace F0 := Lib.hid (F0.out.call bw21)
      replace I0 := Lib.hid (I0.out.call bw21)
      replace LG := Lib.hid (LG.out.call bw21)
      replace FG := Lib.hid (FG.out.call bw21)
      replace G4 := Lib.hid (G4.out.call bw21)
      clear bw21
      go_wp2_with fail
      refine (implMap_any q0 _ _ x0 _ _ t1 n2 _ hn0 hnt (Nat.le_refl _) G4.out.at G5.out.at).mono ?_
      rintro e w22 hm
      obtain ⟨AH, pH, qH, xH, rfl, hqH, hxH, hfH, bw22⟩ := hm.form
      clear hm
      replace hqH := (hqH.trans (EW.out.1).symm).symm
      subst hqH
      replace hxH := (hxH.trans (EW.out.2).symm).symm
      subst hxH
      go_upto_region 31 with fail
      generalize hW : w22.alloc (.cells #[.int .i64 qW, .slice AH xW.length pH] 29) = V23
      have bV23 : Below w21.heap.size w21 V23 := by rw [← hW]; exact Below.alloc bw22 bw22.size _
      have LH : Hid (LocC V23 w22.heap.size qW AH xW.length pH) := LocC.of_row (by rw [← hW]; exact heap_top _ _ rfl)
      have FH : Hid (FlatIn V23 AH (flatG xW) w21.heap.size w22.heap.size) := by rw [← hW]; exact hfH.alloc _
      have sw22 := bw22.size
      have sV23 : w22.heap.size < V23.heap.size := by rw [← hW]; go_size
      clear hW hfH bw22
      replace B := B.trans (bV23.mono B.size)
      replace P0 := Lib.hid (P0.out.call bV23)
      replace LW := Lib.hid (LW.out.call bV23)
      replace FW := Lib.hid (FW.out.call bV23)
      replace X0 := Lib.hid (X0.out.call bV23)
      replace F0 := Lib.hid (F0.out.call bV23)
      replace I0 := Lib.hid (I0.out.call bV23)
      replace LG := Lib.hid (LG.out.call bV23)
      replace FG := Lib.hid (FG.out.call bV23)
      replace G4 := Lib.hid (G4.out.call bV23)
      replace G5 := Lib.hid (G5.out.call bV23)
      clear bV23
      clear G4 G5
      obtain ⟨_, LHc0, LHc1⟩ := LH.out
      obtain ⟨_, LWc0, LWc1⟩ := LW.out
      go_wp2_with fail
      refine (eqCircuit_same qW _ _ _ _ xW _ hmW FH.out.at FW.out.at).mono ?_
      rintro e w24 ⟨rfl, bw24⟩
      have zw24 := bw24.size
      replace B := B.trans (bw24.mono B.size)
      replace P0 := Lib.hid (P0.out.call bw24)
      replace LW := Lib.hid (LW.out.call bw24)
      replace FW := Lib.hid (FW.out.call bw24)
      replace X0 := Lib.hid (X0.out.call bw24)
      replace F0 := Lib.hid (F0.out.call bw24)
      replace I0 := Lib.hid (I0.out.call bw24)
      replace LG := Lib.hid (LG.out.call bw24)
      replace FG := Lib.hid (FG.out.call bw24)
      replace LH := Lib.hid (LH.out.call bw24)
      replace FH := Lib.hid (FH.out.call bw24)
      clear LHc0 LHc1
      clear LWc0 LWc1
      clear bw24
      obtain ⟨_, LGc0, LGc1⟩ := LG.out
      go_wp2_with fail
      refine (heldCircuit_any qW _ _ xW.length (1) _ hnW (by omega) FG.out.at).mono ?_
      rintro e w25 ⟨rfl, bw25⟩
      have zw25 := bw25.size
      replace B := B.trans (bw25.mono B.size)
      replace P0 := Lib.hid (P0.out.call bw25)
      replace LW := Lib.hid (LW.out.call bw25)
      replace FW := Lib.hid (FW.out.call bw25)
      replace X0 := Lib.hid (X0.out.call bw25)
      replace F0 := Lib.hid (F0.out.call bw25)
      replace I0 := Lib.hid (I0.out.call bw25)
      replace LG := Lib.hid (LG.out.call bw25)
      replace FG := Lib.hid (FG.out.call bw25)
      replace LH := Lib.hid (LH.out.call bw25)
      replace FH := Lib.hid (FH.out.call bw25)
      clear LGc0 LGc1
      clear bw25
      go_wp2
      go_ret
      exact ⟨rfl, B⟩
  · go_enter Try.func10, Try.ntmps10
    go_upto_region 1 with fail
    generalize hW0 : w.alloc (.cells #[.int .i64 q0, .slice A0 x0.length p0] 24) = W0
    have B : Below w.heap.size w W0 := by rw [← hW0]; go_grown
    have P0 : Hid (LocC W0 w.heap.size q0 A0 x0.length p0) := LocC.of_row (by rw [← hW0]; exact heap_top _ _ rfl)
    clear hW0
    have sW0 : w.heap.size + 1 ≤ W0.heap.size := by have := P0.out.lt; omega
    obtain ⟨_, P0c0, P0c1⟩ := P0.out
    go_wp2_with fail
    refine (szCircuit_any _ _ _ _ _ _ (by omega) hm0).mono ?_
    rintro e w1 ⟨rfl, bw1⟩
    rw [if_pos (by omega)]
    have zw1 := bw1.size
    replace B := B.trans (bw1.mono B.size)
    replace P0 := Lib.hid (P0.out.call bw1)
    clear P0c0 P0c1
    clear bw1
    go_wp2
    go_ret
    exact ⟨rfl, B⟩

set_option maxRecDepth 100000 in
theorem fnExactMapQubits_lifted (os : Os) (started : os.Started) (H : Type) (enc : TypeId × Value → H) :
    ReturnsInHanded {} Try.checked os 10 .any (Rows.fnExactMapQubitsSpec.pre6 enc Try.prog Try.f10 Rows.fnExactMapQubitsRow.domain false) (Rows.fnExactMapQubitsSpec.post enc Try.prog Try.f10 false true false false) := by
  refine law_lifted (C := Try.checked) (tb := 4) Try.own started (by kernel_rfl) Try.func10
    (ChangeSpec.witness6 (enc := enc) (C := Try.checked) false ⟨#[], #[.agg #[.int .i64 0, .slice none 0 0], .slice none 0 0, .int .i64 0], []⟩ 8 (by kernel_rfl) (by kernel_rfl) (by kernel_rfl) (by kernel_rfl))
    Try.laidOut (by kernel_rfl) rfl rfl Try.underlying4 (fun es he => ?_) ?_
  · match es, he with
    | [_, _, _], _ => rfl
  · intro W base args ds p hval0 hA hwt hsh hblk
    have hval : ∀ (j : Nat) t v, Try.f10.params[j]? = some t → args[j]? = some v → Value.okWide Try.prog W .any base t v := hval0
    have hA' : DataW.TrodAll enc Try.prog W 0 (fun _ => true) true Try.f10.params.toList args.toList ds p := hA
    rw [Try.params10] at hA' hval
    obtain ⟨v0, v1, v2, d0, d1, d2, p0, p1, p2, rfl, rfl, rfl, h0, h1, h2⟩ := trodAll_three hA'
    obtain ⟨q0, A0, p0, x0, rfl, hl0, hf0⟩ := open_circuit (hval 0 24 v0 rfl rfl) h0
    obtain ⟨A1, p1, t1, rfl, hl1, hf1⟩ := open_ints1 (hval 1 42 v1 rfl rfl) h1
    obtain ⟨n2, rfl, rfl, rfl, wn2⟩ := open_int Try.underlying3 (hval 2 3 v2 rfl rfl) h2
    exact fnExactMapQubits_any q0 A0 p0 x0 A1 p1 t1 n2 W hl0 hf0 hl1 hf1

theorem fnExactMapQubits_holds : Rows.FnExactMapQubitsSaid :=
  OpenClaim.holds_of_wide 10 Try.f10 rfl rfl rfl rfl rfl rfl rfl ⟨rfl, rfl, rfl, rfl, rfl⟩ rfl rfl rfl rfl rfl (by kernel_rfl) Try.func10 (by kernel_rfl)
    (of_decide_eq_true (by kernel_rfl)) (by unfold Func.isWrapper; first | (rw [if_pos (by decide +kernel)]; kernel_rfl) | (rw [if_neg (by decide +kernel)]; exact ⟨rfl, rfl⟩))
    (fun os started H enc _ => fnExactMapQubits_lifted os started H enc)

end Go.Proofs.Ytphdcamihkgdiaa
