/- FnExactControlledOf is proved: the program's ControlledOf returns what the reference's returns, for all arguments. No conditions. -/
import Derived.Test.YtphdcamihkgdiaaFrame
import Derived.Test.YtphdcamihkgdiaaOpenM
import Derived.Test.YtphdcamihkgdiaaCtlS
import Derived.Test.YtphdcamihkgdiaaCtlB
import Derived.Test.YtphdcamihkgdiaaLoc
import Derived.Deep.DeepCutAuto
namespace Go.Proofs.Ytphdcamihkgdiaa
open Go.RowKit Go.WideShapes Go.ChangeShapes Go.ChangeAt

set_option maxRecDepth 100000 in
set_option maxHeartbeats 8000000 in
theorem fnExactControlledOf_any (r0 c0 : Int) (A0 : Option Addr) (p0 : Nat) (x0 : List D5) (w : World) (hl0 : x0.length ≤ maxLen) (hf0 : FlatAt w A0 (flatD x0)) :
    Calls Try.prog 11 #[mv r0 c0 A0 x0.length p0] w fun e w' => e = .returned (.bool true) ∧ Below w.heap.size w w' := by
  have Hf0 := Lib.hid hf0
  clear hf0
  have hm0 : x0.length ≤ 9223372036854775807 := hl0
  by_cases hn0 : x0.length ≤ 1048576
  · skip
    go_enter Try.func11, Try.ntmps11
    go_upto_region 1 with fail
    generalize hW0 : w.alloc (.cells #[.int .i64 r0, .int .i64 c0, .slice A0 x0.length p0] 50) = W0
    have B : Below w.heap.size w W0 := by rw [← hW0]; go_grown
    have P0 : Hid (LocM W0 w.heap.size r0 c0 A0 x0.length p0) := LocM.of_row (by rw [← hW0]; exact heap_top _ _ rfl)
    clear hW0
    have sW0 : w.heap.size + 1 ≤ W0.heap.size := by have := P0.out.lt; omega
    obtain ⟨_, P0c0, P0c1, P0c2⟩ := P0.out
    go_wp2_with fail
    refine (szMatrix_any _ _ _ _ _ _ _ (by omega) hm0).mono ?_
    rintro e w1 ⟨rfl, bw1⟩
    rw [if_neg (by omega)]
    have zw1 := bw1.size
    replace B := B.trans (bw1.mono B.size)
    replace P0 := Lib.hid (P0.out.call bw1)
    clear P0c0 P0c1 P0c2
    clear bw1
    obtain ⟨_, P0c0, P0c1, P0c2⟩ := P0.out
    go_wp2_with fail
    refine (toMatrix_any r0 c0 A0 p0 x0 _ hn0 (by refine Hf0.out.below B)).mono ?_
    rintro e w2 ⟨gw2, rfl, fw2, bw2⟩
    have Gw2 := Lib.hid fw2.at
    have zw2 := bw2.size
    clear fw2
    replace B := B.trans (bw2.mono B.size)
    replace P0 := Lib.hid (P0.out.call bw2)
    clear P0c0 P0c1 P0c2
    clear bw2
    go_wp2_with fail
    refine (specCtl_any r0 c0 _ _ x0 _ Gw2.out).mono ?_
    rintro e w3 hm
    obtain ⟨AW, pW, rW, cW, xW, rfl, hrW, hcW, hxW, hfW, bw3⟩ := hm.form
    clear hm
    have hnW : xW.length ≤ 1048576 := by rw [hxW]; exact ctlBd _ _ _
    have hmW : xW.length ≤ 9223372036854775807 := by omega
    have EW := Lib.hid (And.intro hrW (And.intro hcW (hxW)))
    clear hrW hcW hxW
    go_upto_region 6 with fail
    generalize hW : w3.alloc (.cells #[.int .i64 rW, .int .i64 cW, .slice AW xW.length pW] 54) = V4
    have bV4 : Below w2.heap.size w2 V4 := by rw [← hW]; exact Below.alloc bw3 bw3.size _
    have LW : Hid (LocM V4 w3.heap.size rW cW AW xW.length pW) := LocM.of_row (by rw [← hW]; exact heap_top _ _ rfl)
    have FW : Hid (FlatIn V4 AW (flatD xW) w2.heap.size w3.heap.size) := by rw [← hW]; exact hfW.alloc _
    have sw3 := bw3.size
    have sV4 : w3.heap.size < V4.heap.size := by rw [← hW]; go_size
    clear hW hfW bw3
    replace B := B.trans (bV4.mono B.size)
    replace P0 := Lib.hid (P0.out.call bV4)
    clear bV4
    obtain ⟨_, P0c0, P0c1, P0c2⟩ := P0.out
    go_wp2_with fail
    refine (toMatrix_any r0 c0 A0 p0 x0 _ hn0 (by refine Hf0.out.below B)).mono ?_
    rintro e w5 ⟨g0, rfl, fw5, bw5⟩
    go_upto_region 7 with fail
    generalize hW : w5.alloc (.cells #[.int .i64 r0, .int .i64 c0, .slice (some ⟨g0, 0, none⟩) x0.length x0.length] 54) = V6
    have bV6 : Below V4.heap.size V4 V6 := by rw [← hW]; exact Below.alloc bw5 bw5.size _
    have X0 : Hid (LocM V6 w5.heap.size r0 c0 (some ⟨g0, 0, none⟩) x0.length x0.length) := LocM.of_row (by rw [← hW]; exact heap_top _ _ rfl)
    have F0 : Hid (FlatIn V6 (some ⟨g0, 0, none⟩) (flatD x0) V4.heap.size w5.heap.size) := by rw [← hW]; exact fw5.alloc _
    have sw5 := bw5.size
    have sV6 : w5.heap.size < V6.heap.size := by rw [← hW]; go_size
    clear P0c0 P0c1 P0c2
    clear hW fw5 bw5
    replace B := B.trans (bV6.mono B.size)
    replace P0 := Lib.hid (P0.out.call bV6)
    replace LW := Lib.hid (LW.out.call bV6)
    replace FW := Lib.hid (FW.out.call bV6)
    clear bV6
    obtain ⟨_, X0c0, X0c1, X0c2⟩ := X0.out
    go_wp2_with fail
    refine (implCtl_any r0 c0 _ _ x0 _ hn0 F0.out.at).mono ?_
    rintro e w7 hm
    obtain ⟨AG, pG, rG, cG, xG, rfl, hrG, hcG, hxG, hfG, bw7⟩ := hm.form
    clear hm
    replace hrG := (hrG.trans (EW.out.1).symm).symm
    subst hrG
    replace hcG := (hcG.trans (EW.out.2.1).symm).symm
    subst hcG
    replace hxG := (hxG.trans (EW.out.2.2).symm).symm
    subst hxG
    go_upto_region 8 with fail
    generalize hW : w7.alloc (.cells #[.int .i64 rW, .int .i64 cW, .slice AG xW.length pG] 54) = V8
    have bV8 : Below V6.heap.size V6 V8 := by rw [← hW]; exact Below.alloc bw7 bw7.size _
    have LG : Hid (LocM V8 w7.heap.size rW cW AG xW.length pG) := LocM.of_row (by rw [← hW]; exact heap_top _ _ rfl)
    have FG : Hid (FlatIn V8 AG (flatD xW) V6.heap.size w7.heap.size) := by rw [← hW]; exact hfG.alloc _
    have sw7 := bw7.size
    have sV8 : w7.heap.size < V8.heap.size := by rw [← hW]; go_size
    clear X0c0 X0c1 X0c2
    clear hW hfG bw7
    replace B := B.trans (bV8.mono B.size)
    replace P0 := Lib.hid (P0.out.call bV8)
    replace LW := Lib.hid (LW.out.call bV8)
    replace FW := Lib.hid (FW.out.call bV8)
    replace X0 := Lib.hid (X0.out.call bV8)
    replace F0 := Lib.hid (F0.out.call bV8)
    clear bV8
    obtain ⟨_, LGc0, LGc1, LGc2⟩ := LG.out
    obtain ⟨_, LWc0, LWc1, LWc2⟩ := LW.out
    go_wp2_with fail
    refine (eqMatrix_same rW cW _ _ _ _ xW _ hmW FG.out.at FW.out.at).mono ?_
    rintro e w9 ⟨rfl, bw9⟩
    have zw9 := bw9.size
    replace B := B.trans (bw9.mono B.size)
    replace P0 := Lib.hid (P0.out.call bw9)
    replace LW := Lib.hid (LW.out.call bw9)
    replace FW := Lib.hid (FW.out.call bw9)
    replace X0 := Lib.hid (X0.out.call bw9)
    replace F0 := Lib.hid (F0.out.call bw9)
    replace LG := Lib.hid (LG.out.call bw9)
    replace FG := Lib.hid (FG.out.call bw9)
    clear LGc0 LGc1 LGc2
    clear LWc0 LWc1 LWc2
    clear bw9
    go_upto_region 10 with fail
    obtain ⟨_, P0c0, P0c1, P0c2⟩ := P0.out
    obtain ⟨_, X0c0, X0c1, X0c2⟩ := X0.out
    go_cut [45] (fun sA wx => sA = .bool false ∧ Below w9.heap.size w9 wx)
    case first =>
      go_region_held3 (fun w' => (∀ b o, b < w9.heap.size → w'.cell? ⟨b, o, none⟩ = w9.cell? ⟨b, o, none⟩) ∧ Below w9.heap.size w9 w') ((refine SB_mk ?_; go_grown)) (first | (go_at_call 40; refine (toMatrix_any _ _ _ _ _ _ ?_ ?_).mono ?_; exact hn0; exact flat_sb Hf0.out B (by with_reducible assumption); rintro e wA ⟨gA, rfl, fA', bA⟩; have fA := Lib.hid fA'; clear fA'; obtain ⟨bAc, bAf⟩ := bcell bA; have sA := (SB_step (W := w9) (by with_reducible assumption) bA).2; have zA := sA.size) | (go_at_call 42; refine (eqMatrix_same r0 c0 _ _ _ _ x0 _ hm0 (flatin_sb F0.out (by with_reducible assumption)) fA.out.at).mono ?_; rintro e wB ⟨rfl, bB⟩; obtain ⟨bBc, bBf⟩ := bcell bB; have sB := (SB_step (W := w9) (by with_reducible assumption) bB).2; have zB := sB.size))
      all_goals
        go_wp2_with fail
        go_meet
        exact ⟨rfl, by go_grown⟩
    case rest =>
      obtain ⟨w10, rfl⟩ : ∃ w10 : World, w10 = wc := ⟨_, rfl⟩
      obtain ⟨rfl, bw10⟩ := hcut
      have zw10 := bw10.size
      replace B := B.trans (bw10.mono B.size)
      replace P0 := Lib.hid (P0.out.call bw10)
      replace LW := Lib.hid (LW.out.call bw10)
      replace FW := Lib.hid (FW.out.call bw10)
      replace X0 := Lib.hid (X0.out.call bw10)
      replace F0 := Lib.hid (F0.out.call bw10)
      replace LG := Lib.hid (LG.out.call bw10)
      replace FG := Lib.hid (FG.out.call bw10)
      clear bw10
      clear P0c0 P0c1 P0c2
      clear X0c0 X0c1 X0c2
      obtain ⟨_, X0c0, X0c1, X0c2⟩ := X0.out
      go_wp2_with fail
      refine (markMatrix_any r0 c0 _ _ x0.length (1) (flatD x0) _ _ _ hn0 (by omega) (flatD_len x0) F0.out).mono ?_
      rintro e w11 ⟨rfl, fw11, tw11⟩
      clear X0c0 X0c1 X0c2
      have sw11 := tw11.size
      replace F0 := Lib.hid fw11
      replace P0 := Lib.hid (P0.out.touch tw11 (by omega))
      replace LW := Lib.hid (LW.out.touch tw11 (by omega))
      replace FW := Lib.hid (FW.out.touch tw11 (by omega))
      replace X0 := Lib.hid (X0.out.touch tw11 (by omega))
      replace LG := Lib.hid (LG.out.touch tw11 (by omega))
      replace FG := Lib.hid (FG.out.touch tw11 (by omega))
      replace B := B.trans (tw11.far (by omega) B.size)
      clear fw11 tw11
      obtain ⟨_, LGc0, LGc1, LGc2⟩ := LG.out
      obtain ⟨_, LWc0, LWc1, LWc2⟩ := LW.out
      go_wp2_with fail
      refine (eqMatrix_same rW cW _ _ _ _ xW _ hmW FG.out.at FW.out.at).mono ?_
      rintro e w12 ⟨rfl, bw12⟩
      have zw12 := bw12.size
      replace B := B.trans (bw12.mono B.size)
      replace P0 := Lib.hid (P0.out.call bw12)
      replace LW := Lib.hid (LW.out.call bw12)
      replace FW := Lib.hid (FW.out.call bw12)
      replace X0 := Lib.hid (X0.out.call bw12)
      replace F0 := Lib.hid (F0.out.call bw12)
      replace LG := Lib.hid (LG.out.call bw12)
      replace FG := Lib.hid (FG.out.call bw12)
      clear LGc0 LGc1 LGc2
      clear LWc0 LWc1 LWc2
      clear bw12
      obtain ⟨_, LGc0, LGc1, LGc2⟩ := LG.out
      go_wp2_with fail
      refine (markMatrix_any rW cW _ _ xW.length (1) (flatD xW) _ _ _ hnW (by omega) (flatD_len xW) FG.out).mono ?_
      rintro e w13 ⟨rfl, fw13, tw13⟩
      clear LGc0 LGc1 LGc2
      have sw13 := tw13.size
      replace FG := Lib.hid fw13
      replace P0 := Lib.hid (P0.out.touch tw13 (by omega))
      replace LW := Lib.hid (LW.out.touch tw13 (by omega))
      replace FW := Lib.hid (FW.out.touch tw13 (by omega))
      replace X0 := Lib.hid (X0.out.touch tw13 (by omega))
      replace F0 := Lib.hid (F0.out.touch tw13 (by omega))
      replace LG := Lib.hid (LG.out.touch tw13 (by omega))
      replace B := B.trans (tw13.far (by omega) B.size)
      clear fw13 tw13
      obtain ⟨_, LGc0, LGc1, LGc2⟩ := LG.out
      go_wp2_with fail
      refine (heldMatrix_any rW cW _ _ xW.length (1) _ hnW (by omega) FG.out.at).mono ?_
      rintro e w14 ⟨rfl, bw14⟩
      have zw14 := bw14.size
      replace B := B.trans (bw14.mono B.size)
      replace P0 := Lib.hid (P0.out.call bw14)
      replace LW := Lib.hid (LW.out.call bw14)
      replace FW := Lib.hid (FW.out.call bw14)
      replace X0 := Lib.hid (X0.out.call bw14)
      replace F0 := Lib.hid (F0.out.call bw14)
      replace LG := Lib.hid (LG.out.call bw14)
      replace FG := Lib.hid (FG.out.call bw14)
      clear LGc0 LGc1 LGc2
      clear bw14
      obtain ⟨_, P0c0, P0c1, P0c2⟩ := P0.out
      go_wp2_with fail
      refine (toMatrix_any r0 c0 A0 p0 x0 _ hn0 (by refine Hf0.out.below B)).mono ?_
      rintro e w15 ⟨gw15, rfl, fw15, bw15⟩
      have Gw15 := Lib.hid fw15.at
      have zw15 := bw15.size
      clear fw15
      replace B := B.trans (bw15.mono B.size)
      replace P0 := Lib.hid (P0.out.call bw15)
      replace LW := Lib.hid (LW.out.call bw15)
      replace FW := Lib.hid (FW.out.call bw15)
      replace X0 := Lib.hid (X0.out.call bw15)
      replace F0 := Lib.hid (F0.out.call bw15)
      replace LG := Lib.hid (LG.out.call bw15)
      replace FG := Lib.hid (FG.out.call bw15)
      clear P0c0 P0c1 P0c2
      clear bw15
      go_wp2_with fail
      refine (implCtl_any r0 c0 _ _ x0 _ hn0 Gw15.out).mono ?_
      rintro e w16 hm
      obtain ⟨AH, pH, rH, cH, xH, rfl, hrH, hcH, hxH, hfH, bw16⟩ := hm.form
      clear hm
      replace hrH := (hrH.trans (EW.out.1).symm).symm
      subst hrH
      replace hcH := (hcH.trans (EW.out.2.1).symm).symm
      subst hcH
      replace hxH := (hxH.trans (EW.out.2.2).symm).symm
      subst hxH
      go_upto_region 25 with fail
      generalize hW : w16.alloc (.cells #[.int .i64 rW, .int .i64 cW, .slice AH xW.length pH] 54) = V17
      have bV17 : Below w15.heap.size w15 V17 := by rw [← hW]; exact Below.alloc bw16 bw16.size _
      have LH : Hid (LocM V17 w16.heap.size rW cW AH xW.length pH) := LocM.of_row (by rw [← hW]; exact heap_top _ _ rfl)
      have FH : Hid (FlatIn V17 AH (flatD xW) w15.heap.size w16.heap.size) := by rw [← hW]; exact hfH.alloc _
      have sw16 := bw16.size
      have sV17 : w16.heap.size < V17.heap.size := by rw [← hW]; go_size
      clear hW hfH bw16
      replace B := B.trans (bV17.mono B.size)
      replace P0 := Lib.hid (P0.out.call bV17)
      replace LW := Lib.hid (LW.out.call bV17)
      replace FW := Lib.hid (FW.out.call bV17)
      replace X0 := Lib.hid (X0.out.call bV17)
      replace F0 := Lib.hid (F0.out.call bV17)
      replace LG := Lib.hid (LG.out.call bV17)
      replace FG := Lib.hid (FG.out.call bV17)
      clear bV17
      obtain ⟨_, LHc0, LHc1, LHc2⟩ := LH.out
      obtain ⟨_, LWc0, LWc1, LWc2⟩ := LW.out
      go_wp2_with fail
      refine (eqMatrix_same rW cW _ _ _ _ xW _ hmW FH.out.at FW.out.at).mono ?_
      rintro e w18 ⟨rfl, bw18⟩
      have zw18 := bw18.size
      replace B := B.trans (bw18.mono B.size)
      replace P0 := Lib.hid (P0.out.call bw18)
      replace LW := Lib.hid (LW.out.call bw18)
      replace FW := Lib.hid (FW.out.call bw18)
      replace X0 := Lib.hid (X0.out.call bw18)
      replace F0 := Lib.hid (F0.out.call bw18)
      replace LG := Lib.hid (LG.out.call bw18)
      replace FG := Lib.hid (FG.out.call bw18)
      replace LH := Lib.hid (LH.out.call bw18)
      replace FH := Lib.hid (FH.out.call bw18)
      clear LHc0 LHc1 LHc2
      clear LWc0 LWc1 LWc2
      clear bw18
      obtain ⟨_, LGc0, LGc1, LGc2⟩ := LG.out
      go_wp2_with fail
      refine (heldMatrix_any rW cW _ _ xW.length (1) _ hnW (by omega) FG.out.at).mono ?_
      rintro e w19 ⟨rfl, bw19⟩
      have zw19 := bw19.size
      replace B := B.trans (bw19.mono B.size)
      replace P0 := Lib.hid (P0.out.call bw19)
      replace LW := Lib.hid (LW.out.call bw19)
      replace FW := Lib.hid (FW.out.call bw19)
      replace X0 := Lib.hid (X0.out.call bw19)
      replace F0 := Lib.hid (F0.out.call bw19)
      replace LG := Lib.hid (LG.out.call bw19)
      replace FG := Lib.hid (FG.out.call bw19)
      replace LH := Lib.hid (LH.out.call bw19)
      replace FH := Lib.hid (FH.out.call bw19)
      clear LGc0 LGc1 LGc2
      clear bw19
      go_wp2
      go_ret
      exact ⟨rfl, B⟩
  · go_enter Try.func11, Try.ntmps11
    go_upto_region 1 with fail
    generalize hW0 : w.alloc (.cells #[.int .i64 r0, .int .i64 c0, .slice A0 x0.length p0] 50) = W0
    have B : Below w.heap.size w W0 := by rw [← hW0]; go_grown
    have P0 : Hid (LocM W0 w.heap.size r0 c0 A0 x0.length p0) := LocM.of_row (by rw [← hW0]; exact heap_top _ _ rfl)
    clear hW0
    have sW0 : w.heap.size + 1 ≤ W0.heap.size := by have := P0.out.lt; omega
    obtain ⟨_, P0c0, P0c1, P0c2⟩ := P0.out
    go_wp2_with fail
    refine (szMatrix_any _ _ _ _ _ _ _ (by omega) hm0).mono ?_
    rintro e w1 ⟨rfl, bw1⟩
    rw [if_pos (by omega)]
    have zw1 := bw1.size
    replace B := B.trans (bw1.mono B.size)
    replace P0 := Lib.hid (P0.out.call bw1)
    clear P0c0 P0c1 P0c2
    clear bw1
    go_wp2
    go_ret
    exact ⟨rfl, B⟩

set_option maxRecDepth 100000 in
theorem fnExactControlledOf_lifted (os : Os) (started : os.Started) (H : Type) (enc : TypeId × Value → H) :
    ReturnsInHanded {} Try.checked os 11 .any (Rows.fnExactControlledOfSpec.pre6 enc Try.prog Try.f11 Rows.fnExactControlledOfRow.domain false) (Rows.fnExactControlledOfSpec.post enc Try.prog Try.f11 false true false false) := by
  refine law_lifted (C := Try.checked) (tb := 4) Try.own started (by kernel_rfl) Try.func11
    (ChangeSpec.witness6 (enc := enc) (C := Try.checked) false ⟨#[], #[.agg #[.int .i64 0, .int .i64 0, .slice none 0 0]], []⟩ 8 (by kernel_rfl) (by kernel_rfl) (by kernel_rfl) (by kernel_rfl))
    Try.laidOut (by kernel_rfl) rfl rfl Try.underlying4 (fun es he => ?_) ?_
  · match es, he with
    | [_], _ => rfl
  · intro W base args ds p hval0 hA hwt hsh hblk
    have hval : ∀ (j : Nat) t v, Try.f11.params[j]? = some t → args[j]? = some v → Value.okWide Try.prog W .any base t v := hval0
    have hA' : DataW.TrodAll enc Try.prog W 0 (fun _ => true) true Try.f11.params.toList args.toList ds p := hA
    rw [Try.params11] at hA' hval
    obtain ⟨v0, d0, rfl, rfl, h0⟩ := trodAll_one hA'
    obtain ⟨r0, c0, A0, p0, x0, rfl, hl0, hf0⟩ := open_matrix (hval 0 50 v0 rfl rfl) h0
    exact fnExactControlledOf_any r0 c0 A0 p0 x0 W hl0 hf0

theorem fnExactControlledOf_holds : Rows.FnExactControlledOfSaid :=
  OpenClaim.holds_of_wide 11 Try.f11 rfl rfl rfl rfl rfl rfl rfl ⟨rfl, rfl, rfl, rfl, rfl⟩ rfl rfl rfl rfl rfl (by kernel_rfl) Try.func11 (by kernel_rfl)
    (of_decide_eq_true (by kernel_rfl)) (by unfold Func.isWrapper; first | (rw [if_pos (by decide +kernel)]; kernel_rfl) | (rw [if_neg (by decide +kernel)]; exact ⟨rfl, rfl⟩))
    (fun os started H enc _ => fnExactControlledOf_lifted os started H enc)

end Go.Proofs.Ytphdcamihkgdiaa
