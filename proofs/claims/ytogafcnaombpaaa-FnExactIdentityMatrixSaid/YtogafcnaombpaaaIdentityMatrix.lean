/- FnExactIdentityMatrix is proved: the program's IdentityMatrix returns what the reference's returns, for all arguments. No conditions. -/
import Derived.Test.YtogafcnaombpaaaFrame
import Derived.Test.YtogafcnaombpaaaOpenM
import Derived.Test.YtogafcnaombpaaaIdS
import Derived.Test.YtogafcnaombpaaaLoc
import Derived.Deep.DeepCutAuto
namespace Go.Proofs.Ytogafcnaombpaaa
open Go.RowKit Go.WideShapes Go.ChangeShapes Go.ChangeAt

set_option maxRecDepth 100000 in
set_option maxHeartbeats 8000000 in
theorem fnExactIdentityMatrix_any (n : Int) (w : World) :
    Calls Try.prog 7 #[.int .i64 n] w fun e w' => e = .returned (.bool true) ∧ Below w.heap.size w w' := by
  go_enter Try.func7, Try.ntmps7
  have B : Below w.heap.size w w := Below.refl _ _
  go_wp2_with fail
  refine (specId_any n _).mono ?_
  rintro e w1 hm
  obtain ⟨AW, pW, rW, cW, xW, rfl, hrW, hcW, hxW, hfW, bw1⟩ := hm.form
  clear hm
  have hnW : xW.length ≤ 1048576 := by rw [hxW]; exact idBd _
  have hmW : xW.length ≤ 9223372036854775807 := by omega
  have EW := Lib.hid (And.intro hrW (And.intro hcW (hxW)))
  clear hrW hcW hxW
  go_upto_region 2 with fail
  generalize hW : w1.alloc (.cells #[.int .i64 rW, .int .i64 cW, .slice AW xW.length pW] 29) = V2
  have bV2 : Below w.heap.size w V2 := by rw [← hW]; exact Below.alloc bw1 bw1.size _
  have LW : Hid (LocM V2 w1.heap.size rW cW AW xW.length pW) := LocM.of_row (by rw [← hW]; exact heap_top _ _ rfl)
  have FW : Hid (FlatIn V2 AW (flatD xW) w.heap.size w1.heap.size) := by rw [← hW]; exact hfW.alloc _
  have sw1 := bw1.size
  have sV2 : w1.heap.size < V2.heap.size := by rw [← hW]; go_size
  clear hW hfW bw1
  replace B := B.trans (bV2.mono B.size)
  clear bV2
  go_wp2_with fail
  refine (implId_any n _).mono ?_
  rintro e w3 hm
  obtain ⟨AG, pG, rG, cG, xG, rfl, hrG, hcG, hxG, hfG, bw3⟩ := hm.form
  clear hm
  replace hrG := (hrG.trans (EW.out.1).symm).symm
  subst hrG
  replace hcG := (hcG.trans (EW.out.2.1).symm).symm
  subst hcG
  replace hxG := (hxG.trans (EW.out.2.2).symm).symm
  subst hxG
  go_upto_region 3 with fail
  generalize hW : w3.alloc (.cells #[.int .i64 rW, .int .i64 cW, .slice AG xW.length pG] 29) = V4
  have bV4 : Below V2.heap.size V2 V4 := by rw [← hW]; exact Below.alloc bw3 bw3.size _
  have LG : Hid (LocM V4 w3.heap.size rW cW AG xW.length pG) := LocM.of_row (by rw [← hW]; exact heap_top _ _ rfl)
  have FG : Hid (FlatIn V4 AG (flatD xW) V2.heap.size w3.heap.size) := by rw [← hW]; exact hfG.alloc _
  have sw3 := bw3.size
  have sV4 : w3.heap.size < V4.heap.size := by rw [← hW]; go_size
  clear hW hfG bw3
  replace B := B.trans (bV4.mono B.size)
  replace LW := Lib.hid (LW.out.call bV4)
  replace FW := Lib.hid (FW.out.call bV4)
  clear bV4
  obtain ⟨_, LGc0, LGc1, LGc2⟩ := LG.out
  obtain ⟨_, LWc0, LWc1, LWc2⟩ := LW.out
  go_wp2_with fail
  refine (eqMatrix_same rW cW _ _ _ _ xW _ hmW FG.out.at FW.out.at).mono ?_
  rintro e w5 ⟨rfl, bw5⟩
  replace B := B.trans (bw5.mono B.size)
  replace LW := Lib.hid (LW.out.call bw5)
  replace FW := Lib.hid (FW.out.call bw5)
  replace LG := Lib.hid (LG.out.call bw5)
  replace FG := Lib.hid (FG.out.call bw5)
  clear LGc0 LGc1 LGc2
  clear LWc0 LWc1 LWc2
  clear bw5
  obtain ⟨_, LGc0, LGc1, LGc2⟩ := LG.out
  go_wp2_with fail
  refine (markMatrix_any rW cW _ _ xW.length (1) (flatD xW) _ _ _ hnW (by omega) (flatD_len xW) FG.out).mono ?_
  rintro e w6 ⟨rfl, fw6, tw6⟩
  clear LGc0 LGc1 LGc2
  have sw6 := tw6.size
  replace FG := Lib.hid fw6
  replace LW := Lib.hid (LW.out.touch tw6 (by omega))
  replace FW := Lib.hid (FW.out.touch tw6 (by omega))
  replace LG := Lib.hid (LG.out.touch tw6 (by omega))
  replace B := B.trans (tw6.far (by omega) B.size)
  clear fw6 tw6
  obtain ⟨_, LGc0, LGc1, LGc2⟩ := LG.out
  go_wp2_with fail
  refine (heldMatrix_any rW cW _ _ xW.length (1) _ hnW (by omega) FG.out.at).mono ?_
  rintro e w7 ⟨rfl, bw7⟩
  replace B := B.trans (bw7.mono B.size)
  replace LW := Lib.hid (LW.out.call bw7)
  replace FW := Lib.hid (FW.out.call bw7)
  replace LG := Lib.hid (LG.out.call bw7)
  replace FG := Lib.hid (FG.out.call bw7)
  clear LGc0 LGc1 LGc2
  clear bw7
  go_wp2_with fail
  refine (implId_any n _).mono ?_
  rintro e w8 hm
  obtain ⟨AH, pH, rH, cH, xH, rfl, hrH, hcH, hxH, hfH, bw8⟩ := hm.form
  clear hm
  replace hrH := (hrH.trans (EW.out.1).symm).symm
  subst hrH
  replace hcH := (hcH.trans (EW.out.2.1).symm).symm
  subst hcH
  replace hxH := (hxH.trans (EW.out.2.2).symm).symm
  subst hxH
  go_upto_region 14 with fail
  generalize hW : w8.alloc (.cells #[.int .i64 rW, .int .i64 cW, .slice AH xW.length pH] 29) = V9
  have bV9 : Below w7.heap.size w7 V9 := by rw [← hW]; exact Below.alloc bw8 bw8.size _
  have LH : Hid (LocM V9 w8.heap.size rW cW AH xW.length pH) := LocM.of_row (by rw [← hW]; exact heap_top _ _ rfl)
  have FH : Hid (FlatIn V9 AH (flatD xW) w7.heap.size w8.heap.size) := by rw [← hW]; exact hfH.alloc _
  have sw8 := bw8.size
  have sV9 : w8.heap.size < V9.heap.size := by rw [← hW]; go_size
  clear hW hfH bw8
  replace B := B.trans (bV9.mono B.size)
  replace LW := Lib.hid (LW.out.call bV9)
  replace FW := Lib.hid (FW.out.call bV9)
  replace LG := Lib.hid (LG.out.call bV9)
  replace FG := Lib.hid (FG.out.call bV9)
  clear bV9
  obtain ⟨_, LHc0, LHc1, LHc2⟩ := LH.out
  obtain ⟨_, LWc0, LWc1, LWc2⟩ := LW.out
  go_wp2_with fail
  refine (eqMatrix_same rW cW _ _ _ _ xW _ hmW FH.out.at FW.out.at).mono ?_
  rintro e w10 ⟨rfl, bw10⟩
  replace B := B.trans (bw10.mono B.size)
  replace LW := Lib.hid (LW.out.call bw10)
  replace FW := Lib.hid (FW.out.call bw10)
  replace LG := Lib.hid (LG.out.call bw10)
  replace FG := Lib.hid (FG.out.call bw10)
  replace LH := Lib.hid (LH.out.call bw10)
  replace FH := Lib.hid (FH.out.call bw10)
  clear LHc0 LHc1 LHc2
  clear LWc0 LWc1 LWc2
  clear bw10
  obtain ⟨_, LGc0, LGc1, LGc2⟩ := LG.out
  go_wp2_with fail
  refine (heldMatrix_any rW cW _ _ xW.length (1) _ hnW (by omega) FG.out.at).mono ?_
  rintro e w11 ⟨rfl, bw11⟩
  replace B := B.trans (bw11.mono B.size)
  replace LW := Lib.hid (LW.out.call bw11)
  replace FW := Lib.hid (FW.out.call bw11)
  replace LG := Lib.hid (LG.out.call bw11)
  replace FG := Lib.hid (FG.out.call bw11)
  replace LH := Lib.hid (LH.out.call bw11)
  replace FH := Lib.hid (FH.out.call bw11)
  clear LGc0 LGc1 LGc2
  clear bw11
  go_wp2
  go_ret
  exact ⟨rfl, B⟩

set_option maxRecDepth 100000 in
theorem fnExactIdentityMatrix_lifted (os : Os) (started : os.Started) (H : Type) (enc : TypeId × Value → H) :
    ReturnsInHanded {} Try.checked os 7 .any (Rows.fnExactIdentityMatrixSpec.pre6 enc Try.prog Try.f7 Rows.fnExactIdentityMatrixRow.domain false) (Rows.fnExactIdentityMatrixSpec.post enc Try.prog Try.f7 false true false false) := by
  refine law_lifted (C := Try.checked) (tb := 4) Try.own started (by kernel_rfl) Try.func7
    (ChangeSpec.witness6 (enc := enc) (C := Try.checked) false ⟨#[], #[.int .i64 0], []⟩ 8 (by kernel_rfl) (by kernel_rfl) (by kernel_rfl) (by kernel_rfl))
    Try.laidOut (by kernel_rfl) rfl rfl Try.underlying4 (fun es he => ?_) ?_
  · match es, he with
    | [_], _ => rfl
  · intro W base args ds p hval0 hA hwt hsh hblk
    have hval : ∀ (j : Nat) t v, Try.f7.params[j]? = some t → args[j]? = some v → Value.okWide Try.prog W .any base t v := hval0
    have hA' : DataW.TrodAll enc Try.prog W 0 (fun _ => true) true Try.f7.params.toList args.toList ds p := hA
    rw [Try.params7] at hA' hval
    obtain ⟨v0, d0, rfl, rfl, h0⟩ := trodAll_one hA'
    obtain ⟨n0, rfl, rfl, rfl, wn0⟩ := open_int Try.underlying3 (hval 0 3 v0 rfl rfl) h0
    exact fnExactIdentityMatrix_any n0 W

theorem fnExactIdentityMatrix_holds : Rows.FnExactIdentityMatrixSaid :=
  OpenClaim.holds_of_wide 7 Try.f7 rfl rfl rfl rfl rfl rfl rfl ⟨rfl, rfl, rfl, rfl, rfl⟩ rfl rfl rfl rfl rfl (by kernel_rfl) Try.func7 (by kernel_rfl)
    (of_decide_eq_true (by kernel_rfl)) (by unfold Func.isWrapper; first | (rw [if_pos (by decide +kernel)]; kernel_rfl) | (rw [if_neg (by decide +kernel)]; exact ⟨rfl, rfl⟩))
    (fun os started H enc _ => fnExactIdentityMatrix_lifted os started H enc)

end Go.Proofs.Ytogafcnaombpaaa
