/- FnExactGateMatrix is proved: the program's GateMatrix returns what the reference's returns, for all arguments. No conditions. -/
import Derived.Test.YtlihnipbdckmkaaFrame
import Derived.Test.YtlihnipbdckmkaaOpenM
import Derived.Test.YtlihnipbdckmkaaOpen2
import Derived.Test.YtlihnipbdckmkaaGmS
import Derived.Test.YtlihnipbdckmkaaLoc
import Derived.Deep.DeepCutAuto
namespace Go.Proofs.Ytlihnipbdckmkaa
open Go.RowKit Go.WideShapes Go.ChangeShapes Go.ChangeAt

/-- block b holds a law's gate -/
def LocT (w : World) (b : Nat) (x y z : Int) : Prop := w.heap[b]? = some (.cells #[.int .i64 x, .int .i64 y, .int .i64 z] 23 (0, 0))
theorem LocT.lt {w : World} {b : Nat} {x y z : Int} (h : LocT w b x y z) : b < w.heap.size := (Array.getElem?_eq_some_iff.1 h).1
theorem LocT.call {w w' : World} {b : Nat} {x y z : Int} (h : LocT w b x y z) (hb : Below w.heap.size w w') : LocT w' b x y z := (hb.block b h.lt).trans h
theorem LocT.touch {lo hi : Nat} {w w' : World} {b : Nat} {x y z : Int} (h : LocT w b x y z) (ht : Touch lo hi w w') (hd : b < lo ∨ hi ≤ b) : LocT w' b x y z := (ht.block b h.lt hd).trans h
theorem gmBd (n k a b : Int) : (if validB n k a b then gmL n k a b else []).length ≤ 1048576 := by
  split
  · rename_i h
    obtain ⟨N, K, P, Q, sa, sb, rfl, rfl, rfl, rfl, hN1, hN5, _⟩ := valid_parts h
    have e : gmN (N : Int) = 2 ^ N := by simp [gmN]
    have h2 := gmN_le hN1 hN5
    have h3 := Nat.mul_le_mul h2.2 h2.2
    rw [gmL, cellsM_len, e]
    omega
  · simp

set_option maxRecDepth 100000 in
set_option maxHeartbeats 8000000 in
theorem fnExactGateMatrix_any (n a b c : Int) (w : World) :
    Calls Try.prog 3 #[.int .i64 n, tv a b c] w fun e w' => e = .returned (.bool true) ∧ Below w.heap.size w w' := by
  go_enter Try.func3, Try.ntmps3
  go_upto_region 1 with fail
  generalize hW0 : w.alloc (.cells #[.int .i64 a, .int .i64 b, .int .i64 c] 23) = W0
  have B : Below w.heap.size w W0 := by rw [← hW0]; go_grown
  have T : Hid (LocT W0 w.heap.size a b c) := by rw [← hW0]; exact heap_top _ _ rfl
  clear hW0
  have sW0 : w.heap.size + 1 ≤ W0.heap.size := by have := T.out.lt; omega
  have t0 := cell_of_row W0 w.heap.size 0 _ _ _ T.out
  have t1 := cell_of_row W0 w.heap.size 1 _ _ _ T.out
  have t2 := cell_of_row W0 w.heap.size 2 _ _ _ T.out
  have tl := T.out.lt
  go_wp2_with fail
  refine (toGate_any a b c _).mono ?_
  rintro e w1 ⟨rfl, bw1⟩
  have zw1 := bw1.size
  replace B := B.trans (bw1.mono B.size)
  replace T := Lib.hid (T.out.call bw1)
  clear bw1 t0 t1 t2 tl
  go_wp2_with fail
  refine (specGm_any n a b c _).mono ?_
  rintro e w2 hm
  obtain ⟨AW, pW, rW, cW, xW, rfl, hrW, hcW, hxW, hfW, bw2⟩ := hm.form
  clear hm
  have hnW : xW.length ≤ 1048576 := by rw [hxW]; exact gmBd _ _ _ _
  have hmW : xW.length ≤ 9223372036854775807 := by omega
  have EW := Lib.hid (And.intro hrW (And.intro hcW (hxW)))
  clear hrW hcW hxW
  go_upto_region 2 with fail
  generalize hW : w2.alloc (.cells #[.int .i64 rW, .int .i64 cW, .slice AW xW.length pW] 26) = V3
  have bV3 : Below w1.heap.size w1 V3 := by rw [← hW]; exact Below.alloc bw2 bw2.size _
  have LW : Hid (LocM V3 w2.heap.size rW cW AW xW.length pW) := LocM.of_row (by rw [← hW]; exact heap_top _ _ rfl)
  have FW : Hid (FlatIn V3 AW (flatD xW) w1.heap.size w2.heap.size) := by rw [← hW]; exact hfW.alloc _
  have sw2 := bw2.size
  have sV3 : w2.heap.size < V3.heap.size := by rw [← hW]; go_size
  clear hW hfW bw2
  replace B := B.trans (bV3.mono B.size)
  replace T := Lib.hid (T.out.call bV3)
  clear bV3
  have t0 := cell_of_row V3 w.heap.size 0 _ _ _ T.out
  have t1 := cell_of_row V3 w.heap.size 1 _ _ _ T.out
  have t2 := cell_of_row V3 w.heap.size 2 _ _ _ T.out
  have tl := T.out.lt
  go_wp2_with fail
  refine (toGate_any a b c _).mono ?_
  rintro e w4 ⟨rfl, bw4⟩
  have zw4 := bw4.size
  replace B := B.trans (bw4.mono B.size)
  replace T := Lib.hid (T.out.call bw4)
  replace LW := Lib.hid (LW.out.call bw4)
  replace FW := Lib.hid (FW.out.call bw4)
  clear bw4 t0 t1 t2 tl
  go_wp2_with fail
  refine (implGm_any n a b c _).mono ?_
  rintro e w5 hm
  obtain ⟨AG, pG, rG, cG, xG, rfl, hrG, hcG, hxG, hfG, bw5⟩ := hm.form
  clear hm
  replace hrG := (hrG.trans (EW.out.1).symm).symm
  subst hrG
  replace hcG := (hcG.trans (EW.out.2.1).symm).symm
  subst hcG
  replace hxG := (hxG.trans (EW.out.2.2).symm).symm
  subst hxG
  go_upto_region 3 with fail
  generalize hW : w5.alloc (.cells #[.int .i64 rW, .int .i64 cW, .slice AG xW.length pG] 26) = V6
  have bV6 : Below w4.heap.size w4 V6 := by rw [← hW]; exact Below.alloc bw5 bw5.size _
  have LG : Hid (LocM V6 w5.heap.size rW cW AG xW.length pG) := LocM.of_row (by rw [← hW]; exact heap_top _ _ rfl)
  have FG : Hid (FlatIn V6 AG (flatD xW) w4.heap.size w5.heap.size) := by rw [← hW]; exact hfG.alloc _
  have sw5 := bw5.size
  have sV6 : w5.heap.size < V6.heap.size := by rw [← hW]; go_size
  clear hW hfG bw5
  replace B := B.trans (bV6.mono B.size)
  replace T := Lib.hid (T.out.call bV6)
  replace LW := Lib.hid (LW.out.call bV6)
  replace FW := Lib.hid (FW.out.call bV6)
  clear bV6
  obtain ⟨_, LGc0, LGc1, LGc2⟩ := LG.out
  obtain ⟨_, LWc0, LWc1, LWc2⟩ := LW.out
  go_wp2_with fail
  refine (eqMatrix_same rW cW _ _ _ _ xW _ hmW FG.out.at FW.out.at).mono ?_
  rintro e w7 ⟨rfl, bw7⟩
  have zw7 := bw7.size
  replace B := B.trans (bw7.mono B.size)
  replace T := Lib.hid (T.out.call bw7)
  replace LW := Lib.hid (LW.out.call bw7)
  replace FW := Lib.hid (FW.out.call bw7)
  replace LG := Lib.hid (LG.out.call bw7)
  replace FG := Lib.hid (FG.out.call bw7)
  clear LGc0 LGc1 LGc2
  clear LWc0 LWc1 LWc2
  clear bw7
  obtain ⟨_, LGc0, LGc1, LGc2⟩ := LG.out
  go_wp2_with fail
  refine (markMatrix_any rW cW _ _ xW.length (1) (flatD xW) _ _ _ hnW (by omega) (flatD_len xW) FG.out).mono ?_
  rintro e w8 ⟨rfl, fw8, tw8⟩
  clear LGc0 LGc1 LGc2
  have sw8 := tw8.size
  replace FG := Lib.hid fw8
  replace T := Lib.hid (T.out.touch tw8 (by omega))
  replace LW := Lib.hid (LW.out.touch tw8 (by omega))
  replace FW := Lib.hid (FW.out.touch tw8 (by omega))
  replace LG := Lib.hid (LG.out.touch tw8 (by omega))
  replace B := B.trans (tw8.far (by omega) B.size)
  clear fw8 tw8
  obtain ⟨_, LGc0, LGc1, LGc2⟩ := LG.out
  go_wp2_with fail
  refine (heldMatrix_any rW cW _ _ xW.length (1) _ hnW (by omega) FG.out.at).mono ?_
  rintro e w9 ⟨rfl, bw9⟩
  have zw9 := bw9.size
  replace B := B.trans (bw9.mono B.size)
  replace T := Lib.hid (T.out.call bw9)
  replace LW := Lib.hid (LW.out.call bw9)
  replace FW := Lib.hid (FW.out.call bw9)
  replace LG := Lib.hid (LG.out.call bw9)
  replace FG := Lib.hid (FG.out.call bw9)
  clear LGc0 LGc1 LGc2
  clear bw9
  have t0 := cell_of_row w9 w.heap.size 0 _ _ _ T.out
  have t1 := cell_of_row w9 w.heap.size 1 _ _ _ T.out
  have t2 := cell_of_row w9 w.heap.size 2 _ _ _ T.out
  have tl := T.out.lt
  go_wp2_with fail
  refine (toGate_any a b c _).mono ?_
  rintro e w10 ⟨rfl, bw10⟩
  have zw10 := bw10.size
  replace B := B.trans (bw10.mono B.size)
  replace T := Lib.hid (T.out.call bw10)
  replace LW := Lib.hid (LW.out.call bw10)
  replace FW := Lib.hid (FW.out.call bw10)
  replace LG := Lib.hid (LG.out.call bw10)
  replace FG := Lib.hid (FG.out.call bw10)
  clear bw10 t0 t1 t2 tl
  go_wp2_with fail
  refine (implGm_any n a b c _).mono ?_
  rintro e w11 hm
  obtain ⟨AH, pH, rH, cH, xH, rfl, hrH, hcH, hxH, hfH, bw11⟩ := hm.form
  clear hm
  replace hrH := (hrH.trans (EW.out.1).symm).symm
  subst hrH
  replace hcH := (hcH.trans (EW.out.2.1).symm).symm
  subst hcH
  replace hxH := (hxH.trans (EW.out.2.2).symm).symm
  subst hxH
  go_upto_region 14 with fail
  generalize hW : w11.alloc (.cells #[.int .i64 rW, .int .i64 cW, .slice AH xW.length pH] 26) = V12
  have bV12 : Below w10.heap.size w10 V12 := by rw [← hW]; exact Below.alloc bw11 bw11.size _
  have LH : Hid (LocM V12 w11.heap.size rW cW AH xW.length pH) := LocM.of_row (by rw [← hW]; exact heap_top _ _ rfl)
  have FH : Hid (FlatIn V12 AH (flatD xW) w10.heap.size w11.heap.size) := by rw [← hW]; exact hfH.alloc _
  have sw11 := bw11.size
  have sV12 : w11.heap.size < V12.heap.size := by rw [← hW]; go_size
  clear hW hfH bw11
  replace B := B.trans (bV12.mono B.size)
  replace T := Lib.hid (T.out.call bV12)
  replace LW := Lib.hid (LW.out.call bV12)
  replace FW := Lib.hid (FW.out.call bV12)
  replace LG := Lib.hid (LG.out.call bV12)
  replace FG := Lib.hid (FG.out.call bV12)
  clear bV12
  obtain ⟨_, LHc0, LHc1, LHc2⟩ := LH.out
  obtain ⟨_, LWc0, LWc1, LWc2⟩ := LW.out
  go_wp2_with fail
  refine (eqMatrix_same rW cW _ _ _ _ xW _ hmW FH.out.at FW.out.at).mono ?_
  rintro e w13 ⟨rfl, bw13⟩
  have zw13 := bw13.size
  replace B := B.trans (bw13.mono B.size)
  replace T := Lib.hid (T.out.call bw13)
  replace LW := Lib.hid (LW.out.call bw13)
  replace FW := Lib.hid (FW.out.call bw13)
  replace LG := Lib.hid (LG.out.call bw13)
  replace FG := Lib.hid (FG.out.call bw13)
  replace LH := Lib.hid (LH.out.call bw13)
  replace FH := Lib.hid (FH.out.call bw13)
  clear LHc0 LHc1 LHc2
  clear LWc0 LWc1 LWc2
  clear bw13
  obtain ⟨_, LGc0, LGc1, LGc2⟩ := LG.out
  go_wp2_with fail
  refine (heldMatrix_any rW cW _ _ xW.length (1) _ hnW (by omega) FG.out.at).mono ?_
  rintro e w14 ⟨rfl, bw14⟩
  have zw14 := bw14.size
  replace B := B.trans (bw14.mono B.size)
  replace T := Lib.hid (T.out.call bw14)
  replace LW := Lib.hid (LW.out.call bw14)
  replace FW := Lib.hid (FW.out.call bw14)
  replace LG := Lib.hid (LG.out.call bw14)
  replace FG := Lib.hid (FG.out.call bw14)
  replace LH := Lib.hid (LH.out.call bw14)
  replace FH := Lib.hid (FH.out.call bw14)
  clear LGc0 LGc1 LGc2
  clear bw14
  go_wp2
  go_ret
  exact ⟨rfl, B⟩

set_option maxRecDepth 100000 in
theorem fnExactGateMatrix_lifted (os : Os) (started : os.Started) (H : Type) (enc : TypeId × Value → H) :
    ReturnsInHanded {} Try.checked os 3 .any (Rows.fnExactGateMatrixSpec.pre6 enc Try.prog Try.f3 Rows.fnExactGateMatrixRow.domain false) (Rows.fnExactGateMatrixSpec.post enc Try.prog Try.f3 false true false false) := by
  refine law_lifted (C := Try.checked) (tb := 4) Try.own started (by kernel_rfl) Try.func3
    (ChangeSpec.witness6 (enc := enc) (C := Try.checked) false ⟨#[], #[.int .i64 0, .agg #[.int .i64 0, .int .i64 0, .int .i64 0]], []⟩ 8 (by kernel_rfl) (by kernel_rfl) (by kernel_rfl) (by kernel_rfl))
    Try.laidOut (by kernel_rfl) rfl rfl Try.underlying4 (fun es he => ?_) ?_
  · match es, he with
    | [_, _], _ => rfl
  · intro W base args ds p hval0 hA hwt hsh hblk
    have hval : ∀ (j : Nat) t v, Try.f3.params[j]? = some t → args[j]? = some v → Value.okWide Try.prog W .any base t v := hval0
    have hA' : DataW.TrodAll enc Try.prog W 0 (fun _ => true) true Try.f3.params.toList args.toList ds p := hA
    rw [Try.params3] at hA' hval
    obtain ⟨v0, v1, d0, d1, p0, p1, rfl, rfl, rfl, h0, h1⟩ := trodAll_two hA'
    obtain ⟨n0, rfl, rfl, rfl, wn0⟩ := open_int Try.underlying3 (hval 0 3 v0 rfl rfl) h0
    obtain ⟨a1, b1, c1, rfl⟩ := open_gate (hval 1 23 v1 rfl rfl) h1
    exact fnExactGateMatrix_any n0 a1 b1 c1 W

theorem fnExactGateMatrix_holds : Rows.FnExactGateMatrixSaid :=
  OpenClaim.holds_of_wide 3 Try.f3 rfl rfl rfl rfl rfl rfl rfl ⟨rfl, rfl, rfl, rfl, rfl⟩ rfl rfl rfl rfl rfl (by kernel_rfl) Try.func3 (by kernel_rfl)
    (of_decide_eq_true (by kernel_rfl)) (by unfold Func.isWrapper; first | (rw [if_pos (by decide +kernel)]; kernel_rfl) | (rw [if_neg (by decide +kernel)]; exact ⟨rfl, rfl⟩))
    (fun os started H enc _ => fnExactGateMatrix_lifted os started H enc)

end Go.Proofs.Ytlihnipbdckmkaa
