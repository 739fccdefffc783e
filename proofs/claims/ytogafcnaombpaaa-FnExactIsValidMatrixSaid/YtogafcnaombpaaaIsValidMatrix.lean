/- FnExactIsValidMatrix is proved: the program's IsValidMatrix returns what the reference's returns, for all arguments. No conditions. -/
import Derived.Test.YtogafcnaombpaaaFrame
import Derived.Test.YtogafcnaombpaaaOpenM
import Derived.Test.YtogafcnaombpaaaGoodM
import Derived.Test.YtogafcnaombpaaaLoc
namespace Go.Proofs.Ytogafcnaombpaaa
open Go.RowKit Go.WideShapes Go.ChangeShapes Go.ChangeAt

set_option maxHeartbeats 2000000 in
theorem specValidM_any (r c : Int) (A : Option Addr) (cap : Nat) (xs : List D5) (w : World) (hx : Hid (FlatAt w A (flatD xs))) :
    Calls Try.prog 24 #[mv r c A xs.length cap] w fun e w' => e = .returned (.bool (mOk r c xs)) ∧ Below w.heap.size w w' := by
  go_enter Try.func24, Try.ntmps24
  go_wp2_with fail
  refine (l3Good_any r c A cap xs _ (hx.out.alloc _)).mono ?_
  rintro e w1 ⟨rfl, b1⟩
  have B1 : Below w.heap.size w w1 := Below.chain (Below.refl _ _) (by go_grown) b1 (by go_size)
  go_wp2
  go_ret
  refine ⟨rfl, ?_⟩
  go_grown

set_option maxHeartbeats 2000000 in
theorem fnExactIsValidMatrix_any (r0 c0 : Int) (A0 : Option Addr) (p0 : Nat) (x0 : List D5) (w : World) (hl : x0.length ≤ maxLen) (hf : FlatAt w A0 (flatD x0)) :
    Calls Try.prog 5 #[mv r0 c0 A0 x0.length p0] w fun e w' => e = .returned (.bool true) ∧ Below w.heap.size w w' := by
  have Hf0 := Lib.hid hf
  clear hf
  have hm0 : x0.length ≤ 9223372036854775807 := hl
  by_cases hn0 : x0.length ≤ 1048576
  · go_enter Try.func5, Try.ntmps5
    go_wp2_with fail
    refine (szMatrix_any _ _ _ _ _ _ _ (by omega) hm0).mono ?_
    rintro e w1 ⟨rfl, b1⟩
    obtain ⟨b1c, b1f⟩ := bcell b1
    have z1 := b1.size
    try simp only [World.size_alloc] at z1
    have B1 : Below w.heap.size w w1 := Below.chain (Below.refl _ _) (by go_grown) b1 (by go_size)
    have y10 : w.heap.size < w1.heap.size := by omega
    rw [if_neg (by omega)]
    go_wp2_with fail
    refine (toMatrix_any r0 c0 A0 p0 x0 _ hn0 (by refine Hf0.out.below B1)).mono ?_
    rintro e w2 ⟨g2, rfl, f2, b2⟩
    have F2 := Lib.hid f2.at
    clear f2
    have L2 : Hid (LocM w2 w.heap.size r0 c0 A0 x0.length p0) := LocM.call (LocM.below (LocM.of_row (heap_top _ _ rfl)) b1 (by go_size)) b2
    have B2 : Below w.heap.size w w2 := B1.trans (b2.mono B1.size)
    clear b1 b1c b1f
    go_wp2_with fail
    refine (specValidM_any r0 c0 _ _ x0 _ F2.out).mono ?_
    rintro e w3 ⟨rfl, b3⟩
    have L3 := Lib.hid (L2.out.call b3)
    have B3 : Below w.heap.size w w3 := B2.trans (b3.mono B2.size)
    clear L2 F2 b2 b3
    obtain ⟨l0, k0, k1, k2⟩ := L3.out
    go_wp2_with fail
    refine (toMatrix_any r0 c0 A0 p0 x0 _ hn0 (by refine Hf0.out.below B3)).mono ?_
    rintro e w4 ⟨g4, rfl, f4, b4⟩
    have L4 := Lib.hid (L3.out.call b4)
    have F4 := Lib.hid f4
    have B4 : Below w.heap.size w w4 := B3.trans (b4.mono B3.size)
    have z4 := B4.size
    have z4' := b4.size
    clear f4 b4 k0 k1 k2
    go_wp2_with fail
    refine (implValidM_any r0 c0 _ _ x0 _ hn0 (F4.out.alloc _).at).mono ?_
    rintro e w5 ⟨rfl, b5⟩
    have L5 : Hid (LocM w5 w4.heap.size r0 c0 (some ⟨g4, 0, none⟩) x0.length x0.length) := LocM.below (LocM.of_row (heap_top _ _ rfl)) b5 (by go_size)
    have F5 := Lib.hid ((F4.out.alloc _).call b5)
    have P5 := Lib.hid (LocM.below (L4.out.below (Below.alloc (Below.refl _ _) (Nat.le_refl _) _) L4.out.lt) b5 (by go_size))
    have B5 : Below w.heap.size w w5 := Below.chain B4 (by go_grown) b5 (by go_size)
    have z5 := b5.size
    simp only [World.size_alloc] at z5
    obtain ⟨q0, q1, q2, q3⟩ := L5.out
    obtain ⟨l0, k0, k1, k2⟩ := P5.out
    clear b5 F4 L4 L3
    go_upto_region 10 with fail
    go_region_held3 (fun w' => (∀ b o, b < w5.heap.size → w'.cell? ⟨b, o, none⟩ = w5.cell? ⟨b, o, none⟩) ∧ Below w5.heap.size w5 w') ((refine SB_mk ?_; go_grown)) (first | (go_at_call 17; refine (toMatrix_any r0 c0 A0 p0 x0 _ hn0 (flat_sb Hf0.out B5 (by with_reducible assumption))).mono ?_; rintro e wA ⟨gA, rfl, fA', bA⟩; obtain ⟨bAc, bAf⟩ := bcell bA; have fA := Lib.hid fA'; clear fA'; have sA := (SB_step (W := w5) (by with_reducible assumption) bA).2; have zA := sA.size) | (go_at_call 19; refine (eqMatrix_same r0 c0 _ _ _ _ x0 _ hm0 (flatin_sb F5.out (by with_reducible assumption)) fA.out.at).mono ?_; rintro e wB ⟨rfl, bB⟩; obtain ⟨bBc, bBf⟩ := bcell bB; have sB := (SB_step (W := w5) (by with_reducible assumption) bB).2; have zB := sB.size))
    all_goals
      go_wp2
      go_ret
      refine ⟨rfl, ?_⟩
      exact B5.trans (sB.mono B5.size)
  · go_enter Try.func5, Try.ntmps5
    go_wp2_with fail
    refine (szMatrix_any _ _ _ _ _ _ _ (by omega) hm0).mono ?_
    rintro e w1 ⟨rfl, b1⟩
    obtain ⟨b1c, b1f⟩ := bcell b1
    have z1 := b1.size
    try simp only [World.size_alloc] at z1
    have B1 : Below w.heap.size w w1 := Below.chain (Below.refl _ _) (by go_grown) b1 (by go_size)
    have y10 : w.heap.size < w1.heap.size := by omega
    rw [if_pos (by omega)]
    go_wp2
    go_ret
    refine ⟨rfl, ?_⟩
    go_grown

set_option maxRecDepth 100000 in
theorem fnExactIsValidMatrix_lifted (os : Os) (started : os.Started) (H : Type) (enc : TypeId × Value → H) :
    ReturnsInHanded {} Try.checked os 5 .any (Rows.fnExactIsValidMatrixSpec.pre6 enc Try.prog Try.f5 Rows.fnExactIsValidMatrixRow.domain false) (Rows.fnExactIsValidMatrixSpec.post enc Try.prog Try.f5 false true false false) := by
  refine law_lifted (C := Try.checked) (tb := 4) Try.own started (by kernel_rfl) Try.func5
    (ChangeSpec.witness6 (enc := enc) (C := Try.checked) false ⟨#[], #[.agg #[.int .i64 0, .int .i64 0, .slice none 0 0]], []⟩ 8 (by kernel_rfl) (by kernel_rfl) (by kernel_rfl) (by kernel_rfl))
    Try.laidOut (by kernel_rfl) rfl rfl Try.underlying4 (fun es he => ?_) ?_
  · match es, he with
    | [_], _ => rfl
  · intro W base args ds p hval0 hA hwt hsh hblk
    have hval : ∀ (j : Nat) t v, Try.f5.params[j]? = some t → args[j]? = some v → Value.okWide Try.prog W .any base t v := hval0
    have hA' : DataW.TrodAll enc Try.prog W 0 (fun _ => true) true Try.f5.params.toList args.toList ds p := hA
    rw [Try.params5] at hA' hval
    obtain ⟨v0, d0, rfl, rfl, h0⟩ := trodAll_one hA'
    obtain ⟨r0, c0, A0, p0, x0, rfl, hl0, hf0⟩ := open_matrix (hval 0 24 v0 rfl rfl) h0
    exact fnExactIsValidMatrix_any r0 c0 A0 p0 x0 W hl0 hf0

theorem fnExactIsValidMatrix_holds : Rows.FnExactIsValidMatrixSaid :=
  OpenClaim.holds_of_wide 5 Try.f5 rfl rfl rfl rfl rfl rfl rfl ⟨rfl, rfl, rfl, rfl, rfl⟩ rfl rfl rfl rfl rfl (by kernel_rfl) Try.func5 (by kernel_rfl)
    (of_decide_eq_true (by kernel_rfl)) (by unfold Func.isWrapper; first | (rw [if_pos (by decide +kernel)]; kernel_rfl) | (rw [if_neg (by decide +kernel)]; exact ⟨rfl, rfl⟩))
    (fun os started H enc _ => fnExactIsValidMatrix_lifted os started H enc)

end Go.Proofs.Ytogafcnaombpaaa
