/- FnExactEqualUpToPhase is proved: the program's EqualUpToPhase returns what the reference's returns, for all arguments. No conditions. -/
import Derived.Test.YtcmkkjdleihjfaaFrame
import Derived.Test.YtcmkkjdleihjfaaOpenM
import Derived.Test.YtcmkkjdleihjfaaEupW
import Derived.Test.YtcmkkjdleihjfaaRes
import Derived.Deep.DeepCutAuto
namespace Go.Proofs.Ytcmkkjdleihjfaa
open Go.RowKit Go.WideShapes Go.ChangeShapes Go.ChangeAt

set_option maxRecDepth 100000 in
set_option maxHeartbeats 8000000 in
theorem fnExactEqualUpToPhase_any (r0 c0 : Int) (A0 : Option Addr) (p0 : Nat) (x0 : List D5) (r1 c1 : Int) (A1 : Option Addr) (p1 : Nat) (x1 : List D5) (w : World) (hl0 : x0.length ≤ maxLen) (hf0 : FlatAt w A0 (flatD x0)) (hl1 : x1.length ≤ maxLen) (hf1 : FlatAt w A1 (flatD x1)) :
    Calls Try.prog 9 #[mv r0 c0 A0 x0.length p0, mv r1 c1 A1 x1.length p1] w fun e w' => e = .returned (.bool true) ∧ Below w.heap.size w w' := by
  have Hf0 := Lib.hid hf0
  clear hf0
  have hm0 : x0.length ≤ 9223372036854775807 := hl0
  have Hf1 := Lib.hid hf1
  clear hf1
  have hm1 : x1.length ≤ 9223372036854775807 := hl1
  by_cases hn0 : x0.length ≤ 1048576
  · skip
    by_cases hc1 : x1.length ≤ 1048576 - x0.length
    · have hn1 : x1.length ≤ 1048576 := by omega
      go_enter Try.func9, Try.ntmps9
      go_upto_region 1 with fail
      generalize hW0 : (w.alloc (.cells #[.int .i64 r0, .int .i64 c0, .slice A0 x0.length p0] 61)).alloc (.cells #[.int .i64 r1, .int .i64 c1, .slice A1 x1.length p1] 61) = W0
      have B : Below w.heap.size w W0 := by rw [← hW0]; go_grown
      have P0 : Hid (LocM W0 w.heap.size r0 c0 A0 x0.length p0) := LocM.of_row (by rw [← hW0]; exact (Below.heap_alloc _ _ _ (by go_size)).trans (heap_top _ _ rfl))
      have P1 : Hid (LocM W0 (w.heap.size + 1) r1 c1 A1 x1.length p1) := LocM.of_row (by rw [← hW0]; exact heap_top _ _ (by simp))
      clear hW0
      have sW0 : w.heap.size + 2 ≤ W0.heap.size := by have := P1.out.lt; omega
      obtain ⟨_, P0c0, P0c1, P0c2⟩ := P0.out
      go_wp2_with fail
      refine (szMatrix_any _ _ _ _ _ _ _ (by omega) hm0).mono ?_
      rintro e w1 ⟨rfl, bw1⟩
      rw [if_neg (by omega)]
      have zw1 := bw1.size
      replace B := B.trans (bw1.mono B.size)
      replace P0 := Lib.hid (P0.out.call bw1)
      replace P1 := Lib.hid (P1.out.call bw1)
      clear P0c0 P0c1 P0c2
      clear bw1
      obtain ⟨_, P1c0, P1c1, P1c2⟩ := P1.out
      go_wp2_with fail
      refine (szMatrix_any _ _ _ _ _ _ _ (by omega) hm1).mono ?_
      rintro e w2 ⟨rfl, bw2⟩
      rw [if_neg (by omega)]
      have zw2 := bw2.size
      replace B := B.trans (bw2.mono B.size)
      replace P0 := Lib.hid (P0.out.call bw2)
      replace P1 := Lib.hid (P1.out.call bw2)
      clear P1c0 P1c1 P1c2
      clear bw2
      have hn1' := hn1
      go_upto_region 8 with fail
      obtain ⟨_, P0c0, P0c1, P0c2⟩ := P0.out
      obtain ⟨_, P1c0, P1c1, P1c2⟩ := P1.out
      go_cut [6, 7, 8] (fun sA sB sC wx => sA = .int .i64 (rI (mOk r0 c0 x0 && mOk r1 c1 x1) (seekGo (upB r0 c0 x0 r1 c1 x1) 8 0).1) ∧ sB = .bool ((mOk r0 c0 x0 && mOk r1 c1 x1) && (seekGo (upB r0 c0 x0 r1 c1 x1) 8 0).2) ∧ sC = .bool (mOk r0 c0 x0 && mOk r1 c1 x1) ∧ Below w2.heap.size w2 wx)
      case first =>
        go_region_held3 (fun w' => (∀ b o, b < w2.heap.size → w'.cell? ⟨b, o, none⟩ = w2.cell? ⟨b, o, none⟩) ∧ Below w2.heap.size w2 w') ((refine SB_mk ?_; go_grown)) (first | (go_at_call 45; refine (toMatrix_any _ _ _ _ _ _ ?_ ?_).mono ?_; exact hn0; exact flat_sb Hf0.out B (by with_reducible assumption); rintro e wA ⟨gA, rfl, fA', bA⟩; have fA := Lib.hid fA'; clear fA'; obtain ⟨bAc, bAf⟩ := bcell bA; have sA := (SB_step (W := w2) (by with_reducible assumption) bA).2; have zA := sA.size; (try with_reducible have yA := lt_size bA); (try with_reducible have yA := lt_sizeD bA); (try with_reducible have vA := Nat.lt_of_lt_of_le (by assumption) bA.size)) | (go_at_call 45; refine (toMatrix_any _ _ _ _ _ _ ?_ ?_).mono ?_; exact hn1; exact flat_sb Hf1.out B (by with_reducible assumption); rintro e wC ⟨gC, rfl, fC', bC⟩; have fC := Lib.hid fC'; clear fC'; obtain ⟨bCc, bCf⟩ := bcell bC; have sC := (SB_step (W := w2) (by with_reducible assumption) bC).2; have zC := sC.size; (try with_reducible have yC := lt_size bC); (try with_reducible have yC := lt_sizeD bC); (try with_reducible have vC := Nat.lt_of_lt_of_le (by assumption) bC.size)) | (go_at_call 44; refine (specEup_any r0 c0 _ _ x0 r1 c1 _ _ x1 _ (by show FlatAt _ _ _; repeat (first | (with_reducible exact fA.out.at) | (with_reducible refine FlatAt.alloc ?_ _) | (with_reducible refine FlatAt.drew ?_) | (with_reducible refine FlatAt.below ?_ bC))) (by show FlatAt _ _ _; repeat (first | (with_reducible exact fC.out.at) | (with_reducible refine FlatAt.alloc ?_ _) | (with_reducible refine FlatAt.drew ?_) | (with_reducible refine FlatAt.below ?_ bA)))).mono ?_; rintro e wB ⟨rfl, bB⟩; unfold eupRes; obtain ⟨bBc, bBf⟩ := bcell bB; have sB := (SB_step (W := w2) (by with_reducible assumption) bB).2; have zB := sB.size; (try with_reducible have yB := lt_size bB); (try with_reducible have yB := lt_sizeD bB); (try with_reducible have vB := Nat.lt_of_lt_of_le (by assumption) bB.size)))
        all_goals
          go_wp2_with fail
          go_meet
          exact ⟨rfl, rfl, rfl, by go_grown⟩
      case rest =>
        obtain ⟨w3, rfl⟩ : ∃ w3 : World, w3 = wc := ⟨_, rfl⟩
        obtain ⟨rfl, rfl, rfl, bw3⟩ := hcut
        have zw3 := bw3.size
        replace B := B.trans (bw3.mono B.size)
        replace P0 := Lib.hid (P0.out.call bw3)
        replace P1 := Lib.hid (P1.out.call bw3)
        clear bw3
        clear P0c0 P0c1 P0c2
        clear P1c0 P1c1 P1c2
        obtain ⟨_, P0c0, P0c1, P0c2⟩ := P0.out
        go_wp2_with fail
        refine (toMatrix_any r0 c0 A0 p0 x0 _ hn0 (by refine Hf0.out.below B)).mono ?_
        rintro e w4 ⟨g0, rfl, fw4, bw4⟩
        go_upto_region 10 with fail
        generalize hW : w4.alloc (.cells #[.int .i64 r0, .int .i64 c0, .slice (some ⟨g0, 0, none⟩) x0.length x0.length] 67) = V5
        have bV5 : Below w3.heap.size w3 V5 := by rw [← hW]; exact Below.alloc bw4 bw4.size _
        have X0 : Hid (LocM V5 w4.heap.size r0 c0 (some ⟨g0, 0, none⟩) x0.length x0.length) := LocM.of_row (by rw [← hW]; exact heap_top _ _ rfl)
        have F0 : Hid (FlatIn V5 (some ⟨g0, 0, none⟩) (flatD x0) w3.heap.size w4.heap.size) := by rw [← hW]; exact fw4.alloc _
        have sw4 := bw4.size
        have sV5 : w4.heap.size < V5.heap.size := by rw [← hW]; go_size
        clear P0c0 P0c1 P0c2
        clear hW fw4 bw4
        replace B := B.trans (bV5.mono B.size)
        replace P0 := Lib.hid (P0.out.call bV5)
        replace P1 := Lib.hid (P1.out.call bV5)
        clear bV5
        obtain ⟨_, P1c0, P1c1, P1c2⟩ := P1.out
        go_wp2_with fail
        refine (toMatrix_any r1 c1 A1 p1 x1 _ hn1 (by refine Hf1.out.below B)).mono ?_
        rintro e w6 ⟨g1, rfl, fw6, bw6⟩
        go_upto_region 11 with fail
        generalize hW : w6.alloc (.cells #[.int .i64 r1, .int .i64 c1, .slice (some ⟨g1, 0, none⟩) x1.length x1.length] 67) = V7
        have bV7 : Below V5.heap.size V5 V7 := by rw [← hW]; exact Below.alloc bw6 bw6.size _
        have X1 : Hid (LocM V7 w6.heap.size r1 c1 (some ⟨g1, 0, none⟩) x1.length x1.length) := LocM.of_row (by rw [← hW]; exact heap_top _ _ rfl)
        have F1 : Hid (FlatIn V7 (some ⟨g1, 0, none⟩) (flatD x1) V5.heap.size w6.heap.size) := by rw [← hW]; exact fw6.alloc _
        have sw6 := bw6.size
        have sV7 : w6.heap.size < V7.heap.size := by rw [← hW]; go_size
        clear P1c0 P1c1 P1c2
        clear hW fw6 bw6
        replace B := B.trans (bV7.mono B.size)
        replace P0 := Lib.hid (P0.out.call bV7)
        replace P1 := Lib.hid (P1.out.call bV7)
        replace X0 := Lib.hid (X0.out.call bV7)
        replace F0 := Lib.hid (F0.out.call bV7)
        clear bV7
        obtain ⟨_, X0c0, X0c1, X0c2⟩ := X0.out
        obtain ⟨_, X1c0, X1c1, X1c2⟩ := X1.out
        go_wp2_with fail
        refine (implEup_any r0 c0 _ _ x0 r1 c1 _ _ x1 _ hn0 hn1 F0.out.at F1.out.at).mono ?_
        rintro e w8 ⟨rfl, bw8⟩
        unfold eupRes
        have zw8 := bw8.size
        replace B := B.trans (bw8.mono B.size)
        replace P0 := Lib.hid (P0.out.call bw8)
        replace P1 := Lib.hid (P1.out.call bw8)
        replace X0 := Lib.hid (X0.out.call bw8)
        replace F0 := Lib.hid (F0.out.call bw8)
        replace X1 := Lib.hid (X1.out.call bw8)
        replace F1 := Lib.hid (F1.out.call bw8)
        clear X0c0 X0c1 X0c2
        clear X1c0 X1c1 X1c2
        clear bw8
        go_upto_region 14 with fail
        obtain ⟨_, P0c0, P0c1, P0c2⟩ := P0.out
        obtain ⟨_, X0c0, X0c1, X0c2⟩ := X0.out
        go_cut [61] (fun sA wx => sA = .bool false ∧ Below w8.heap.size w8 wx)
        case first =>
          go_region_held3 (fun w' => (∀ b o, b < w8.heap.size → w'.cell? ⟨b, o, none⟩ = w8.cell? ⟨b, o, none⟩) ∧ Below w8.heap.size w8 w') ((refine SB_mk ?_; go_grown)) (first | (go_at_call 45; refine (toMatrix_any _ _ _ _ _ _ ?_ ?_).mono ?_; exact hn0; exact flat_sb Hf0.out B (by with_reducible assumption); rintro e wA ⟨gA, rfl, fA', bA⟩; have fA := Lib.hid fA'; clear fA'; obtain ⟨bAc, bAf⟩ := bcell bA; have sA := (SB_step (W := w8) (by with_reducible assumption) bA).2; have zA := sA.size) | (go_at_call 47; refine (eqMatrix_same r0 c0 _ _ _ _ x0 _ hm0 (flatin_sb F0.out (by with_reducible assumption)) fA.out.at).mono ?_; rintro e wB ⟨rfl, bB⟩; obtain ⟨bBc, bBf⟩ := bcell bB; have sB := (SB_step (W := w8) (by with_reducible assumption) bB).2; have zB := sB.size))
          all_goals
            go_wp2_with fail
            go_meet
            exact ⟨rfl, by go_grown⟩
        case rest =>
          obtain ⟨w9, rfl⟩ : ∃ w9 : World, w9 = wc := ⟨_, rfl⟩
          obtain ⟨rfl, bw9⟩ := hcut
          have zw9 := bw9.size
          replace B := B.trans (bw9.mono B.size)
          replace P0 := Lib.hid (P0.out.call bw9)
          replace P1 := Lib.hid (P1.out.call bw9)
          replace X0 := Lib.hid (X0.out.call bw9)
          replace F0 := Lib.hid (F0.out.call bw9)
          replace X1 := Lib.hid (X1.out.call bw9)
          replace F1 := Lib.hid (F1.out.call bw9)
          clear bw9
          clear P0c0 P0c1 P0c2
          clear X0c0 X0c1 X0c2
          go_upto_region 16 with fail
          obtain ⟨_, P1c0, P1c1, P1c2⟩ := P1.out
          obtain ⟨_, X1c0, X1c1, X1c2⟩ := X1.out
          go_cut [66] (fun sA wx => sA = .bool false ∧ Below w9.heap.size w9 wx)
          case first =>
            go_region_held3 (fun w' => (∀ b o, b < w9.heap.size → w'.cell? ⟨b, o, none⟩ = w9.cell? ⟨b, o, none⟩) ∧ Below w9.heap.size w9 w') ((refine SB_mk ?_; go_grown)) (first | (go_at_call 45; refine (toMatrix_any _ _ _ _ _ _ ?_ ?_).mono ?_; exact hn1; exact flat_sb Hf1.out B (by with_reducible assumption); rintro e wA ⟨gA, rfl, fA', bA⟩; have fA := Lib.hid fA'; clear fA'; obtain ⟨bAc, bAf⟩ := bcell bA; have sA := (SB_step (W := w9) (by with_reducible assumption) bA).2; have zA := sA.size) | (go_at_call 47; refine (eqMatrix_same r1 c1 _ _ _ _ x1 _ hm1 (flatin_sb F1.out (by with_reducible assumption)) fA.out.at).mono ?_; rintro e wB ⟨rfl, bB⟩; obtain ⟨bBc, bBf⟩ := bcell bB; have sB := (SB_step (W := w9) (by with_reducible assumption) bB).2; have zB := sB.size))
            all_goals
              go_wp2_with fail
              go_meet
              exact ⟨rfl, by go_grown⟩
          case rest =>
            obtain ⟨w10, rfl⟩ : ∃ w10 : World, w10 = wc := ⟨_, rfl⟩
            obtain ⟨rfl, bw10⟩ := hcut
            have zw10 := bw10.size
            replace B := B.trans (bw10.mono B.size)
            replace P0 := Lib.hid (P0.out.call bw10)
            replace P1 := Lib.hid (P1.out.call bw10)
            replace X0 := Lib.hid (X0.out.call bw10)
            replace F0 := Lib.hid (F0.out.call bw10)
            replace X1 := Lib.hid (X1.out.call bw10)
            replace F1 := Lib.hid (F1.out.call bw10)
            clear bw10
            clear P1c0 P1c1 P1c2
            clear X1c0 X1c1 X1c2
            go_wp2
            go_ret
            exact ⟨rfl, B⟩
    · go_enter Try.func9, Try.ntmps9
      go_upto_region 1 with fail
      generalize hW0 : (w.alloc (.cells #[.int .i64 r0, .int .i64 c0, .slice A0 x0.length p0] 61)).alloc (.cells #[.int .i64 r1, .int .i64 c1, .slice A1 x1.length p1] 61) = W0
      have B : Below w.heap.size w W0 := by rw [← hW0]; go_grown
      have P0 : Hid (LocM W0 w.heap.size r0 c0 A0 x0.length p0) := LocM.of_row (by rw [← hW0]; exact (Below.heap_alloc _ _ _ (by go_size)).trans (heap_top _ _ rfl))
      have P1 : Hid (LocM W0 (w.heap.size + 1) r1 c1 A1 x1.length p1) := LocM.of_row (by rw [← hW0]; exact heap_top _ _ (by simp))
      clear hW0
      have sW0 : w.heap.size + 2 ≤ W0.heap.size := by have := P1.out.lt; omega
      obtain ⟨_, P0c0, P0c1, P0c2⟩ := P0.out
      go_wp2_with fail
      refine (szMatrix_any _ _ _ _ _ _ _ (by omega) hm0).mono ?_
      rintro e w1 ⟨rfl, bw1⟩
      rw [if_neg (by omega)]
      have zw1 := bw1.size
      replace B := B.trans (bw1.mono B.size)
      replace P0 := Lib.hid (P0.out.call bw1)
      replace P1 := Lib.hid (P1.out.call bw1)
      clear P0c0 P0c1 P0c2
      clear bw1
      obtain ⟨_, P1c0, P1c1, P1c2⟩ := P1.out
      go_wp2_with fail
      refine (szMatrix_any _ _ _ _ _ _ _ (by omega) hm1).mono ?_
      rintro e w2 ⟨rfl, bw2⟩
      rw [if_pos (by omega)]
      have zw2 := bw2.size
      replace B := B.trans (bw2.mono B.size)
      replace P0 := Lib.hid (P0.out.call bw2)
      replace P1 := Lib.hid (P1.out.call bw2)
      clear P1c0 P1c1 P1c2
      clear bw2
      go_wp2
      go_ret
      exact ⟨rfl, B⟩
  · go_enter Try.func9, Try.ntmps9
    go_upto_region 1 with fail
    generalize hW0 : (w.alloc (.cells #[.int .i64 r0, .int .i64 c0, .slice A0 x0.length p0] 61)).alloc (.cells #[.int .i64 r1, .int .i64 c1, .slice A1 x1.length p1] 61) = W0
    have B : Below w.heap.size w W0 := by rw [← hW0]; go_grown
    have P0 : Hid (LocM W0 w.heap.size r0 c0 A0 x0.length p0) := LocM.of_row (by rw [← hW0]; exact (Below.heap_alloc _ _ _ (by go_size)).trans (heap_top _ _ rfl))
    have P1 : Hid (LocM W0 (w.heap.size + 1) r1 c1 A1 x1.length p1) := LocM.of_row (by rw [← hW0]; exact heap_top _ _ (by simp))
    clear hW0
    have sW0 : w.heap.size + 2 ≤ W0.heap.size := by have := P1.out.lt; omega
    obtain ⟨_, P0c0, P0c1, P0c2⟩ := P0.out
    go_wp2_with fail
    refine (szMatrix_any _ _ _ _ _ _ _ (by omega) hm0).mono ?_
    rintro e w1 ⟨rfl, bw1⟩
    rw [if_pos (by omega)]
    have zw1 := bw1.size
    replace B := B.trans (bw1.mono B.size)
    replace P0 := Lib.hid (P0.out.call bw1)
    replace P1 := Lib.hid (P1.out.call bw1)
    clear P0c0 P0c1 P0c2
    clear bw1
    go_wp2
    go_ret
    exact ⟨rfl, B⟩

set_option maxRecDepth 100000 in
theorem fnExactEqualUpToPhase_lifted (os : Os) (started : os.Started) (H : Type) (enc : TypeId × Value → H) :
    ReturnsInHanded {} Try.checked os 9 .any (Rows.fnExactEqualUpToPhaseSpec.pre6 enc Try.prog Try.f9 Rows.fnExactEqualUpToPhaseRow.domain false) (Rows.fnExactEqualUpToPhaseSpec.post enc Try.prog Try.f9 false true false false) := by
  refine law_lifted (C := Try.checked) (tb := 4) Try.own started (by kernel_rfl) Try.func9
    (ChangeSpec.witness6 (enc := enc) (C := Try.checked) false ⟨#[], #[.agg #[.int .i64 0, .int .i64 0, .slice none 0 0], .agg #[.int .i64 0, .int .i64 0, .slice none 0 0]], []⟩ 8 (by kernel_rfl) (by kernel_rfl) (by kernel_rfl) (by kernel_rfl))
    Try.laidOut (by kernel_rfl) rfl rfl Try.underlying4 (fun es he => ?_) ?_
  · match es, he with
    | [_, _], _ => rfl
  · intro W base args ds p hval0 hA hwt hsh hblk
    have hval : ∀ (j : Nat) t v, Try.f9.params[j]? = some t → args[j]? = some v → Value.okWide Try.prog W .any base t v := hval0
    have hA' : DataW.TrodAll enc Try.prog W 0 (fun _ => true) true Try.f9.params.toList args.toList ds p := hA
    rw [Try.params9] at hA' hval
    obtain ⟨v0, v1, d0, d1, p0, p1, rfl, rfl, rfl, h0, h1⟩ := trodAll_two hA'
    obtain ⟨r0, c0, A0, p0, x0, rfl, hl0, hf0⟩ := open_matrix (hval 0 61 v0 rfl rfl) h0
    obtain ⟨r1, c1, A1, p1, x1, rfl, hl1, hf1⟩ := open_matrix (hval 1 61 v1 rfl rfl) h1
    exact fnExactEqualUpToPhase_any r0 c0 A0 p0 x0 r1 c1 A1 p1 x1 W hl0 hf0 hl1 hf1

theorem fnExactEqualUpToPhase_holds : Rows.FnExactEqualUpToPhaseSaid :=
  OpenClaim.holds_of_wide 9 Try.f9 rfl rfl rfl rfl rfl rfl rfl ⟨rfl, rfl, rfl, rfl, rfl⟩ rfl rfl rfl rfl rfl (by kernel_rfl) Try.func9 (by kernel_rfl)
    (of_decide_eq_true (by kernel_rfl)) (by unfold Func.isWrapper; first | (rw [if_pos (by decide +kernel)]; kernel_rfl) | (rw [if_neg (by decide +kernel)]; exact ⟨rfl, rfl⟩))
    (fun os started H enc _ => fnExactEqualUpToPhase_lifted os started H enc)

end Go.Proofs.Ytcmkkjdleihjfaa
