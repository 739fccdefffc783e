/- FnExactMulPauli is proved: the program's MulPauli returns what the reference's returns, for all arguments. No conditions. -/
import Derived.Test.YtcmkkjdleihjfaaOpen2
import Derived.Test.YtcmkkjdleihjfaaPauE
import Derived.Deep.DeepCutAuto
namespace Go.Proofs.Ytcmkkjdleihjfaa
open Go.RowKit Go.WideShapes Go.ChangeShapes Go.ChangeAt

set_option maxHeartbeats 2000000 in
theorem fnExactMulPauli_any (n a b c a' b' c' : Int) (w : World) :
    Calls Try.prog 5 #[.int .i64 n, pv a b c, pv a' b' c'] w fun e w' => e = .returned (.bool true) ∧ Below w.heap.size w w' := by
  go_enter Try.func5, Try.ntmps5
  go_upto_region 1 with fail
  generalize hW0 : (w.alloc (.cells #[.int .i64 a, .int .i64 b, .int .i64 c] 23)).alloc (.cells #[.int .i64 a', .int .i64 b', .int .i64 c'] 23) = W0
  have B0 : Below w.heap.size w W0 := by rw [← hW0]; clear hW0; go_grown
  have k0 : ∀ o, W0.cell? ⟨w.heap.size, o, none⟩ = _ := fun o => cell_of_row W0 w.heap.size o _ _ _ (by rw [← hW0]; exact (Below.heap_alloc _ _ _ (by simp)).trans (heap_top _ _ rfl))
  have k1 : ∀ o, W0.cell? ⟨w.heap.size + 1, o, none⟩ = _ := fun o => cell_of_row W0 (w.heap.size + 1) o _ _ _ (by rw [← hW0]; exact heap_top _ _ (by simp))
  have y01 : w.heap.size + 1 < W0.heap.size := by rw [← hW0]; clear hW0; go_size
  have y00 : w.heap.size < W0.heap.size := by omega
  clear hW0
  go_cut [7, 8] (fun sA sB wx => ∃ (g : Nat) (ok : Bool) (r0 r1 r2 : Int), pmRes n a b c a' b' c' = .tuple #[pv r0 r1 r2, .bool ok] ∧ sA = .pointer (some ⟨g, 0, none⟩) ∧ sB = .bool ok ∧ W0.heap.size ≤ g ∧ g < wx.heap.size ∧ wx.cell? ⟨g, 0, none⟩ = some (.int .i64 r0) ∧ wx.cell? ⟨g, 1, none⟩ = some (.int .i64 r1) ∧ wx.cell? ⟨g, 2, none⟩ = some (.int .i64 r2) ∧ Below W0.heap.size W0 wx)
  case first =>
    go_region_held3 (fun w' => (∀ b o, b < W0.heap.size → w'.cell? ⟨b, o, none⟩ = W0.cell? ⟨b, o, none⟩) ∧ Below W0.heap.size W0 w') ((refine SB_mk ?_; go_grown)) (first | (go_at_call 13; refine (toPauli_any _ _ _ _).mono ?_; rintro e wA ⟨rfl, bA⟩; obtain ⟨bAc, bAf⟩ := bcell bA; (try with_reducible have yA := lt_size bA); (try with_reducible have yA := lt_sizeD bA); (try with_reducible have yB := Nat.lt_of_lt_of_le (by assumption) bA.size); have sA := (SB_step (W := W0) (by with_reducible assumption) bA).2; have zA := sA.size) | (go_at_call 17; refine (specMulP_any _ _ _ _ _ _ _ _).mono ?_; rintro e wA ⟨rfl, bA⟩; obtain ⟨bAc, bAf⟩ := bcell bA; (try with_reducible have yA := lt_size bA); (try with_reducible have yA := lt_sizeD bA); (try with_reducible have yB := Nat.lt_of_lt_of_le (by assumption) bA.size); have sA := (SB_step (W := W0) (by with_reducible assumption) bA).2; have zA := sA.size; unfold pmRes))
    all_goals
      go_wp2_with fail
      go_meet
      refine ⟨_, _, _, _, _, rfl, rfl, rfl, ?_, ?_, ?_, ?_, ?_, ?_⟩
      · first | omega | (simp; omega)
      · go_size
      · go_simp
      · go_simp
      · go_simp
      · go_grown
  case rest =>
    obtain ⟨w1, rfl⟩ : ∃ w1 : World, w1 = wc := ⟨_, rfl⟩
    obtain ⟨g, ok, r0, r1, r2, he, rfl, rfl, hg1, hg2, c0, c1, c2, hb⟩ := hcut
    have He := Lib.hid he
    clear he
    have B1 : Below w.heap.size w w1 := B0.trans (hb.mono B0.size)
    obtain ⟨hbc, hbf⟩ := bcellB hb
    have z1 := hb.size
    have y10 : w.heap.size < w1.heap.size := by omega
    have y11 : w.heap.size + 1 < w1.heap.size := by omega
    go_upto_region 2 with fail
    go_cut [9, 10] (fun sA sB wx => ∃ (g : Nat) (ok : Bool) (r0 r1 r2 : Int), pmRes n a b c a' b' c' = .tuple #[pv r0 r1 r2, .bool ok] ∧ sA = .pointer (some ⟨g, 0, none⟩) ∧ sB = .bool ok ∧ w1.heap.size ≤ g ∧ g < wx.heap.size ∧ wx.cell? ⟨g, 0, none⟩ = some (.int .i64 r0) ∧ wx.cell? ⟨g, 1, none⟩ = some (.int .i64 r1) ∧ wx.cell? ⟨g, 2, none⟩ = some (.int .i64 r2) ∧ Below w1.heap.size w1 wx)
    case first =>
      go_region_held3 (fun w' => (∀ b o, b < w1.heap.size → w'.cell? ⟨b, o, none⟩ = w1.cell? ⟨b, o, none⟩) ∧ Below w1.heap.size w1 w') ((refine SB_mk ?_; go_grown)) (first | (go_at_call 13; refine (toPauli_any _ _ _ _).mono ?_; rintro e wA ⟨rfl, bA⟩; obtain ⟨bAc, bAf⟩ := bcell bA; (try with_reducible have yA := lt_size bA); (try with_reducible have yA := lt_sizeD bA); (try with_reducible have yB := Nat.lt_of_lt_of_le (by assumption) bA.size); have sA := (SB_step (W := w1) (by with_reducible assumption) bA).2; have zA := sA.size) | (go_at_call 18; refine (implMulP_any _ _ _ _ _ _ _ _).mono ?_; rintro e wA ⟨rfl, bA⟩; obtain ⟨bAc, bAf⟩ := bcell bA; (try with_reducible have yA := lt_size bA); (try with_reducible have yA := lt_sizeD bA); (try with_reducible have yB := Nat.lt_of_lt_of_le (by assumption) bA.size); have sA := (SB_step (W := w1) (by with_reducible assumption) bA).2; have zA := sA.size; unfold pmRes))
      all_goals
        go_wp2_with fail
        go_meet
        refine ⟨_, _, _, _, _, rfl, rfl, rfl, ?_, ?_, ?_, ?_, ?_, ?_⟩
        · first | omega | (simp; omega)
        · go_size
        · go_simp
        · go_simp
        · go_simp
        · go_grown
    case rest =>
      obtain ⟨w2, rfl⟩ : ∃ w2 : World, w2 = wc := ⟨_, rfl⟩
      obtain ⟨g', ok', r0', r1', r2', he', rfl, rfl, hg1', hg2', c0', c1', c2', C2⟩ := hcut
      have hE := He.out.symm.trans he'
      clear he'
      simp only [Value.tuple.injEq, Value.agg.injEq, Value.bool.injEq, Value.int.injEq, Array.mk.injEq, List.cons.injEq, true_and, and_true] at hE
      obtain ⟨⟨rfl, rfl, rfl⟩, rfl⟩ := hE
      obtain ⟨C2c, C2f⟩ := bcellB C2
      have z2 := C2.size
      have B2 : Below w.heap.size w w2 := B1.trans (C2.mono B1.size)
      go_wp2_with fail
      refine (eqPauli_same _ _ _ _).mono ?_
      rintro e w3 ⟨rfl, b3⟩
      have z3 := b3.size
      try simp only [World.size_alloc] at z3
      have C3 := Below.chain C2 (by go_grown) b3 (by go_size)
      have B3 : Below w.heap.size w w3 := Below.chain B2 (by go_grown) b3 (by go_size)
      obtain ⟨b3c, b3f⟩ := bcell b3
      obtain ⟨C3c, C3f⟩ := bcellB C3
      have y30 : w.heap.size < w3.heap.size := by omega
      try (have v31 : w1.heap.size < w3.heap.size := by omega)
      try (have v32 : w2.heap.size < w3.heap.size := by omega)
      go_wp2
      go_ret
      refine ⟨rfl, ?_⟩
      go_grown

set_option maxRecDepth 100000 in
theorem fnExactMulPauli_lifted (os : Os) (started : os.Started) (H : Type) (enc : TypeId × Value → H) :
    ReturnsInHanded {} Try.checked os 5 .any (Rows.fnExactMulPauliSpec.pre6 enc Try.prog Try.f5 Rows.fnExactMulPauliRow.domain false) (Rows.fnExactMulPauliSpec.post enc Try.prog Try.f5 false true false false) := by
  refine law_lifted (C := Try.checked) (tb := 4) Try.own started (by kernel_rfl) Try.func5
    (ChangeSpec.witness6 (enc := enc) (C := Try.checked) false ⟨#[], #[.int .i64 0, .agg #[.int .i64 0, .int .i64 0, .int .i64 0], .agg #[.int .i64 0, .int .i64 0, .int .i64 0]], []⟩ 8 (by kernel_rfl) (by kernel_rfl) (by kernel_rfl) (by kernel_rfl))
    Try.laidOut (by kernel_rfl) rfl rfl Try.underlying4 (fun es he => ?_) ?_
  · match es, he with
    | [_, _, _], _ => rfl
  · intro W base args ds p hval0 hA hwt hsh hblk
    have hval : ∀ (j : Nat) t v, Try.f5.params[j]? = some t → args[j]? = some v → Value.okWide Try.prog W .any base t v := hval0
    have hA' : DataW.TrodAll enc Try.prog W 0 (fun _ => true) true Try.f5.params.toList args.toList ds p := hA
    rw [Try.params5] at hA' hval
    obtain ⟨v0, v1, v2, d0, d1, d2, p0, p1, p2, rfl, rfl, rfl, h0, h1, h2⟩ := trodAll_three hA'
    obtain ⟨n0, rfl, rfl, rfl, wn0⟩ := open_int Try.underlying3 (hval 0 3 v0 rfl rfl) h0
    obtain ⟨a1, b1, c1, rfl⟩ := open_pauli (hval 1 23 v1 rfl rfl) h1
    obtain ⟨a2, b2, c2, rfl⟩ := open_pauli (hval 2 23 v2 rfl rfl) h2
    exact fnExactMulPauli_any n0 a1 b1 c1 a2 b2 c2 W

theorem fnExactMulPauli_holds : Rows.FnExactMulPauliSaid :=
  OpenClaim.holds_of_wide 5 Try.f5 rfl rfl rfl rfl rfl rfl rfl ⟨rfl, rfl, rfl, rfl, rfl⟩ rfl rfl rfl rfl rfl (by kernel_rfl) Try.func5 (by kernel_rfl)
    (of_decide_eq_true (by kernel_rfl)) (by unfold Func.isWrapper; first | (rw [if_pos (by decide +kernel)]; kernel_rfl) | (rw [if_neg (by decide +kernel)]; exact ⟨rfl, rfl⟩))
    (fun os started H enc _ => fnExactMulPauli_lifted os started H enc)

end Go.Proofs.Ytcmkkjdleihjfaa
