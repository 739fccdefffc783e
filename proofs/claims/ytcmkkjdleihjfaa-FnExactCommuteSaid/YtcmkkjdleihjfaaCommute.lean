/- FnExactCommute is proved: the program's Commute returns what the reference's returns, for all arguments. No conditions. -/
import Derived.Test.YtcmkkjdleihjfaaOpen2
import Derived.Test.YtcmkkjdleihjfaaPauD
import Derived.Deep.DeepCutAuto
namespace Go.Proofs.Ytcmkkjdleihjfaa
open Go.RowKit Go.WideShapes Go.ChangeShapes Go.ChangeAt

set_option maxHeartbeats 4000000 in
theorem fnExactCommute_any (n a b c a' b' c' : Int) (w : World) :
    Calls Try.prog 4 #[.int .i64 n, pv a b c, pv a' b' c'] w fun e w' => e = .returned (.bool true) ∧ Below w.heap.size w w' := by
  go_enter Try.func4, Try.ntmps4
  go_upto_region 1 with fail
  generalize hW0 : (w.alloc (.cells #[.int .i64 a, .int .i64 b, .int .i64 c] 23)).alloc (.cells #[.int .i64 a', .int .i64 b', .int .i64 c'] 23) = W0
  have B0 : Below w.heap.size w W0 := by rw [← hW0]; clear hW0; go_grown
  have k0 : ∀ o, W0.cell? ⟨w.heap.size, o, none⟩ = _ := fun o => cell_of_row W0 w.heap.size o _ _ _ (by rw [← hW0]; exact (Below.heap_alloc _ _ _ (by simp)).trans (heap_top _ _ rfl))
  have k1 : ∀ o, W0.cell? ⟨w.heap.size + 1, o, none⟩ = _ := fun o => cell_of_row W0 (w.heap.size + 1) o _ _ _ (by rw [← hW0]; exact heap_top _ _ (by simp))
  have y01 : w.heap.size + 1 < W0.heap.size := by rw [← hW0]; clear hW0; go_size
  have y00 : w.heap.size < W0.heap.size := by omega
  clear hW0
  go_cut [7, 8] (fun sA sB wx => sA = .bool (pmOk n a b c a' b' c' && comB b.toNat c.toNat b'.toNat c'.toNat) ∧ sB = .bool (pmOk n a b c a' b' c') ∧ Below W0.heap.size W0 wx)
  case first =>
    go_region_held3 (fun w' => (∀ b o, b < W0.heap.size → w'.cell? ⟨b, o, none⟩ = W0.cell? ⟨b, o, none⟩) ∧ Below W0.heap.size W0 w') ((refine SB_mk ?_; go_grown)) (first | (go_at_call 13; refine (toPauli_any _ _ _ _).mono ?_; rintro e wA ⟨rfl, bA⟩; obtain ⟨bAc, bAf⟩ := bcell bA; (try with_reducible have yA := lt_size bA); (try with_reducible have yA := lt_sizeD bA); (try with_reducible have yB := Nat.lt_of_lt_of_le (by assumption) bA.size); have sA := (SB_step (W := W0) (by with_reducible assumption) bA).2; have zA := sA.size) | (go_at_call 15; refine (specCommute_any _ _ _ _ _ _ _ _).mono ?_; rintro e wA ⟨rfl, bA⟩; obtain ⟨bAc, bAf⟩ := bcell bA; (try with_reducible have yA := lt_size bA); (try with_reducible have yA := lt_sizeD bA); (try with_reducible have yB := Nat.lt_of_lt_of_le (by assumption) bA.size); have sA := (SB_step (W := W0) (by with_reducible assumption) bA).2; have zA := sA.size; unfold comRes))
    all_goals
      go_wp2_with fail
      go_meet
      exact ⟨rfl, rfl, by go_grown⟩
  case rest =>
    obtain ⟨w1, rfl⟩ : ∃ w1 : World, w1 = wc := ⟨_, rfl⟩
    obtain ⟨rfl, rfl, b1⟩ := hcut
    have B1 := B0.trans (b1.mono B0.size)
    have z1 := b1.size
    have k2 : ∀ o, w1.cell? ⟨w.heap.size, o, none⟩ = _ := fun o => (b1.cell (p := ⟨w.heap.size, o, none⟩) y00).trans (k0 o)
    have k3 : ∀ o, w1.cell? ⟨w.heap.size + 1, o, none⟩ = _ := fun o => (b1.cell (p := ⟨w.heap.size + 1, o, none⟩) y01).trans (k1 o)
    have y10 : w.heap.size < w1.heap.size := by omega
    have y11 : w.heap.size + 1 < w1.heap.size := by omega
    clear k0 k1 b1
    go_upto_region 2 with fail
    go_cut [9, 10] (fun sA sB wx => sA = .bool (pmOk n a b c a' b' c' && comB b.toNat c.toNat b'.toNat c'.toNat) ∧ sB = .bool (pmOk n a b c a' b' c') ∧ Below w1.heap.size w1 wx)
    case first =>
      go_region_held3 (fun w' => (∀ b o, b < w1.heap.size → w'.cell? ⟨b, o, none⟩ = w1.cell? ⟨b, o, none⟩) ∧ Below w1.heap.size w1 w') ((refine SB_mk ?_; go_grown)) (first | (go_at_call 13; refine (toPauli_any _ _ _ _).mono ?_; rintro e wA ⟨rfl, bA⟩; obtain ⟨bAc, bAf⟩ := bcell bA; (try with_reducible have yA := lt_size bA); (try with_reducible have yA := lt_sizeD bA); (try with_reducible have yB := Nat.lt_of_lt_of_le (by assumption) bA.size); have sA := (SB_step (W := w1) (by with_reducible assumption) bA).2; have zA := sA.size) | (go_at_call 16; refine (implCommute_any _ _ _ _ _ _ _ _).mono ?_; rintro e wA ⟨rfl, bA⟩; obtain ⟨bAc, bAf⟩ := bcell bA; (try with_reducible have yA := lt_size bA); (try with_reducible have yA := lt_sizeD bA); (try with_reducible have yB := Nat.lt_of_lt_of_le (by assumption) bA.size); have sA := (SB_step (W := w1) (by with_reducible assumption) bA).2; have zA := sA.size; unfold comRes))
      all_goals
        go_wp2_with fail
        go_meet
        exact ⟨rfl, rfl, by go_grown⟩
    case rest =>
      obtain ⟨w2, rfl⟩ : ∃ w2 : World, w2 = wc := ⟨_, rfl⟩
      obtain ⟨rfl, rfl, b2⟩ := hcut
      have B2 := B1.trans (b2.mono B1.size)
      go_wp2
      go_ret
      exact ⟨rfl, B2⟩

set_option maxRecDepth 100000 in
theorem fnExactCommute_lifted (os : Os) (started : os.Started) (H : Type) (enc : TypeId × Value → H) :
    ReturnsInHanded {} Try.checked os 4 .any (Rows.fnExactCommuteSpec.pre6 enc Try.prog Try.f4 Rows.fnExactCommuteRow.domain false) (Rows.fnExactCommuteSpec.post enc Try.prog Try.f4 false true false false) := by
  refine law_lifted (C := Try.checked) (tb := 4) Try.own started (by kernel_rfl) Try.func4
    (ChangeSpec.witness6 (enc := enc) (C := Try.checked) false ⟨#[], #[.int .i64 0, .agg #[.int .i64 0, .int .i64 0, .int .i64 0], .agg #[.int .i64 0, .int .i64 0, .int .i64 0]], []⟩ 8 (by kernel_rfl) (by kernel_rfl) (by kernel_rfl) (by kernel_rfl))
    Try.laidOut (by kernel_rfl) rfl rfl Try.underlying4 (fun es he => ?_) ?_
  · match es, he with
    | [_, _, _], _ => rfl
  · intro W base args ds p hval0 hA hwt hsh hblk
    have hval : ∀ (j : Nat) t v, Try.f4.params[j]? = some t → args[j]? = some v → Value.okWide Try.prog W .any base t v := hval0
    have hA' : DataW.TrodAll enc Try.prog W 0 (fun _ => true) true Try.f4.params.toList args.toList ds p := hA
    rw [Try.params4] at hA' hval
    obtain ⟨v0, v1, v2, d0, d1, d2, p0, p1, p2, rfl, rfl, rfl, h0, h1, h2⟩ := trodAll_three hA'
    obtain ⟨n0, rfl, rfl, rfl, wn0⟩ := open_int Try.underlying3 (hval 0 3 v0 rfl rfl) h0
    obtain ⟨a1, b1, c1, rfl⟩ := open_pauli (hval 1 23 v1 rfl rfl) h1
    obtain ⟨a2, b2, c2, rfl⟩ := open_pauli (hval 2 23 v2 rfl rfl) h2
    exact fnExactCommute_any n0 a1 b1 c1 a2 b2 c2 W

theorem fnExactCommute_holds : Rows.FnExactCommuteSaid :=
  OpenClaim.holds_of_wide 4 Try.f4 rfl rfl rfl rfl rfl rfl rfl ⟨rfl, rfl, rfl, rfl, rfl⟩ rfl rfl rfl rfl rfl (by kernel_rfl) Try.func4 (by kernel_rfl)
    (of_decide_eq_true (by kernel_rfl)) (by unfold Func.isWrapper; first | (rw [if_pos (by decide +kernel)]; kernel_rfl) | (rw [if_neg (by decide +kernel)]; exact ⟨rfl, rfl⟩))
    (fun os started H enc _ => fnExactCommute_lifted os started H enc)

end Go.Proofs.Ytcmkkjdleihjfaa
