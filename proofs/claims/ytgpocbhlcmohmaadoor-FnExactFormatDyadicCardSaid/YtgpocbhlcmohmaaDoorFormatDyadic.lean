/- FnExactFormatDyadic is proved: the program's FormatDyadic returns what the reference's returns, for all arguments. No conditions. -/
import Derived.Test.YtgpocbhlcmohmaaDoorOpenS
import Derived.Test.YtgpocbhlcmohmaaDoorFmtD
import Derived.Test.YtgpocbhlcmohmaaDoorFrameL
import Derived.Test.YtgpocbhlcmohmaaDoorTie
import Derived.Test.YtgpocbhlcmohmaaDoorCards
import Derived.Stop.LaidErr
namespace Go.Proofs.YtgpocbhlcmohmaaDoor
open Go.RowKit Go.WideShapes Go.ChangeShapes Go.ChangeAt

set_option maxHeartbeats 1000000 in
theorem fnExactFormatDyadic_any (a b c d x : Int) (w : World) (ht : Hid (TabP w)) :
    Calls Tryd.prog 7 #[dv a b c d x] w fun r w' => r = .returned (.bool true) ∧ Below w.heap.size w w' := by
  obtain ⟨s, t, hf⟩ : ∃ s t, fdRes a b c d x = .tuple #[.string s, .bool t] := ⟨_, _, rfl⟩
  have Hf := Lib.hid hf
  clear hf
  go_enter Tryd.func7, Tryd.ntmps7
  go_wp2_with fail
  refine (toDyadic_any _ _ _ _ _ _).mono ?_
  rintro e w1 ⟨rfl, b1⟩
  obtain ⟨b1c, b1f⟩ := bcell b1
  have z1 := b1.size
  try simp only [World.size_alloc] at z1
  have B1 : Below w.heap.size w w1 := Below.chain (Below.refl _ _) (by go_grown) b1 (by go_size)
  have y10 : w.heap.size < w1.heap.size := by omega
  go_wp2_with fail
  refine (specFmtD_any _ _ _ _ _ _).mono ?_
  rintro e w2 ⟨rfl, b2⟩
  have z2 := b2.size
  try simp only [World.size_alloc] at z2
  have C2 := Below.chain b1 (by go_grown) b2 (by go_size)
  have B2 : Below w.heap.size w w2 := Below.chain B1 (by go_grown) b2 (by go_size)
  obtain ⟨b2c, b2f⟩ := bcell b2
  obtain ⟨C2c, C2f⟩ := bcellB C2
  have y20 : w.heap.size < w2.heap.size := by omega
  try (have v21 : w1.heap.size < w2.heap.size := by omega)
  rw [Hf.out]
  go_wp2_with fail
  refine (toDyadic_any _ _ _ _ _ _).mono ?_
  rintro e w3 ⟨rfl, b3⟩
  have z3 := b3.size
  try simp only [World.size_alloc] at z3
  have C3 := Below.chain C2 (by go_grown) b3 (by go_size)
  have B3 : Below w.heap.size w w3 := Below.chain B2 (by go_grown) b3 (by go_size)
  obtain ⟨b3c, b3f⟩ := bcell b3
  obtain ⟨C3c, C3f⟩ := bcellB C3
  have y30 : w.heap.size < w3.heap.size := by omega
  try (have v31 : w1.heap.size < w3.heap.size := by omega)
  try (have v32 : w2.heap.size < w3.heap.size := by omega)
  go_wp2_with fail
  refine (implFmtD_any _ _ _ _ _ _ (by refine ht.out.below B3)).mono ?_
  rintro e w4 ⟨rfl, b4⟩
  have z4 := b4.size
  try simp only [World.size_alloc] at z4
  have C4 := Below.chain C3 (by go_grown) b4 (by go_size)
  have B4 : Below w.heap.size w w4 := Below.chain B3 (by go_grown) b4 (by go_size)
  obtain ⟨b4c, b4f⟩ := bcell b4
  obtain ⟨C4c, C4f⟩ := bcellB C4
  have y40 : w.heap.size < w4.heap.size := by omega
  try (have v41 : w1.heap.size < w4.heap.size := by omega)
  try (have v42 : w2.heap.size < w4.heap.size := by omega)
  try (have v43 : w3.heap.size < w4.heap.size := by omega)
  rw [Hf.out]
  go_wp2
  go_ret
  refine ⟨by first | rfl | simp, ?_⟩
  go_grown


theorem fnExactFormatDyadic_door (os : Os) (args : Array Value) : laidMetH Tryd.prog Rows.fnExactFormatDyadicRow.laid ((World.doorLaid Tryd.prog 77 os).forCall (fun _ _ => 0) ⟨#[], args, []⟩).memory :=
  laidMetH_of_parts3 (fuel := 8) (laidMet_of_run' 8 (by kernel_rfl) (by kernel_rfl)) (by kernel_rfl) (by kernel_rfl)

set_option maxRecDepth 100000 in
theorem fnExactFormatDyadic_lifted (os : Os) (started : os.Started) (H : Type) (enc : TypeId × Value → H) :
    ReturnsInHanded {} Tryd.checked os 7 .any (fun w args => (Rows.fnExactFormatDyadicSpec.pre enc Tryd.prog Tryd.f7 Rows.fnExactFormatDyadicRow.domain false w args ∧ laidMetH Tryd.prog Rows.fnExactFormatDyadicRow.laid w) ∧ sizedMet enc Tryd.prog Tryd.f7 (OpenSpec.ofChange Rows.fnExactFormatDyadicSpec) false w args) (Rows.fnExactFormatDyadicSpec.post enc Tryd.prog Tryd.f7 false true false false) := by
  refine law_laid (C := Tryd.checked) (tb := 4) (L := Rows.fnExactFormatDyadicRow.laid) Tryd.own started (by kernel_rfl) Tryd.func7
    (ChangeSpec.witness_shaped (enc := enc) (C := Tryd.checked) (os := os) (X := fun w _ => laidMetH Tryd.prog Rows.fnExactFormatDyadicRow.laid w) false (World.doorLaid Tryd.prog 77 os) #[.agg #[.int .i64 0, .int .i64 0, .int .i64 0, .int .i64 0, .int .i64 0]] 8 rfl (World.shaped_of_RefB (by kernel_rfl) (by kernel_rfl)) (by kernel_rfl) (by kernel_rfl) (by kernel_rfl) (fnExactFormatDyadic_door os _))
    Tryd.laidOut (by kernel_rfl) (by kernel_rfl) rfl Tryd.underlying4 (fun es gs he hg => ?_) ?_
  · match es, gs, he, hg with
    | [_], [], _, _ => rfl
  · intro W base args ds gs p hval0 hA hwt hsh hL hblk
    have hval : ∀ (j : Nat) t v, Tryd.f7.params[j]? = some t → args[j]? = some v → Value.okWide Tryd.prog W .any base t v := hval0
    have hA' : DataW.TrodAll enc Tryd.prog W 0 (fun _ => true) true Tryd.f7.params.toList args.toList ds p := hA
    rw [Tryd.params7] at hA' hval
    obtain ⟨v0, d0, rfl, rfl, h0⟩ := trodAll_one hA'
    obtain ⟨a0, b0, c0, e0, x0, rfl⟩ := open_dyadic (hval 0 48 v0 rfl rfl) h0
    have hL' := hL
    rw [MakeChecks.laidMetH_plain _ _ _ (by kernel_rfl)] at hL'
    have ht : Hid (TabP W) := Lib.tabIs_of_head (name := "internal/strconv.uint64pow10") (k := .u64) (zs := Lib.pow10Tab) (g := 4) (by kernel_rfl) (by kernel_rfl) Tryd.underlying152 Tryd.underlying79 (by kernel_rfl) (by kernel_rfl) (laidMet.tail (laidMet.tail hL'))
    exact fnExactFormatDyadic_any a0 b0 c0 e0 x0 W ht

theorem fnExactFormatDyadic_row_holds : Rows.FnExactFormatDyadicSaid :=
  OpenClaim.holds_of_wide 7 Tryd.f7 rfl rfl rfl rfl rfl rfl rfl ⟨rfl, rfl, rfl, rfl, rfl⟩ rfl rfl rfl rfl rfl (by kernel_rfl) Tryd.func7 (by kernel_rfl)
    (of_decide_eq_true (by kernel_rfl)) (by unfold Func.isWrapper; first | (rw [if_pos (by decide +kernel)]; kernel_rfl) | (rw [if_neg (by decide +kernel)]; exact ⟨rfl, rfl⟩))
    (fun os started H enc _ => fnExactFormatDyadic_lifted os started H enc)

theorem fnExactFormatDyadic_holds : Rows.FnExactFormatDyadicCardSaid :=
  Claim7.holds_tied_plain_at .later [] Rows.fnExactFormatDyadicCard.laidKinds true Rows.fnExactFormatDyadicCard.stood.harness true
    fnExactFormatDyadic_row_holds (fun _ h => by cases h) (by kernel_rfl) (fun _ h => by cases h) fnExactFormatDyadic_row_tie rfl ⟨rfl, rfl⟩ (by kernel_rfl) rfl
    (fun f fn hf hfn => by
      obtain rfl : f = 7 := Option.some.inj ((show Tryd.prog.funcNamed "loop.example/g00864/laws.FnExactFormatDyadic" = some 7 by kernel_rfl).symm.trans hf) |>.symm
      obtain rfl : fn = Tryd.f7 := (Option.some.inj (Tryd.func7.symm.trans hfn)).symm
      exact ⟨by kernel_rfl, fun j t ht => by
        rw [Tryd.params7] at ht
        have hm : t ∈ [48] := by simpa using Array.mem_of_getElem? ht
        have hall : ([48].all fun u => !Tryd.prog.wantsStandIn u) = true := by kernel_rfl
        exact (show Tryd.prog.wantsStandIn t = false by simpa using List.all_eq_true.1 hall t hm)⟩)
    (by kernel_rfl)

end Go.Proofs.YtgpocbhlcmohmaaDoor
