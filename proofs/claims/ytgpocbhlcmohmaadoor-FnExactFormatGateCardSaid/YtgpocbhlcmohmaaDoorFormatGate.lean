/- FnExactFormatGate is proved: the program's FormatGate returns what the reference's returns, for all arguments. No conditions. -/
import Derived.Test.YtgpocbhlcmohmaaDoorOpen2
import Derived.Test.YtgpocbhlcmohmaaDoorFmtS
import Derived.Test.YtgpocbhlcmohmaaDoorLaidS
import Derived.Test.YtgpocbhlcmohmaaDoorTie
import Derived.Test.YtgpocbhlcmohmaaDoorCards
namespace Go.Proofs.YtgpocbhlcmohmaaDoor
open Go.RowKit Go.WideShapes Go.ChangeShapes Go.ChangeAt

set_option maxHeartbeats 1000000 in
theorem fnExactFormatGate_any (a b c : Int) (w : World) (hN : Hid (NamesAt w)) :
    Calls Tryd.prog 5 #[tv a b c] w fun r w' => r = .returned (.bool true) ∧ Below w.heap.size w w' := by
  obtain ⟨s, t, hf⟩ : ∃ s t, fgRes (gateB 5 a b c) (gtxt a.toNat b.toNat c.toNat) = .tuple #[.string s, .bool t] := ⟨_, _, rfl⟩
  have Hf := Lib.hid hf
  clear hf
  go_enter Tryd.func5, Tryd.ntmps5
  go_wp2_with fail
  refine (toGate_any _ _ _ _).mono ?_
  rintro e w1 ⟨rfl, b1⟩
  obtain ⟨b1c, b1f⟩ := bcell b1
  have z1 := b1.size
  try simp only [World.size_alloc] at z1
  have B1 : Below w.heap.size w w1 := Below.chain (Below.refl _ _) (by go_grown) b1 (by go_size)
  have y10 : w.heap.size < w1.heap.size := by omega
  go_wp2_with fail
  refine (specFmtGate_any _ _ _ _).mono ?_
  rintro e w2 ⟨rfl, b2⟩
  have z2 := b2.size
  try simp only [World.size_alloc] at z2
  have C2 := Below.chain b1 (by go_grown) b2 (by go_size)
  have B2 : Below w.heap.size w w2 := Below.chain B1 (by go_grown) b2 (by go_size)
  obtain ⟨b2c, b2f⟩ := bcell b2
  obtain ⟨C2c, C2f⟩ := bcellB C2
  have y20 : w.heap.size < w2.heap.size := by omega
  try (have v21 : w1.heap.size < w2.heap.size := by omega)
  rw [Hf.out]
  go_wp2_with fail
  refine (toGate_any _ _ _ _).mono ?_
  rintro e w3 ⟨rfl, b3⟩
  have z3 := b3.size
  try simp only [World.size_alloc] at z3
  have C3 := Below.chain C2 (by go_grown) b3 (by go_size)
  have B3 : Below w.heap.size w w3 := Below.chain B2 (by go_grown) b3 (by go_size)
  obtain ⟨b3c, b3f⟩ := bcell b3
  obtain ⟨C3c, C3f⟩ := bcellB C3
  have y30 : w.heap.size < w3.heap.size := by omega
  try (have v31 : w1.heap.size < w3.heap.size := by omega)
  try (have v32 : w2.heap.size < w3.heap.size := by omega)
  go_wp2_with fail
  refine (implFmtGate_any _ _ _ _ (by refine hN.out.below B3)).mono ?_
  rintro e w4 ⟨rfl, b4⟩
  have z4 := b4.size
  try simp only [World.size_alloc] at z4
  have C4 := Below.chain C3 (by go_grown) b4 (by go_size)
  have B4 : Below w.heap.size w w4 := Below.chain B3 (by go_grown) b4 (by go_size)
  obtain ⟨b4c, b4f⟩ := bcell b4
  obtain ⟨C4c, C4f⟩ := bcellB C4
  have y40 : w.heap.size < w4.heap.size := by omega
  try (have v41 : w1.heap.size < w4.heap.size := by omega)
  try (have v42 : w2.heap.size < w4.heap.size := by omega)
  try (have v43 : w3.heap.size < w4.heap.size := by omega)
  rw [Hf.out]
  go_wp2
  go_ret
  refine ⟨by first | rfl | simp, ?_⟩
  go_grown


theorem fnExactFormatGate_door (os : Os) (args : Array Value) : laidMetH Tryd.prog Rows.fnExactFormatGateRow.laid ((World.doorLaid Tryd.prog 77 os).forCall (fun _ _ => 0) ⟨#[], args, []⟩).memory :=
  laidMetH_of_parts3 (fuel := 8) (laidMet_of_run' 8 (by kernel_rfl) (by kernel_rfl)) (by kernel_rfl) (by kernel_rfl)

set_option maxRecDepth 100000 in
theorem fnExactFormatGate_lifted (os : Os) (started : os.Started) (H : Type) (enc : TypeId × Value → H) :
    ReturnsInHanded {} Tryd.checked os 5 .any (fun w args => (Rows.fnExactFormatGateSpec.pre enc Tryd.prog Tryd.f5 Rows.fnExactFormatGateRow.domain false w args ∧ laidMetH Tryd.prog Rows.fnExactFormatGateRow.laid w) ∧ sizedMet enc Tryd.prog Tryd.f5 (OpenSpec.ofChange Rows.fnExactFormatGateSpec) false w args) (Rows.fnExactFormatGateSpec.post enc Tryd.prog Tryd.f5 false true false false) := by
  refine law_laid (C := Tryd.checked) (tb := 4) (L := Rows.fnExactFormatGateRow.laid) Tryd.own started (by kernel_rfl) Tryd.func5
    (ChangeSpec.witness_shaped (enc := enc) (C := Tryd.checked) (os := os) (X := fun w _ => laidMetH Tryd.prog Rows.fnExactFormatGateRow.laid w) false (World.doorLaid Tryd.prog 77 os) #[.agg #[.int .i64 0, .int .i64 0, .int .i64 0]] 8 rfl (World.shaped_of_RefB (by kernel_rfl) (by kernel_rfl)) (by kernel_rfl) (by kernel_rfl) (by kernel_rfl) (fnExactFormatGate_door os _))
    Tryd.laidOut (by kernel_rfl) (by kernel_rfl) rfl Tryd.underlying4 (fun es gs he hg => ?_) ?_
  · match es, gs, he, hg with
    | [_], [_], _, _ => rfl
  · intro W base args ds gs p hval0 hA hwt hsh hL hblk
    have hval : ∀ (j : Nat) t v, Tryd.f5.params[j]? = some t → args[j]? = some v → Value.okWide Tryd.prog W .any base t v := hval0
    have hA' : DataW.TrodAll enc Tryd.prog W 0 (fun _ => true) true Tryd.f5.params.toList args.toList ds p := hA
    rw [Tryd.params5] at hA' hval
    obtain ⟨v0, d0, rfl, rfl, h0⟩ := trodAll_one hA'
    obtain ⟨a0, b0, c0, rfl⟩ := open_gate (hval 0 39 v0 rfl rfl) h0
    have hL' := hL
    rw [MakeChecks.laidMetH_plain _ _ _ (by kernel_rfl)] at hL'
    have hN : Hid (NamesAt W) := strs_of_head (name := "loop.example/g00864/impl.gateNames") (zs := namesB) (g := 0) (by kernel_rfl) (by kernel_rfl) Tryd.underlying88 Tryd.underlying9 (by kernel_rfl) (by kernel_rfl) (laidMet.tail (laidMet.tail (laidMet.tail hL')))
    exact fnExactFormatGate_any a0 b0 c0 W hN

theorem fnExactFormatGate_row_holds : Rows.FnExactFormatGateSaid :=
  OpenClaim.holds_of_wide 5 Tryd.f5 rfl rfl rfl rfl rfl rfl rfl ⟨rfl, rfl, rfl, rfl, rfl⟩ rfl rfl rfl rfl rfl (by kernel_rfl) Tryd.func5 (by kernel_rfl)
    (of_decide_eq_true (by kernel_rfl)) (by unfold Func.isWrapper; first | (rw [if_pos (by decide +kernel)]; kernel_rfl) | (rw [if_neg (by decide +kernel)]; exact ⟨rfl, rfl⟩))
    (fun os started H enc _ => fnExactFormatGate_lifted os started H enc)

theorem fnExactFormatGate_holds : Rows.FnExactFormatGateCardSaid :=
  Claim7.holds_tied_plain_at .later [] Rows.fnExactFormatGateCard.laidKinds true Rows.fnExactFormatGateCard.stood.harness true
    fnExactFormatGate_row_holds (fun _ h => by cases h) (by kernel_rfl) (fun _ h => by cases h) fnExactFormatGate_row_tie rfl ⟨rfl, rfl⟩ (by kernel_rfl) rfl
    (fun f fn hf hfn => by
      obtain rfl : f = 5 := Option.some.inj ((show Tryd.prog.funcNamed "loop.example/g00864/laws.FnExactFormatGate" = some 5 by kernel_rfl).symm.trans hf) |>.symm
      obtain rfl : fn = Tryd.f5 := (Option.some.inj (Tryd.func5.symm.trans hfn)).symm
      exact ⟨by kernel_rfl, fun j t ht => by
        rw [Tryd.params5] at ht
        have hm : t ∈ [39] := by simpa using Array.mem_of_getElem? ht
        have hall : ([39].all fun u => !Tryd.prog.wantsStandIn u) = true := by kernel_rfl
        exact (show Tryd.prog.wantsStandIn t = false by simpa using List.all_eq_true.1 hall t hm)⟩)
    (by kernel_rfl)

end Go.Proofs.YtgpocbhlcmohmaaDoor
