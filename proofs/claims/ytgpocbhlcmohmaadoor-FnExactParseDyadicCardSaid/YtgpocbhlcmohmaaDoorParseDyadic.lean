/- FnExactParseDyadic is proved: the program's ParseDyadic returns what the reference's returns, for all arguments. No conditions. -/
import Derived.Test.YtgpocbhlcmohmaaDoorOpenS
import Derived.Test.YtgpocbhlcmohmaaDoorParE
import Derived.Test.YtgpocbhlcmohmaaDoorFrameL
import Derived.Test.YtgpocbhlcmohmaaDoorTie
import Derived.Test.YtgpocbhlcmohmaaDoorCards
import Derived.Stop.LaidErr
import Derived.ChangeMaps
import Derived.Lay
namespace Go.Proofs.YtgpocbhlcmohmaaDoor
open Go.RowKit Go.WideShapes Go.ChangeShapes Go.ChangeAt

theorem errStar : "*" ++ "errors.errorString" = "*errors.errorString" := by decide
theorem errRow (u : TypeId) (h : Tryd.prog.typeName? 3 u = some "*errors.errorString") : u = 156 :=
  typeName_ptr_named (nm := "errors.errorString") (by rw [errStar]; kernel_rfl) (by kernel_rfl) (by decide) u (by rw [errStar]; exact h)

set_option maxHeartbeats 1000000 in
theorem fnExactParseDyadic_any (s : ByteArray) (w : World) (hs : s.size ≤ maxLen) (hM : Hid (MaxL w)) (hv : Hid (ParV w)) :
    Calls Tryd.prog 3 #[.string s] w fun r w' => r = .returned (.bool true) ∧ Below w.heap.size w w' := by
  unfold maxLen at hs
  by_cases hl : s.size ≤ 1048576
  · have hli : ¬ (1048576 : Int) < (s.size : Int) := by omega
    obtain ⟨a, b, c, d, x, ok, hf⟩ := pdRes_form s
    have Hf := Lib.hid hf
    clear hf
    go_enter Tryd.func3, Tryd.ntmps3
    go_wp2_with fail
    refine (specParD_any s _ (by omega)).mono ?_
    rintro e w1 ⟨rfl, b1⟩
    obtain ⟨b1c, b1f⟩ := bcell b1
    have z1 := b1.size
    try simp only [World.size_alloc] at z1
    have B1 : Below w.heap.size w w1 := Below.chain (Below.refl _ _) (by go_grown) b1 (by go_size)
    rw [Hf.out]
    go_wp2_with fail
    refine (implParD_any s _ (by omega) (by refine hM.out.below ?_; go_grown) (by refine hv.out.below ?_; go_grown)).mono ?_
    rintro e w2 ⟨rfl, b2⟩
    have z2 := b2.size
    try simp only [World.size_alloc] at z2
    have C2 := Below.chain b1 (by go_grown) b2 (by go_size)
    have B2 : Below w.heap.size w w2 := Below.chain B1 (by go_grown) b2 (by go_size)
    obtain ⟨b2c, b2f⟩ := bcell b2
    obtain ⟨C2c, C2f⟩ := bcellB C2
    try (have v21 : w1.heap.size < w2.heap.size := by omega)
    rw [Hf.out]
    go_wp2_with fail
    refine (eqDyadic_any _ _ _ _ _ _ _ _ _ _ _).mono ?_
    rintro e w3 ⟨rfl, b3⟩
    have z3 := b3.size
    try simp only [World.size_alloc] at z3
    have C3 := Below.chain C2 (by go_grown) b3 (by go_size)
    have B3 : Below w.heap.size w w3 := Below.chain B2 (by go_grown) b3 (by go_size)
    obtain ⟨b3c, b3f⟩ := bcell b3
    obtain ⟨C3c, C3f⟩ := bcellB C3
    try (have v31 : w1.heap.size < w3.heap.size := by omega)
    try (have v32 : w2.heap.size < w3.heap.size := by omega)
    go_wp2
    go_ret
    refine ⟨by first | rfl | simp, ?_⟩
    go_grown
  · have hli : (1048576 : Int) < (s.size : Int) := by omega
    go_enter Tryd.func3, Tryd.ntmps3
    go_wp2
    go_ret
    refine ⟨rfl, ?_⟩
    go_grown


set_option maxRecDepth 100000 in
theorem fnExactParseDyadic_lifted (os : Os) (started : os.Started) (H : Type) (enc : TypeId × Value → H) :
    ReturnsInHanded {} Tryd.checked os 3 .any (fun w args => (Rows.fnExactParseDyadicSpec.pre enc Tryd.prog Tryd.f3 Rows.fnExactParseDyadicRow.domain false w args ∧ laidMetH Tryd.prog Rows.fnExactParseDyadicRow.laid w) ∧ sizedMet enc Tryd.prog Tryd.f3 (OpenSpec.ofChange Rows.fnExactParseDyadicSpec) false w args) (Rows.fnExactParseDyadicSpec.post enc Tryd.prog Tryd.f3 false true false false) := by
  refine law_laid (C := Tryd.checked) (tb := 4) (L := Rows.fnExactParseDyadicRow.laid) Tryd.own started (by kernel_rfl) Tryd.func3
    (ChangeSpec.witness_shaped (enc := enc) (C := Tryd.checked) (os := os) (X := fun w _ => laidMetH Tryd.prog Rows.fnExactParseDyadicRow.laid w) false (World.laidAll Tryd.prog os Rows.fnExactParseDyadicRow.laid) #[.string ByteArray.empty] 8 (World.laidAll_os _ _ _) (World.shaped_of_ZipB (by kernel_rfl) (by kernel_rfl)) (by kernel_rfl) (by kernel_rfl) (by kernel_rfl)
      (by rw [MakeChecks.laidMetH_plain _ _ _ (by kernel_rfl)]; exact laidMet_laidAll _ (by kernel_rfl) (by kernel_rfl)))
    Tryd.laidOut (by kernel_rfl) (by kernel_rfl) rfl Tryd.underlying4 (fun es gs he hg => ?_) ?_
  · match es, gs, he, hg with
    | [_], [], _, _ => rfl
  · intro W base args ds gs p hval0 hA hwt hsh hL hblk
    have hval : ∀ (j : Nat) t v, Tryd.f3.params[j]? = some t → args[j]? = some v → Value.okWide Tryd.prog W .any base t v := hval0
    have hA' : DataW.TrodAll enc Tryd.prog W 0 (fun _ => true) true Tryd.f3.params.toList args.toList ds p := hA
    rw [Tryd.params3] at hA' hval
    obtain ⟨v0, d0, rfl, rfl, h0⟩ := trodAll_one hA'
    obtain ⟨s0, rfl, rfl, rfl, hs0⟩ := ChangeMaps.open_string Tryd.underlying9 (hval 0 9 v0 rfl rfl) h0
    have hL' := hL
    rw [MakeChecks.laidMetH_plain _ _ _ (by kernel_rfl)] at hL'
    have ht : Hid (TabP W) := Lib.tabIs_of_head (name := "internal/strconv.uint64pow10") (k := .u64) (zs := Lib.pow10Tab) (g := 4) (by kernel_rfl) (by kernel_rfl) Tryd.underlying152 Tryd.underlying79 (by kernel_rfl) (by kernel_rfl) (laidMet.tail (laidMet.tail hL'))
    have hE1 : SentAt W 3 := by
      obtain ⟨a0, s0, hv0, -, -, -⟩ := laid_sentinel (laidMet.tail (laidMet.tail (laidMet.tail (laidMet.tail hL')))) (g := 3) (ti := 101) (tp := 156) (te := 158) (ts := 9) (by kernel_rfl) (by kernel_rfl) Tryd.underlying101 errRow Tryd.underlying156 Tryd.underlying158 rfl rfl Tryd.underlying9 (by kernel_rfl) (by kernel_rfl)
      exact ⟨_, by have h0 := World.var?_cell (show Tryd.prog.globalNamed "strconv.ErrRange" = some 3 by kernel_rfl) hv0 0; simpa using h0, Or.inr ⟨_, _, rfl⟩⟩
    have hE2 : SentAt W 2 := by
      obtain ⟨a0, s0, hv0, -, -, -⟩ := laid_sentinel (laidMet.tail (laidMet.tail (laidMet.tail (laidMet.tail (laidMet.tail hL'))))) (g := 2) (ti := 101) (tp := 156) (te := 158) (ts := 9) (by kernel_rfl) (by kernel_rfl) Tryd.underlying101 errRow Tryd.underlying156 Tryd.underlying158 rfl rfl Tryd.underlying9 (by kernel_rfl) (by kernel_rfl)
      exact ⟨_, by have h0 := World.var?_cell (show Tryd.prog.globalNamed "strconv.ErrSyntax" = some 2 by kernel_rfl) hv0 0; simpa using h0, Or.inr ⟨_, _, rfl⟩⟩
    have hv : Hid (ParV W) := ⟨ht.out, hE2, hE1⟩
    have hM : Hid (MaxL W) := MaxL.of_shaped hsh
    exact fnExactParseDyadic_any s0 W hs0 hM hv

theorem fnExactParseDyadic_row_holds : Rows.FnExactParseDyadicSaid :=
  OpenClaim.holds_of_wide 3 Tryd.f3 rfl rfl rfl rfl rfl rfl rfl ⟨rfl, rfl, rfl, rfl, rfl⟩ rfl rfl rfl rfl rfl (by kernel_rfl) Tryd.func3 (by kernel_rfl)
    (of_decide_eq_true (by kernel_rfl)) (by unfold Func.isWrapper; first | (rw [if_pos (by decide +kernel)]; kernel_rfl) | (rw [if_neg (by decide +kernel)]; exact ⟨rfl, rfl⟩))
    (fun os started H enc _ => fnExactParseDyadic_lifted os started H enc)

theorem fnExactParseDyadic_holds : Rows.FnExactParseDyadicCardSaid :=
  Claim7.holds_tied_plain_at .later [] Rows.fnExactParseDyadicCard.laidKinds true Rows.fnExactParseDyadicCard.stood.harness true
    fnExactParseDyadic_row_holds (fun _ h => by cases h) (by kernel_rfl) (fun _ h => by cases h) fnExactParseDyadic_row_tie rfl ⟨rfl, rfl⟩ (by kernel_rfl) rfl
    (fun f fn hf hfn => by
      obtain rfl : f = 3 := Option.some.inj ((show Tryd.prog.funcNamed "loop.example/g00864/laws.FnExactParseDyadic" = some 3 by kernel_rfl).symm.trans hf) |>.symm
      obtain rfl : fn = Tryd.f3 := (Option.some.inj (Tryd.func3.symm.trans hfn)).symm
      exact ⟨by kernel_rfl, fun j t ht => by
        rw [Tryd.params3] at ht
        have hm : t ∈ [9] := by simpa using Array.mem_of_getElem? ht
        have hall : ([9].all fun u => !Tryd.prog.wantsStandIn u) = true := by kernel_rfl
        exact (show Tryd.prog.wantsStandIn t = false by simpa using List.all_eq_true.1 hall t hm)⟩)
    (by kernel_rfl)

end Go.Proofs.YtgpocbhlcmohmaaDoor
