/- FnExactFoldCircuit is proved: the program's FoldCircuit returns what the reference's returns, for all arguments. No conditions. -/
import Derived.Test.YtgpocbhlcmohmaaDoorOpenC
import Derived.Test.YtgpocbhlcmohmaaDoorFoldT
import Derived.Test.YtgpocbhlcmohmaaDoorLocC
import Derived.Test.YtgpocbhlcmohmaaDoorLaidS
import Derived.Test.YtgpocbhlcmohmaaDoorFrameL
import Derived.Test.YtgpocbhlcmohmaaDoorTie
import Derived.Test.YtgpocbhlcmohmaaDoorCards
import Derived.Deep.DeepCutAuto
namespace Go.Proofs.YtgpocbhlcmohmaaDoor
open Go.RowKit Go.WideShapes Go.ChangeShapes Go.ChangeAt

set_option maxRecDepth 100000 in
set_option maxHeartbeats 4000000 in
theorem fnExactFoldCircuit_any (q0 : Int) (A0 : Option Addr) (p0 : Nat) (x0 : List G3) (w : World) (hl0 : x0.length ≤ maxLen) (hf0 : FlatAt w A0 (flatG x0)) (hN : Hid (NamesAt w)) :
    Calls Tryd.prog 9 #[cv q0 A0 x0.length p0] w fun e w' => e = .returned (.bool true) ∧ Below w.heap.size w w' := by
  have Hf0 := Lib.hid hf0
  clear hf0
  have hm0 : x0.length ≤ 9223372036854775807 := hl0
  by_cases hn0 : x0.length ≤ 1048576
  · skip
    go_enter Tryd.func9, Tryd.ntmps9
    go_upto_region 1 with fail
    generalize hW0 : w.alloc (.cells #[.int .i64 q0, .slice A0 x0.length p0] 54) = W0
    have B : Below w.heap.size w W0 := by rw [← hW0]; go_grown
    have P0 : Hid (LocC W0 w.heap.size q0 A0 x0.length p0) := LocC.of_row (by rw [← hW0]; exact heap_top _ _ rfl)
    clear hW0
    have sW0 : w.heap.size + 1 ≤ W0.heap.size := by have := P0.out.lt; omega
    obtain ⟨_, P0c0, P0c1⟩ := P0.out
    go_wp2_with fail
    refine (szCircuit_any _ _ _ _ _ _ (by omega) hm0).mono ?_
    rintro e w1 ⟨rfl, bw1⟩
    rw [if_neg (by omega)]
    have zw1 := bw1.size
    replace B := B.trans (bw1.mono B.size)
    replace P0 := Lib.hid (P0.out.call bw1)
    clear P0c0 P0c1
    clear bw1
    obtain ⟨sx, tx, hfx⟩ : ∃ s t, foRes q0 x0 = .tuple #[.string s, .bool t] := ⟨_, _, rfl⟩
    have Hfx := Lib.hid hfx
    clear hfx
    have HN := Lib.hid (hN.out.below B)
    obtain ⟨_, P0c0, P0c1⟩ := P0.out
    go_wp2_with fail
    refine (toCircuit_any q0 A0 p0 x0 _ hn0 (by refine Hf0.out.below B)).mono ?_
    rintro e w2 ⟨gw2, rfl, fw2, bw2⟩
    have Gw2 := Lib.hid fw2.at
    clear fw2
    replace B := B.trans (bw2.mono B.size)
    replace P0 := Lib.hid (P0.out.call bw2)
    replace HN := Lib.hid (HN.out.call bw2)
    clear P0c0 P0c1
    clear bw2
    go_wp2_with fail
    refine (specFold_any q0 _ _ x0 _ hn0 (Nat.le_refl _) Gw2.out).mono ?_
    rintro e w3 ⟨rfl, bw3⟩
    rw [Hfx.out]
    have zw3 := bw3.size
    replace B := B.trans (bw3.mono B.size)
    replace P0 := Lib.hid (P0.out.call bw3)
    replace HN := Lib.hid (HN.out.call bw3)
    clear bw3
    obtain ⟨_, P0c0, P0c1⟩ := P0.out
    go_wp2_with fail
    refine (toCircuit_any q0 A0 p0 x0 _ hn0 (by refine Hf0.out.below B)).mono ?_
    rintro e w4 ⟨g0, rfl, fw4, bw4⟩
    go_upto_region 7 with fail
    generalize hW : w4.alloc (.cells #[.int .i64 q0, .slice (some ⟨g0, 0, none⟩) x0.length x0.length] 59) = V5
    have bV5 : Below w3.heap.size w3 V5 := by rw [← hW]; exact Below.alloc bw4 bw4.size _
    have X0 : Hid (LocC V5 w4.heap.size q0 (some ⟨g0, 0, none⟩) x0.length x0.length) := LocC.of_row (by rw [← hW]; exact heap_top _ _ rfl)
    have F0 : Hid (FlatIn V5 (some ⟨g0, 0, none⟩) (flatG x0) w3.heap.size w4.heap.size) := by rw [← hW]; exact fw4.alloc _
    have sw4 := bw4.size
    have sV5 : w4.heap.size < V5.heap.size := by rw [← hW]; go_size
    clear P0c0 P0c1
    clear hW fw4 bw4
    replace B := B.trans (bV5.mono B.size)
    replace P0 := Lib.hid (P0.out.call bV5)
    replace HN := Lib.hid (HN.out.call bV5)
    clear bV5
    obtain ⟨_, X0c0, X0c1⟩ := X0.out
    go_wp2_with fail
    refine (implFold_any q0 _ _ x0 _ hn0 (Nat.le_refl _) F0.out.at HN).mono ?_
    rintro e w6 ⟨rfl, bw6⟩
    rw [Hfx.out]
    have zw6 := bw6.size
    replace B := B.trans (bw6.mono B.size)
    replace P0 := Lib.hid (P0.out.call bw6)
    replace HN := Lib.hid (HN.out.call bw6)
    replace X0 := Lib.hid (X0.out.call bw6)
    replace F0 := Lib.hid (F0.out.call bw6)
    clear X0c0 X0c1
    clear bw6
    go_upto_region 10 with fail
    obtain ⟨_, P0c0, P0c1⟩ := P0.out
    obtain ⟨_, X0c0, X0c1⟩ := X0.out
    go_cut [39] (fun sA wx => sA = .bool false ∧ Below w6.heap.size w6 wx)
    case first =>
      go_region_held3 (fun w' => (∀ b o, b < w6.heap.size → w'.cell? ⟨b, o, none⟩ = w6.cell? ⟨b, o, none⟩) ∧ Below w6.heap.size w6 w') ((refine SB_mk ?_; go_grown)) (first | (go_at_call 30; refine (toCircuit_any _ _ _ _ _ ?_ ?_).mono ?_; exact hn0; exact flat_sb Hf0.out B (by with_reducible assumption); rintro e wA ⟨gA, rfl, fA', bA⟩; have fA := Lib.hid fA'; clear fA'; obtain ⟨bAc, bAf⟩ := bcell bA; have sA := (SB_step (W := w6) (by with_reducible assumption) bA).2; have zA := sA.size) | (go_at_call 32; refine (eqCircuit_same q0 _ _ _ _ x0 _ hm0 (flatin_sb F0.out (by with_reducible assumption)) fA.out.at).mono ?_; rintro e wB ⟨rfl, bB⟩; obtain ⟨bBc, bBf⟩ := bcell bB; have sB := (SB_step (W := w6) (by with_reducible assumption) bB).2; have zB := sB.size))
      all_goals
        go_wp2_with fail
        go_meet
        exact ⟨rfl, by go_grown⟩
    case rest =>
      obtain ⟨w7, rfl⟩ : ∃ w7 : World, w7 = wc := ⟨_, rfl⟩
      obtain ⟨rfl, bw7⟩ := hcut
      have zw7 := bw7.size
      replace B := B.trans (bw7.mono B.size)
      replace P0 := Lib.hid (P0.out.call bw7)
      replace HN := Lib.hid (HN.out.call bw7)
      replace X0 := Lib.hid (X0.out.call bw7)
      replace F0 := Lib.hid (F0.out.call bw7)
      clear bw7
      clear P0c0 P0c1
      clear X0c0 X0c1
      go_wp2
      go_ret
      exact ⟨rfl, B⟩
  · go_enter Tryd.func9, Tryd.ntmps9
    go_upto_region 1 with fail
    generalize hW0 : w.alloc (.cells #[.int .i64 q0, .slice A0 x0.length p0] 54) = W0
    have B : Below w.heap.size w W0 := by rw [← hW0]; go_grown
    have P0 : Hid (LocC W0 w.heap.size q0 A0 x0.length p0) := LocC.of_row (by rw [← hW0]; exact heap_top _ _ rfl)
    clear hW0
    have sW0 : w.heap.size + 1 ≤ W0.heap.size := by have := P0.out.lt; omega
    obtain ⟨_, P0c0, P0c1⟩ := P0.out
    go_wp2_with fail
    refine (szCircuit_any _ _ _ _ _ _ (by omega) hm0).mono ?_
    rintro e w1 ⟨rfl, bw1⟩
    rw [if_pos (by omega)]
    have zw1 := bw1.size
    replace B := B.trans (bw1.mono B.size)
    replace P0 := Lib.hid (P0.out.call bw1)
    clear P0c0 P0c1
    clear bw1
    go_wp2
    go_ret
    exact ⟨rfl, B⟩

theorem fnExactFoldCircuit_door (os : Os) (args : Array Value) : laidMetH Tryd.prog Rows.fnExactFoldCircuitRow.laid ((World.doorLaid Tryd.prog 77 os).forCall (fun _ _ => 0) ⟨#[], args, []⟩).memory :=
  laidMetH_of_parts3 (fuel := 8) (laidMet_of_run' 8 (by kernel_rfl) (by kernel_rfl)) (by kernel_rfl) (by kernel_rfl)

set_option maxRecDepth 100000 in
theorem fnExactFoldCircuit_lifted (os : Os) (started : os.Started) (H : Type) (enc : TypeId × Value → H) :
    ReturnsInHanded {} Tryd.checked os 9 .any (fun w args => (Rows.fnExactFoldCircuitSpec.pre enc Tryd.prog Tryd.f9 Rows.fnExactFoldCircuitRow.domain false w args ∧ laidMetH Tryd.prog Rows.fnExactFoldCircuitRow.laid w) ∧ sizedMet enc Tryd.prog Tryd.f9 (OpenSpec.ofChange Rows.fnExactFoldCircuitSpec) false w args) (Rows.fnExactFoldCircuitSpec.post enc Tryd.prog Tryd.f9 false true false false) := by
  refine law_laid (C := Tryd.checked) (tb := 4) (L := Rows.fnExactFoldCircuitRow.laid) Tryd.own started (by kernel_rfl) Tryd.func9
    (ChangeSpec.witness_shaped (enc := enc) (C := Tryd.checked) (os := os) (X := fun w _ => laidMetH Tryd.prog Rows.fnExactFoldCircuitRow.laid w) false (World.doorLaid Tryd.prog 77 os) #[.agg #[.int .i64 0, .slice none 0 0]] 8 rfl (World.shaped_of_RefB (by kernel_rfl) (by kernel_rfl)) (by kernel_rfl) (by kernel_rfl) (by kernel_rfl) (fnExactFoldCircuit_door os _))
    Tryd.laidOut (by kernel_rfl) (by kernel_rfl) rfl Tryd.underlying4 (fun es gs he hg => ?_) ?_
  · match es, gs, he, hg with
    | [_], [_], _, _ => rfl
  · intro W base args ds gs p hval0 hA hwt hsh hL hblk
    have hval : ∀ (j : Nat) t v, Tryd.f9.params[j]? = some t → args[j]? = some v → Value.okWide Tryd.prog W .any base t v := hval0
    have hA' : DataW.TrodAll enc Tryd.prog W 0 (fun _ => true) true Tryd.f9.params.toList args.toList ds p := hA
    rw [Tryd.params9] at hA' hval
    obtain ⟨v0, d0, rfl, rfl, h0⟩ := trodAll_one hA'
    obtain ⟨q0, A0, p0, x0, rfl, hl0, hf0⟩ := open_circuit (hval 0 54 v0 rfl rfl) h0
    have hL' := hL
    rw [MakeChecks.laidMetH_plain _ _ _ (by kernel_rfl)] at hL'
    have hN : Hid (NamesAt W) := strs_of_head (name := "loop.example/g00864/impl.gateNames") (zs := namesB) (g := 0) (by kernel_rfl) (by kernel_rfl) Tryd.underlying88 Tryd.underlying9 (by kernel_rfl) (by kernel_rfl) (laidMet.tail (laidMet.tail (laidMet.tail hL')))
    exact fnExactFoldCircuit_any q0 A0 p0 x0 W hl0 hf0 hN

theorem fnExactFoldCircuit_row_holds : Rows.FnExactFoldCircuitSaid :=
  OpenClaim.holds_of_wide 9 Tryd.f9 rfl rfl rfl rfl rfl rfl rfl ⟨rfl, rfl, rfl, rfl, rfl⟩ rfl rfl rfl rfl rfl (by kernel_rfl) Tryd.func9 (by kernel_rfl)
    (of_decide_eq_true (by kernel_rfl)) (by unfold Func.isWrapper; first | (rw [if_pos (by decide +kernel)]; kernel_rfl) | (rw [if_neg (by decide +kernel)]; exact ⟨rfl, rfl⟩))
    (fun os started H enc _ => fnExactFoldCircuit_lifted os started H enc)

theorem fnExactFoldCircuit_holds : Rows.FnExactFoldCircuitCardSaid :=
  Claim7.holds_tied_plain_at .later [] Rows.fnExactFoldCircuitCard.laidKinds true Rows.fnExactFoldCircuitCard.stood.harness true
    fnExactFoldCircuit_row_holds (fun _ h => by cases h) (by kernel_rfl) (fun _ h => by cases h) fnExactFoldCircuit_row_tie rfl ⟨rfl, rfl⟩ (by kernel_rfl) rfl
    (fun f fn hf hfn => by
      obtain rfl : f = 9 := Option.some.inj ((show Tryd.prog.funcNamed "loop.example/g00864/laws.FnExactFoldCircuit" = some 9 by kernel_rfl).symm.trans hf) |>.symm
      obtain rfl : fn = Tryd.f9 := (Option.some.inj (Tryd.func9.symm.trans hfn)).symm
      exact ⟨by kernel_rfl, fun j t ht => by
        rw [Tryd.params9] at ht
        have hm : t ∈ [54] := by simpa using Array.mem_of_getElem? ht
        have hall : ([54].all fun u => !Tryd.prog.wantsStandIn u) = true := by kernel_rfl
        exact (show Tryd.prog.wantsStandIn t = false by simpa using List.all_eq_true.1 hall t hm)⟩)
    (by kernel_rfl)

end Go.Proofs.YtgpocbhlcmohmaaDoor
