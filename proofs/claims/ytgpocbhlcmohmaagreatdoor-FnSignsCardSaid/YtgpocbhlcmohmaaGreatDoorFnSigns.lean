/- FnSigns is proved: for all drawn numbers, signs of real numbers are antisymmetric and agree with products, and texts are parsed back. No conditions. -/
import Derived.Test.YtgpocbhlcmohmaaGreatDoorOpenB
import Derived.Test.YtgpocbhlcmohmaaGreatDoorSigD
import Derived.Test.YtgpocbhlcmohmaaGreatDoorFmtD
import Derived.Test.YtgpocbhlcmohmaaGreatDoorFrameL
import Derived.Test.YtgpocbhlcmohmaaGreatDoorTie
import Derived.Test.YtgpocbhlcmohmaaGreatDoorCards
import Derived.Stop.LaidErr
import Derived.ChangeMaps
import Derived.Lay
import Derived.Laws.StructEq
import Derived.Deep.DeepCutAuto
namespace Go.Proofs.YtgpocbhlcmohmaaGreatDoor
open Go.RowKit Go.WideShapes Go.ChangeShapes Go.ChangeAt

theorem errStar : "*" ++ "errors.errorString" = "*errors.errorString" := by decide
theorem errRow (u : TypeId) (h : Tryz.prog.typeName? 3 u = some "*errors.errorString") : u = 123 :=
  typeName_ptr_named (nm := "errors.errorString") (by rw [errStar]; kernel_rfl) (by kernel_rfl) (by decide) u (by rw [errStar]; exact h)

theorem sign_parts (u v : Int) : ∃ (n : Int) (ok : Bool), signRes u v = .tuple #[.int .i64 n, .bool ok] ∧ signRes (-u) (-v) = .tuple #[.int .i64 (-n), .bool ok] ∧ (-1 ≤ n ∧ n ≤ 1) ∧
    ((ok = false ∧ n = 0) ∨ (ok = true ∧ n = 0 ∧ u = 0 ∧ v = 0) ∨ (ok = true ∧ (n = 1 ∨ n = -1) ∧ ¬ (u = 0 ∧ v = 0))) := by
  rcases hok : signOk u v with _ | _
  · refine ⟨0, false, by simp [signRes, hok, rI_f], by simp [signRes, signOk_neg, hok, rI_f], by omega, .inl ⟨rfl, rfl⟩⟩
  · refine ⟨sgn2 u v, true, by simp [signRes, hok, rI_t], by simp [signRes, signOk_neg, hok, rI_t, sgn2_neg], ?_, ?_⟩
    · rcases sgn2_is u v with e | e | e <;> omega
    · by_cases h0 : sgn2 u v = 0
      · exact .inr (.inl ⟨rfl, h0, sgn2_zero.1 h0⟩)
      · exact .inr (.inr ⟨rfl, by rcases sgn2_is u v with e | e | e <;> omega, fun h => h0 (sgn2_zero.2 h)⟩)

set_option maxRecDepth 100000 in
set_option maxHeartbeats 4000000 in
theorem fnSigns_any (A0 : Option Addr) (m0 p0 : Nat) (A1 : Option Addr) (m1 p1 : Nat) (w : World) (hl0 : m0 ≤ maxLen) (hb0 : ByteAt w A0 m0) (_hl1 : m1 ≤ maxLen) (hb1 : ByteAt w A1 m1) (hM : Hid (MaxL w)) (hv : Hid (ParV w)) :
    Calls Tryz.prog 3 #[.slice A0 m0 p0, .slice A1 m1 p1] w fun e w' => e = .returned (.bool true) ∧ Below w.heap.size w w' := by
  have heq := fun (a b c d x : Int) (W : World) => run_neD_same a b c d x W
  have hgd := fun (x y : Operand) (xs ys : Array Value) (W : World) => run_gdDS .neq 31 x y xs ys W rfl
  have C0 := Lib.hid hb0
  have C1 := Lib.hid hb1
  clear hb0 hb1
  go_enter Tryz.func3, Tryz.ntmps3
  go_wp2_with fail
  refine (big_any _ _ _ _ _ _ _ hl0).mono ?_
  rintro e w' ⟨k, rfl, rfl⟩
  cases k
  case true =>
    go_wp2
    go_ret
    exact ⟨rfl, Below.refl _ _⟩
  go_wp2_with fail
  refine (drawReal_any A0 m0 p0 _ C0).mono ?_
  rintro e w1 ⟨u, v, rfl, hu, hv2, b1⟩
  obtain ⟨n, ok, hn, hm, hn1, hc⟩ := sign_parts u v
  have Hn := Lib.hid hn
  have Hm := Lib.hid hm
  have Hc := Lib.hid hc
  have g1 : RowKit.wrap64 (-u) = -u := IntWalk.wrap64_in _ (by omega)
  have g2 : RowKit.wrap64 (-v) = -v := IntWalk.wrap64_in _ (by omega)
  have g3 : RowKit.wrap64 (-n) = -n := IntWalk.wrap64_in _ (by omega)
  have g4 : RowKit.wrap64 (- -n) = n := by rw [Int.neg_neg]; exact IntWalk.wrap64_in _ (by omega)
  clear hn hm hc hu hv2 hn1
  go_wp2_with fail
  refine (implRealSign_any u v _).mono ?_
  rintro e w' ⟨rfl, rfl⟩
  rw [Hn.out]
  go_wp2_with fail
  refine (implRealSign_any (-u) (-v) _).mono ?_
  rintro e w' ⟨rfl, rfl⟩
  rw [Hm.out]
  go_wp2_with fail
  refine (specRealSign_any u v _).mono ?_
  rintro e w2 ⟨rfl, b2⟩
  rw [Hn.out]
  have B2 : Below w.heap.size w w2 := b1.trans (b2.mono b1.size)
  clear b1 b2
  go_upto_region 7 with fail
  go_cut [84] (fun s wx => s = .bool false ∧ w2 = wx)
  case first =>
    rcases Hc.out with ⟨h1, h2⟩ | ⟨h1, h2, h3, h4⟩ | ⟨h1, h2, h3⟩
    · subst h1 h2
      go_wp2_with fail
      go_meet
      exact ⟨rfl, rfl⟩
    · subst h1 h2 h3 h4
      go_wp2_with fail
      go_meet
      exact ⟨rfl, rfl⟩
    · subst h1
      by_cases hu0 : u = 0
      · have hv0 : (v == 0) = false := by simpa using fun h => h3 ⟨hu0, h⟩
        subst hu0
        rcases h2 with rfl | rfl
        all_goals
          go_wp2_with fail
          go_meet
          exact ⟨rfl, rfl⟩
      · have hub : (u == 0) = false := by simpa using hu0
        rcases h2 with rfl | rfl
        all_goals
          go_wp2_with fail
          go_meet
          exact ⟨rfl, rfl⟩
  case rest =>
    obtain ⟨w3, rfl⟩ : ∃ w3 : World, w3 = wc := ⟨_, rfl⟩
    obtain ⟨rfl, rfl⟩ := hcut
    clear g1 g2 g3 g4 Hn Hm Hc
    go_wp2_with fail
    refine (drawFmtD_any A1 m1 p1 _ (C1.out.below B2 (Nat.le_refl _))).mono ?_
    rintro e w4 ⟨a, b, c, d, x, rfl, b4⟩
    have B4 : Below w.heap.size w w4 := B2.trans (b4.mono B2.size)
    clear b4
    go_upto_region 10 with fail
    generalize hW4 : w4.alloc (.cells #[.int .i64 a, .int .i64 b, .int .i64 c, .int .i64 d, .int .i64 x] 31) = W4
    have Q4 : W4.heap[w4.heap.size]? = some (.cells #[.int .i64 a, .int .i64 b, .int .i64 c, .int .i64 d, .int .i64 x] 31 (0, 0)) := by rw [← hW4]; exact heap_top _ _ rfl
    have B5 : Below w.heap.size w W4 := by rw [← hW4]; exact Below.alloc B4 B4.size _
    have y4 : w4.heap.size < W4.heap.size := by rw [← hW4]; go_size
    clear hW4
    have HT1 := Lib.hid (hv.out.tab.below B5)
    have q4 := fun o => cell_of_row W4 w4.heap.size o _ _ _ Q4
    rcases hr : dOk a b c d x with _ | _
    · have Hf : Hid (fdRes a b c d x = .tuple #[.string ⟨#[]⟩, .bool false]) := by show _ = _; simp [fdRes, hr]
      go_wp2_with fail
      refine (implFmtD_any a b c d x _ HT1).mono ?_
      rintro e w5 ⟨rfl, b5⟩
      rw [Hf.out]
      have B6 : Below w.heap.size w w5 := B5.trans (b5.mono B5.size)
      go_wp2
      go_ret
      exact ⟨rfl, B6⟩
    · obtain ⟨s, hs⟩ : ∃ s, s = txtD a b c d x := ⟨_, rfl⟩
      have Hf : Hid (fdRes a b c d x = .tuple #[.string s, .bool true]) := by show _ = _; simp [fdRes, hr, hs]
      have Hp : Hid (pdRes s = .tuple #[dv a b c d x, .bool true]) := by show _ = _; rw [hs]; exact pdRes_txt hr
      have hsz : s.size ≤ 200 := by rw [hs]; exact txtD_sz hr
      obtain ⟨kk, pok, hph⟩ : ∃ k p, phRes a b c d x = .tuple #[.int .i64 k, .bool p] := ⟨_, _, rfl⟩
      have Hph := Lib.hid hph
      clear hs hr hph
      go_wp2_with fail
      refine (implFmtD_any a b c d x _ HT1).mono ?_
      rintro e w5 ⟨rfl, b5⟩
      rw [Hf.out]
      have B6 : Below w.heap.size w w5 := B5.trans (b5.mono B5.size)
      have Q5 := (b5.block w4.heap.size y4).trans Q4
      have y5 := Nat.lt_of_lt_of_le y4 b5.size
      clear b5 Q4 q4
      go_wp2_with fail
      refine (implParD_any s _ (by omega) (hM.out.below B6) (hv.out.below B6)).mono ?_
      rintro e w6 ⟨rfl, b6⟩
      rw [Hp.out]
      have B7 : Below w.heap.size w w6 := B6.trans (b6.mono B6.size)
      have Q6 := (b6.block w4.heap.size y5).trans Q5
      have y6 := Nat.lt_of_lt_of_le y5 b6.size
      clear b6 Q5
      go_upto_region 13 with fail
      generalize hW6 : w6.alloc (.cells #[.int .i64 a, .int .i64 b, .int .i64 c, .int .i64 d, .int .i64 x] 31) = W6
      have Q7 : W6.heap[w6.heap.size]? = some (.cells #[.int .i64 a, .int .i64 b, .int .i64 c, .int .i64 d, .int .i64 x] 31 (0, 0)) := by rw [← hW6]; exact heap_top _ _ rfl
      have Q8 : W6.heap[w4.heap.size]? = some (.cells #[.int .i64 a, .int .i64 b, .int .i64 c, .int .i64 d, .int .i64 x] 31 (0, 0)) := by rw [← hW6]; exact (Below.heap_alloc _ _ _ y6).trans Q6
      have B8 : Below w.heap.size w W6 := by rw [← hW6]; exact Below.alloc B7 B7.size _
      have y7 : w4.heap.size < W6.heap.size := by rw [← hW6]; go_size
      have y8 : w6.heap.size < W6.heap.size := by rw [← hW6]; go_size
      have c7 := fun o => cell_of_row W6 w6.heap.size o _ _ _ Q7
      have c8 := fun o => cell_of_row W6 w4.heap.size o _ _ _ Q8
      clear hW6 Q6 Q7
      go_wp2_with fail
      refine (implPhase_any a b c d x _).mono ?_
      rintro e w7 ⟨rfl, b7⟩
      rw [Hph.out]
      have B9 : Below w.heap.size w w7 := B8.trans (b7.mono B8.size)
      have Q9 := (b7.block w4.heap.size y7).trans Q8
      have y9 := Nat.lt_of_lt_of_le y7 b7.size
      clear b7 Q8 c7 c8
      have c9 := fun o => cell_of_row w7 w4.heap.size o _ _ _ Q9
      go_wp2_with fail
      refine (specPhase_any a b c d x _).mono ?_
      rintro e w8 ⟨rfl, b8⟩
      rw [Hph.out]
      have B10 : Below w.heap.size w w8 := B9.trans (b8.mono B9.size)
      clear b8 c9 Q9
      go_wp2
      go_ret
      exact ⟨by first | rfl | simp, B10⟩


set_option maxRecDepth 100000 in
theorem fnSigns_lifted (os : Os) (started : os.Started) (H : Type) (enc : TypeId × Value → H) :
    ReturnsInHanded {} Tryz.checked os 3 .any (fun w args => (Rows.fnSignsSpec.pre enc Tryz.prog Tryz.f3 Rows.fnSignsRow.domain false w args ∧ laidMetH Tryz.prog Rows.fnSignsRow.laid w) ∧ sizedMet enc Tryz.prog Tryz.f3 (OpenSpec.ofChange Rows.fnSignsSpec) false w args) (Rows.fnSignsSpec.post enc Tryz.prog Tryz.f3 false true false false) := by
  refine law_laid (C := Tryz.checked) (tb := 4) (L := Rows.fnSignsRow.laid) Tryz.own started (by kernel_rfl) Tryz.func3
    (ChangeSpec.witness_shaped (enc := enc) (C := Tryz.checked) (os := os) (X := fun w _ => laidMetH Tryz.prog Rows.fnSignsRow.laid w) false (World.laidAll Tryz.prog os Rows.fnSignsRow.laid) #[.slice none 0 0, .slice none 0 0] 8 (World.laidAll_os _ _ _) (World.shaped_of_ZipB (by kernel_rfl) (by kernel_rfl)) (by kernel_rfl) (by kernel_rfl) (by kernel_rfl)
      (by rw [MakeChecks.laidMetH_plain _ _ _ (by kernel_rfl)]; exact laidMet_laidAll _ (by kernel_rfl) (by kernel_rfl)))
    Tryz.laidOut (by kernel_rfl) (by kernel_rfl) rfl Tryz.underlying4 (fun es gs he hg => ?_) ?_
  · match es, gs, he, hg with
    | [_, _], [], _, _ => rfl
  · intro W base args ds gs p hval0 hA hwt hsh hL hblk
    have hval : ∀ (j : Nat) t v, Tryz.f3.params[j]? = some t → args[j]? = some v → Value.okWide Tryz.prog W .any base t v := hval0
    have hA' : DataW.TrodAll enc Tryz.prog W 0 (fun _ => true) true Tryz.f3.params.toList args.toList ds p := hA
    rw [Tryz.params3] at hA' hval
    obtain ⟨v0, v1, d0, d1, p0, p1, rfl, rfl, rfl, h0, h1⟩ := trodAll_two hA'
    obtain ⟨A0, m0, p0, rfl, hl0, hb0⟩ := open_bytes Tryz.underlying22 Tryz.underlying5 Tryz.cellsU8 (hval 0 22 v0 rfl rfl) h0
    obtain ⟨A1, m1, p1, rfl, hl1, hb1⟩ := open_bytes Tryz.underlying22 Tryz.underlying5 Tryz.cellsU8 (hval 1 22 v1 rfl rfl) h1
    have hL' := hL
    rw [MakeChecks.laidMetH_plain _ _ _ (by kernel_rfl)] at hL'
    have ht : Hid (TabP W) := Lib.tabIs_of_head (name := "internal/strconv.uint64pow10") (k := .u64) (zs := Lib.pow10Tab) (g := 1) (by kernel_rfl) (by kernel_rfl) Tryz.underlying102 Tryz.underlying39 (by kernel_rfl) (by kernel_rfl) (laidMet.tail (laidMet.tail hL'))
    have hE1 : SentAt W 3 := by
      obtain ⟨a0, s0, hv0, -, -, -⟩ := laid_sentinel (laidMet.tail (laidMet.tail (laidMet.tail (laidMet.tail hL')))) (g := 3) (ti := 67) (tp := 123) (te := 125) (ts := 9) (by kernel_rfl) (by kernel_rfl) Tryz.underlying67 errRow Tryz.underlying123 Tryz.underlying125 rfl rfl Tryz.underlying9 (by kernel_rfl) (by kernel_rfl)
      exact ⟨_, by have h0 := World.var?_cell (show Tryz.prog.globalNamed "strconv.ErrRange" = some 3 by kernel_rfl) hv0 0; simpa using h0, Or.inr ⟨_, _, rfl⟩⟩
    have hE2 : SentAt W 2 := by
      obtain ⟨a0, s0, hv0, -, -, -⟩ := laid_sentinel (laidMet.tail (laidMet.tail (laidMet.tail (laidMet.tail (laidMet.tail hL'))))) (g := 2) (ti := 67) (tp := 123) (te := 125) (ts := 9) (by kernel_rfl) (by kernel_rfl) Tryz.underlying67 errRow Tryz.underlying123 Tryz.underlying125 rfl rfl Tryz.underlying9 (by kernel_rfl) (by kernel_rfl)
      exact ⟨_, by have h0 := World.var?_cell (show Tryz.prog.globalNamed "strconv.ErrSyntax" = some 2 by kernel_rfl) hv0 0; simpa using h0, Or.inr ⟨_, _, rfl⟩⟩
    have hv : Hid (ParV W) := ⟨ht.out, hE2, hE1⟩
    have hM : Hid (MaxL W) := MaxL.of_shaped hsh
    exact fnSigns_any A0 m0 p0 A1 m1 p1 W hl0 hb0 hl1 hb1 hM hv

theorem fnSigns_row_holds : Rows.FnSignsSaid :=
  OpenClaim.holds_of_wide 3 Tryz.f3 rfl rfl rfl rfl rfl rfl rfl ⟨rfl, rfl, rfl, rfl, rfl⟩ rfl rfl rfl rfl rfl (by kernel_rfl) Tryz.func3 (by kernel_rfl)
    (of_decide_eq_true (by kernel_rfl)) (by unfold Func.isWrapper; first | (rw [if_pos (by decide +kernel)]; kernel_rfl) | (rw [if_neg (by decide +kernel)]; exact ⟨rfl, rfl⟩))
    (fun os started H enc _ => fnSigns_lifted os started H enc)

theorem fnSigns_holds : Rows.FnSignsCardSaid :=
  Claim7.holds_tied_plain_at .later [] Rows.fnSignsCard.laidKinds true Rows.fnSignsCard.stood.harness true
    fnSigns_row_holds (fun _ h => by cases h) (by kernel_rfl) (fun _ h => by cases h) fnSigns_row_tie rfl ⟨rfl, rfl⟩ (by kernel_rfl) rfl
    (fun f fn hf hfn => by
      obtain rfl : f = 3 := Option.some.inj ((show Tryz.prog.funcNamed "loop.example/g00864/laws.FnSigns" = some 3 by kernel_rfl).symm.trans hf) |>.symm
      obtain rfl : fn = Tryz.f3 := (Option.some.inj (Tryz.func3.symm.trans hfn)).symm
      exact ⟨by kernel_rfl, fun j t ht => by
        rw [Tryz.params3] at ht
        have hm : t ∈ [22, 22] := by simpa using Array.mem_of_getElem? ht
        have hall : ([22, 22].all fun u => !Tryz.prog.wantsStandIn u) = true := by kernel_rfl
        exact (show Tryz.prog.wantsStandIn t = false by simpa using List.all_eq_true.1 hall t hm)⟩)
    (by kernel_rfl)

end Go.Proofs.YtgpocbhlcmohmaaGreatDoor
