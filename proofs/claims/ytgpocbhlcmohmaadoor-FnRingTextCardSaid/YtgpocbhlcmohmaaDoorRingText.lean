/- FnRingText is proved: for all drawn numbers and texts, parsing inverts formatting. No conditions. -/
import Derived.Test.YtgpocbhlcmohmaaDoorOpenB
import Derived.Test.YtgpocbhlcmohmaaDoorDrwP
import Derived.Test.YtgpocbhlcmohmaaDoorParL
import Derived.Test.YtgpocbhlcmohmaaDoorFmtR
import Derived.Test.YtgpocbhlcmohmaaDoorFrameL
import Derived.Test.YtgpocbhlcmohmaaDoorTie
import Derived.Test.YtgpocbhlcmohmaaDoorCards
import Derived.Stop.LaidErr
import Derived.ChangeMaps
import Derived.Lay
import Derived.Laws.StructEq
import Derived.Deep.DeepCutAuto
namespace Go.Proofs.YtgpocbhlcmohmaaDoor
open Go.RowKit Go.WideShapes Go.ChangeShapes Go.ChangeAt

theorem errStar : "*" ++ "errors.errorString" = "*errors.errorString" := by decide
theorem errRow (u : TypeId) (h : Tryd.prog.typeName? 3 u = some "*errors.errorString") : u = 156 :=
  typeName_ptr_named (nm := "errors.errorString") (by rw [errStar]; kernel_rfl) (by kernel_rfl) (by decide) u (by rw [errStar]; exact h)

theorem Tryd.stoodRingT : Tryd.prog.stoodInHeld 23 = false := by kernel_rfl
theorem Tryd.guardRingT : Tryd.prog.eqGuardType Tryd.prog.depth 23 = false := by kernel_rfl
theorem run_neR_same (a b c d : Int) (w : World) : (binOp .neq 23 (rv a b c d) (rv a b c d)).run Tryd.prog w = .ok (.bool false) w := by
  rw [run_neq_struct, run_equalIn_agg w 9999 23 _ _ (by kernel_rfl) Tryd.stoodRingT]
  simp only [Program.fieldsOf, Tryd.underlying23]
  simp [go_sem]
theorem run_gdRT (op : BinOp) (t : TypeId) (x y : Operand) (xs ys : Array Value) (w : World) (ht : t = 23) : (eqGuard op t x y (.agg xs) (.agg ys)).run Tryd.prog w = .ok () w := by
  subst ht
  exact run_eqGuard_agg w op _ x y xs ys Tryd.guardRingT
theorem prRes_txt {a b c d : Int} (h : rOk a b c d = true) : prRes (txt4 a b c d) = .tuple #[rv a b c d, .bool true] := by
  have hb := rOk_bd h
  rw [prRes_four (pcsB_txt4 a b c d), par_itB rfl hb.1, par_itB rfl hb.2.1, par_itB rfl hb.2.2.1, par_itB rfl hb.2.2.2]
  simp [okR, h, rI_t]
theorem prRes_true {s : ByteArray} {a b c d : Int} (h : prRes s = .tuple #[rv a b c d, .bool true]) : rOk a b c d = true ∧ txt4 a b c d = s := by
  rcases four_or s with ⟨x0, x1, x2, x3, hp⟩ | hp
  · rw [prRes_four hp] at h
    rcases hk : okR (parN x0.data.toList) (parN x1.data.toList) (parN x2.data.toList) (parN x3.data.toList) with _ | _
    · rw [hk] at h
      simp at h
    · obtain ⟨a', b', c', d', h0, h1, h2, h3, hr⟩ := okR_some hk
      rw [hk, h0, h1, h2, h3] at h
      simp [rv, rI_t] at h
      obtain ⟨rfl, rfl, rfl, rfl⟩ := h
      exact ⟨hr, txt4_of hp h0 h1 h2 h3⟩
  · rw [prRes_len hp] at h
    simp at h
theorem txt4_sz {a b c d : Int} (h : rOk a b c d = true) : (txt4 a b c d).size ≤ 100 := by
  have hb := rOk_bd h
  have z1 := itB_size (n := a) (by omega) (by omega)
  have z2 := itB_size (n := b) (by omega) (by omega)
  have z3 := itB_size (n := c) (by omega) (by omega)
  have z4 := itB_size (n := d) (by omega) (by omega)
  have hbl : blk.size = 1 := rfl
  simp only [txt4, ByteArray.size_append]
  omega

set_option maxRecDepth 100000 in
set_option maxHeartbeats 4000000 in
theorem fnRingText_any (A0 : Option Addr) (m0 p0 : Nat) (A1 : Option Addr) (m1 p1 : Nat) (w : World) (hl0 : m0 ≤ maxLen) (hb0 : ByteAt w A0 m0) (_hl1 : m1 ≤ maxLen) (hb1 : ByteAt w A1 m1) (hM : Hid (MaxL w)) (hv : Hid (ParV w)) :
    Calls Tryd.prog 4 #[.slice A0 m0 p0, .slice A1 m1 p1] w fun e w' => e = .returned (.bool true) ∧ Below w.heap.size w w' := by
  have heq := fun (a b c d : Int) (W : World) => run_neR_same a b c d W
  have hgd := fun (x y : Operand) (xs ys : Array Value) (W : World) => run_gdRT .neq 23 x y xs ys W rfl
  have C0 := Lib.hid hb0
  have C1 := Lib.hid hb1
  clear hb0 hb1
  go_enter Tryd.func4, Tryd.ntmps4
  go_wp2_with fail
  refine (big_any _ _ _ _ _ _ _ hl0).mono ?_
  rintro e w' ⟨k, rfl, rfl⟩
  cases k
  case true =>
    go_wp2
    go_ret
    exact ⟨rfl, Below.refl _ _⟩
  go_wp2_with fail
  refine (drawFmtR_any A0 m0 p0 _ C0).mono ?_
  rintro e w1 ⟨a, b, c, d, rfl, b1⟩
  go_upto_region 4 with fail
  generalize hW1 : w1.alloc (.cells #[.int .i64 a, .int .i64 b, .int .i64 c, .int .i64 d] 23) = W1
  have Q1 : W1.heap[w1.heap.size]? = some (.cells #[.int .i64 a, .int .i64 b, .int .i64 c, .int .i64 d] 23 (0, 0)) := by rw [← hW1]; exact heap_top _ _ rfl
  have B1 : Below w.heap.size w W1 := by rw [← hW1]; exact Below.alloc b1 b1.size _
  have y1 : w1.heap.size < W1.heap.size := by rw [← hW1]; go_size
  clear hW1 b1
  have HT1 := Lib.hid (hv.out.tab.below B1)
  have q1 := fun o => cell_of_row W1 w1.heap.size o _ _ _ Q1
  rcases hr : rOk a b c d with _ | _
  · have Hf : Hid (frRes a b c d = .tuple #[.string ⟨#[]⟩, .bool false]) := by show _ = _; simp [frRes, hr]
    go_wp2_with fail
    refine (implFmtR_any a b c d _ HT1).mono ?_
    rintro e w2 ⟨rfl, b2⟩
    rw [Hf.out]
    have B2 : Below w.heap.size w w2 := B1.trans (b2.mono B1.size)
    clear b2 Q1 q1
    go_wp2_with fail
    refine (drawParR_any A1 m1 p1 _ (C1.out.below B2 (Nat.le_refl _))).mono ?_
    rintro e w5 ⟨t, rfl, htz, b5⟩
    have B5 : Below w.heap.size w w5 := B2.trans (b5.mono B2.size)
    obtain ⟨a2, b2, c2, d2, ok2, hf2⟩ := prRes_form t
    have Hf2 := Lib.hid hf2
    have Htz := Lib.hid htz
    clear hf2 b5 htz
    go_wp2_with fail
    refine (implParR_any t _ (by have := Htz.out; omega) (hM.out.below B5) (hv.out.below B5)).mono ?_
    rintro e w6 ⟨rfl, b6⟩
    rw [Hf2.out]
    have B6 : Below w.heap.size w w6 := B5.trans (b6.mono B5.size)
    clear b6
    go_upto_region 11 with fail
    generalize hW6 : w6.alloc (.cells #[.int .i64 a2, .int .i64 b2, .int .i64 c2, .int .i64 d2] 23) = W6
    have Q6 : W6.heap[w6.heap.size]? = some (.cells #[.int .i64 a2, .int .i64 b2, .int .i64 c2, .int .i64 d2] 23 (0, 0)) := by rw [← hW6]; exact heap_top _ _ rfl
    have B6' : Below w.heap.size w W6 := by rw [← hW6]; exact Below.alloc B6 B6.size _
    have y6 : w6.heap.size < W6.heap.size := by rw [← hW6]; go_size
    clear hW6
    go_wp2_with fail
    refine (specParR_any t _ (by have := Htz.out; omega)).mono ?_
    rintro e w7 ⟨rfl, b7⟩
    rw [Hf2.out]
    have B7 : Below w.heap.size w w7 := B6'.trans (b7.mono B6'.size)
    have Q7 := (b7.block w6.heap.size y6).trans Q6
    have y7 := Nat.lt_of_lt_of_le y6 b7.size
    clear b7 Q6
    go_upto_region 12 with fail
    generalize hW7 : w7.alloc (.cells #[.int .i64 a2, .int .i64 b2, .int .i64 c2, .int .i64 d2] 23) = W7
    have Q8 : W7.heap[w7.heap.size]? = some (.cells #[.int .i64 a2, .int .i64 b2, .int .i64 c2, .int .i64 d2] 23 (0, 0)) := by rw [← hW7]; exact heap_top _ _ rfl
    have Q9 : W7.heap[w6.heap.size]? = some (.cells #[.int .i64 a2, .int .i64 b2, .int .i64 c2, .int .i64 d2] 23 (0, 0)) := by rw [← hW7]; exact (Below.heap_alloc _ _ _ y7).trans Q7
    have B8 : Below w.heap.size w W7 := by rw [← hW7]; exact Below.alloc B7 B7.size _
    have y8 : w6.heap.size < W7.heap.size := by rw [← hW7]; go_size
    have y9 : w7.heap.size < W7.heap.size := by rw [← hW7]; go_size
    have c8 := fun o => cell_of_row W7 w7.heap.size o _ _ _ Q8
    have c9 := fun o => cell_of_row W7 w6.heap.size o _ _ _ Q9
    clear hW7 Q7 Q8 Q9
    rcases ok2 with _ | _
    · go_wp2
      go_ret
      exact ⟨rfl, B8⟩
    · obtain ⟨hr2, ht2⟩ := prRes_true Hf2.out
      have Hg : Hid (frRes a2 b2 c2 d2 = .tuple #[.string t, .bool true]) := by show _ = _; rw [frRes, hr2, ← ht2]; rfl
      have HT := Lib.hid (hv.out.tab.below B8)
      clear hr2 ht2
      go_wp2_with fail
      refine (implFmtR_any a2 b2 c2 d2 _ HT).mono ?_
      rintro e w8 ⟨rfl, b8⟩
      rw [Hg.out]
      have B9 : Below w.heap.size w w8 := B8.trans (b8.mono B8.size)
      clear b8
      go_wp2
      go_ret
      exact ⟨by first | rfl | simp, B9⟩
  · obtain ⟨s, hs⟩ : ∃ s, s = txt4 a b c d := ⟨_, rfl⟩
    have Hf : Hid (frRes a b c d = .tuple #[.string s, .bool true]) := by show _ = _; simp [frRes, hr, hs]
    have Hp : Hid (prRes s = .tuple #[rv a b c d, .bool true]) := by show _ = _; rw [hs]; exact prRes_txt hr
    have hsz : s.size ≤ 100 := by rw [hs]; exact txt4_sz hr
    clear hs hr
    go_wp2_with fail
    refine (implFmtR_any a b c d _ HT1).mono ?_
    rintro e w2 ⟨rfl, b2⟩
    rw [Hf.out]
    have B2 : Below w.heap.size w w2 := B1.trans (b2.mono B1.size)
    have Q2 := (b2.block w1.heap.size y1).trans Q1
    have y2 := Nat.lt_of_lt_of_le y1 b2.size
    clear b2 Q1 q1
    go_wp2_with fail
    refine (implParR_any s _ (by omega) (hM.out.below B2) (hv.out.below B2)).mono ?_
    rintro e w3 ⟨rfl, b3⟩
    rw [Hp.out]
    have B3 : Below w.heap.size w w3 := B2.trans (b3.mono B2.size)
    have Q3 := (b3.block w1.heap.size y2).trans Q2
    have y3 := Nat.lt_of_lt_of_le y2 b3.size
    clear b3 Q2
    go_upto_region 7 with fail
    generalize hW3 : w3.alloc (.cells #[.int .i64 a, .int .i64 b, .int .i64 c, .int .i64 d] 23) = W3
    have Q4 : W3.heap[w3.heap.size]? = some (.cells #[.int .i64 a, .int .i64 b, .int .i64 c, .int .i64 d] 23 (0, 0)) := by rw [← hW3]; exact heap_top _ _ rfl
    have Q5 : W3.heap[w1.heap.size]? = some (.cells #[.int .i64 a, .int .i64 b, .int .i64 c, .int .i64 d] 23 (0, 0)) := by rw [← hW3]; exact (Below.heap_alloc _ _ _ y3).trans Q3
    have B4 : Below w.heap.size w W3 := by rw [← hW3]; exact Below.alloc B3 B3.size _
    have y4 : w1.heap.size < W3.heap.size := by rw [← hW3]; go_size
    have y5 : w3.heap.size < W3.heap.size := by rw [← hW3]; go_size
    have c4 := fun o => cell_of_row W3 w3.heap.size o _ _ _ Q4
    have c5 := fun o => cell_of_row W3 w1.heap.size o _ _ _ Q5
    clear hW3 Q3 Q4 Q5
    go_wp2_with fail
    refine (drawParR_any A1 m1 p1 _ (C1.out.below B4 (Nat.le_refl _))).mono ?_
    rintro e w5 ⟨t, rfl, htz, b5⟩
    have B5 : Below w.heap.size w w5 := B4.trans (b5.mono B4.size)
    obtain ⟨a2, b2, c2, d2, ok2, hf2⟩ := prRes_form t
    have Hf2 := Lib.hid hf2
    have Htz := Lib.hid htz
    clear hf2 b5 htz
    go_wp2_with fail
    refine (implParR_any t _ (by have := Htz.out; omega) (hM.out.below B5) (hv.out.below B5)).mono ?_
    rintro e w6 ⟨rfl, b6⟩
    rw [Hf2.out]
    have B6 : Below w.heap.size w w6 := B5.trans (b6.mono B5.size)
    clear b6
    go_upto_region 11 with fail
    generalize hW6 : w6.alloc (.cells #[.int .i64 a2, .int .i64 b2, .int .i64 c2, .int .i64 d2] 23) = W6
    have Q6 : W6.heap[w6.heap.size]? = some (.cells #[.int .i64 a2, .int .i64 b2, .int .i64 c2, .int .i64 d2] 23 (0, 0)) := by rw [← hW6]; exact heap_top _ _ rfl
    have B6' : Below w.heap.size w W6 := by rw [← hW6]; exact Below.alloc B6 B6.size _
    have y6 : w6.heap.size < W6.heap.size := by rw [← hW6]; go_size
    clear hW6
    go_wp2_with fail
    refine (specParR_any t _ (by have := Htz.out; omega)).mono ?_
    rintro e w7 ⟨rfl, b7⟩
    rw [Hf2.out]
    have B7 : Below w.heap.size w w7 := B6'.trans (b7.mono B6'.size)
    have Q7 := (b7.block w6.heap.size y6).trans Q6
    have y7 := Nat.lt_of_lt_of_le y6 b7.size
    clear b7 Q6
    go_upto_region 12 with fail
    generalize hW7 : w7.alloc (.cells #[.int .i64 a2, .int .i64 b2, .int .i64 c2, .int .i64 d2] 23) = W7
    have Q8 : W7.heap[w7.heap.size]? = some (.cells #[.int .i64 a2, .int .i64 b2, .int .i64 c2, .int .i64 d2] 23 (0, 0)) := by rw [← hW7]; exact heap_top _ _ rfl
    have Q9 : W7.heap[w6.heap.size]? = some (.cells #[.int .i64 a2, .int .i64 b2, .int .i64 c2, .int .i64 d2] 23 (0, 0)) := by rw [← hW7]; exact (Below.heap_alloc _ _ _ y7).trans Q7
    have B8 : Below w.heap.size w W7 := by rw [← hW7]; exact Below.alloc B7 B7.size _
    have y8 : w6.heap.size < W7.heap.size := by rw [← hW7]; go_size
    have y9 : w7.heap.size < W7.heap.size := by rw [← hW7]; go_size
    have c8 := fun o => cell_of_row W7 w7.heap.size o _ _ _ Q8
    have c9 := fun o => cell_of_row W7 w6.heap.size o _ _ _ Q9
    clear hW7 Q7 Q8 Q9
    rcases ok2 with _ | _
    · go_wp2
      go_ret
      exact ⟨rfl, B8⟩
    · obtain ⟨hr2, ht2⟩ := prRes_true Hf2.out
      have Hg : Hid (frRes a2 b2 c2 d2 = .tuple #[.string t, .bool true]) := by show _ = _; rw [frRes, hr2, ← ht2]; rfl
      have HT := Lib.hid (hv.out.tab.below B8)
      clear hr2 ht2
      go_wp2_with fail
      refine (implFmtR_any a2 b2 c2 d2 _ HT).mono ?_
      rintro e w8 ⟨rfl, b8⟩
      rw [Hg.out]
      have B9 : Below w.heap.size w w8 := B8.trans (b8.mono B8.size)
      clear b8
      go_wp2
      go_ret
      exact ⟨by first | rfl | simp, B9⟩


set_option maxRecDepth 100000 in
theorem fnRingText_lifted (os : Os) (started : os.Started) (H : Type) (enc : TypeId × Value → H) :
    ReturnsInHanded {} Tryd.checked os 4 .any (fun w args => (Rows.fnRingTextSpec.pre enc Tryd.prog Tryd.f4 Rows.fnRingTextRow.domain false w args ∧ laidMetH Tryd.prog Rows.fnRingTextRow.laid w) ∧ sizedMet enc Tryd.prog Tryd.f4 (OpenSpec.ofChange Rows.fnRingTextSpec) false w args) (Rows.fnRingTextSpec.post enc Tryd.prog Tryd.f4 false true false false) := by
  refine law_laid (C := Tryd.checked) (tb := 4) (L := Rows.fnRingTextRow.laid) Tryd.own started (by kernel_rfl) Tryd.func4
    (ChangeSpec.witness_shaped (enc := enc) (C := Tryd.checked) (os := os) (X := fun w _ => laidMetH Tryd.prog Rows.fnRingTextRow.laid w) false (World.laidAll Tryd.prog os Rows.fnRingTextRow.laid) #[.slice none 0 0, .slice none 0 0] 8 (World.laidAll_os _ _ _) (World.shaped_of_ZipB (by kernel_rfl) (by kernel_rfl)) (by kernel_rfl) (by kernel_rfl) (by kernel_rfl)
      (by rw [MakeChecks.laidMetH_plain _ _ _ (by kernel_rfl)]; exact laidMet_laidAll _ (by kernel_rfl) (by kernel_rfl)))
    Tryd.laidOut (by kernel_rfl) (by kernel_rfl) rfl Tryd.underlying4 (fun es gs he hg => ?_) ?_
  · match es, gs, he, hg with
    | [_, _], [], _, _ => rfl
  · intro W base args ds gs p hval0 hA hwt hsh hL hblk
    have hval : ∀ (j : Nat) t v, Tryd.f4.params[j]? = some t → args[j]? = some v → Value.okWide Tryd.prog W .any base t v := hval0
    have hA' : DataW.TrodAll enc Tryd.prog W 0 (fun _ => true) true Tryd.f4.params.toList args.toList ds p := hA
    rw [Tryd.params4] at hA' hval
    obtain ⟨v0, v1, d0, d1, p0, p1, rfl, rfl, rfl, h0, h1⟩ := trodAll_two hA'
    obtain ⟨A0, m0, p0, rfl, hl0, hb0⟩ := open_bytes Tryd.underlying30 Tryd.underlying5 Tryd.cellsU8 (hval 0 30 v0 rfl rfl) h0
    obtain ⟨A1, m1, p1, rfl, hl1, hb1⟩ := open_bytes Tryd.underlying30 Tryd.underlying5 Tryd.cellsU8 (hval 1 30 v1 rfl rfl) h1
    have hL' := hL
    rw [MakeChecks.laidMetH_plain _ _ _ (by kernel_rfl)] at hL'
    have ht : Hid (TabP W) := Lib.tabIs_of_head (name := "internal/strconv.uint64pow10") (k := .u64) (zs := Lib.pow10Tab) (g := 4) (by kernel_rfl) (by kernel_rfl) Tryd.underlying152 Tryd.underlying79 (by kernel_rfl) (by kernel_rfl) (laidMet.tail (laidMet.tail hL'))
    have hE1 : SentAt W 3 := by
      obtain ⟨a0, s0, hv0, -, -, -⟩ := laid_sentinel (laidMet.tail (laidMet.tail (laidMet.tail (laidMet.tail hL')))) (g := 3) (ti := 101) (tp := 156) (te := 158) (ts := 9) (by kernel_rfl) (by kernel_rfl) Tryd.underlying101 errRow Tryd.underlying156 Tryd.underlying158 rfl rfl Tryd.underlying9 (by kernel_rfl) (by kernel_rfl)
      exact ⟨_, by have h0 := World.var?_cell (show Tryd.prog.globalNamed "strconv.ErrRange" = some 3 by kernel_rfl) hv0 0; simpa using h0, Or.inr ⟨_, _, rfl⟩⟩
    have hE2 : SentAt W 2 := by
      obtain ⟨a0, s0, hv0, -, -, -⟩ := laid_sentinel (laidMet.tail (laidMet.tail (laidMet.tail (laidMet.tail (laidMet.tail hL'))))) (g := 2) (ti := 101) (tp := 156) (te := 158) (ts := 9) (by kernel_rfl) (by kernel_rfl) Tryd.underlying101 errRow Tryd.underlying156 Tryd.underlying158 rfl rfl Tryd.underlying9 (by kernel_rfl) (by kernel_rfl)
      exact ⟨_, by have h0 := World.var?_cell (show Tryd.prog.globalNamed "strconv.ErrSyntax" = some 2 by kernel_rfl) hv0 0; simpa using h0, Or.inr ⟨_, _, rfl⟩⟩
    have hv : Hid (ParV W) := ⟨ht.out, hE2, hE1⟩
    have hM : Hid (MaxL W) := MaxL.of_shaped hsh
    exact fnRingText_any A0 m0 p0 A1 m1 p1 W hl0 hb0 hl1 hb1 hM hv

theorem fnRingText_row_holds : Rows.FnRingTextSaid :=
  OpenClaim.holds_of_wide 4 Tryd.f4 rfl rfl rfl rfl rfl rfl rfl ⟨rfl, rfl, rfl, rfl, rfl⟩ rfl rfl rfl rfl rfl (by kernel_rfl) Tryd.func4 (by kernel_rfl)
    (of_decide_eq_true (by kernel_rfl)) (by unfold Func.isWrapper; first | (rw [if_pos (by decide +kernel)]; kernel_rfl) | (rw [if_neg (by decide +kernel)]; exact ⟨rfl, rfl⟩))
    (fun os started H enc _ => fnRingText_lifted os started H enc)

theorem fnRingText_holds : Rows.FnRingTextCardSaid :=
  Claim7.holds_tied_plain_at .later [] Rows.fnRingTextCard.laidKinds true Rows.fnRingTextCard.stood.harness true
    fnRingText_row_holds (fun _ h => by cases h) (by kernel_rfl) (fun _ h => by cases h) fnRingText_row_tie rfl ⟨rfl, rfl⟩ (by kernel_rfl) rfl
    (fun f fn hf hfn => by
      obtain rfl : f = 4 := Option.some.inj ((show Tryd.prog.funcNamed "loop.example/g00864/laws.FnRingText" = some 4 by kernel_rfl).symm.trans hf) |>.symm
      obtain rfl : fn = Tryd.f4 := (Option.some.inj (Tryd.func4.symm.trans hfn)).symm
      exact ⟨by kernel_rfl, fun j t ht => by
        rw [Tryd.params4] at ht
        have hm : t ∈ [30, 30] := by simpa using Array.mem_of_getElem? ht
        have hall : ([30, 30].all fun u => !Tryd.prog.wantsStandIn u) = true := by kernel_rfl
        exact (show Tryd.prog.wantsStandIn t = false by simpa using List.all_eq_true.1 hall t hm)⟩)
    (by kernel_rfl)

end Go.Proofs.YtgpocbhlcmohmaaDoor
