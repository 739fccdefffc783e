/- FnCircuits is proved: for all drawn circuits, inverses and concatenations have the expected counts, and renaming qubits preserves them. No conditions. -/
import Derived.Test.YtlihnipbdckmkaaFrame
import Derived.Test.YtlihnipbdckmkaaOpenB
import Derived.Test.YtlihnipbdckmkaaDrwH
import Derived.Test.YtlihnipbdckmkaaDrwG
import Derived.Test.YtlihnipbdckmkaaResC
import Derived.Test.YtlihnipbdckmkaaMapM
import Derived.Test.YtlihnipbdckmkaaEqC
import Derived.Deep.DeepCutAuto
namespace Go.Proofs.Ytlihnipbdckmkaa
open Go.RowKit Go.WideShapes Go.ChangeShapes Go.ChangeAt

set_option maxHeartbeats 2000000 in
theorem specValidC_any (q : Int) (A : Option Addr) (cap : Nat) (xs : List G3) (w : World) (hn : xs.length ≤ 1048576) (hx : Hid (FlatAt w A (flatG xs))) :
    Calls Try.prog 20 #[cv q A xs.length cap] w fun e w' => e = .returned (.bool (cOk q xs)) ∧ Below w.heap.size w w' := by
  go_enter Try.func20, Try.ntmps20
  go_wp2_with fail
  refine (l4Good_any q A cap xs _ (by omega) (hx.out.alloc _)).mono ?_
  rintro e w1 ⟨rfl, b1⟩
  obtain ⟨b1c, b1f⟩ := bcell b1
  have z1 := b1.size
  try simp only [World.size_alloc] at z1
  have B1 : Below w.heap.size w w1 := Below.chain (Below.refl _ _) (by go_grown) b1 (by go_size)
  have y10 : w.heap.size < w1.heap.size := by omega
  go_wp2
  go_ret
  refine ⟨rfl, ?_⟩
  go_grown

theorem ceq_same (q : Int) (xs : List G3) : ceqB q xs q xs = true := by simp [ceqB, eqGs]
theorem cntG_app (p : Int → Bool) (xs ys : List G3) : cntG p (xs ++ ys) = cntG p xs + cntG p ys := by
  unfold cntG
  rw [List.filter_append, List.length_append]
theorem cntG_inv (p : Int → Bool) (hp : ∀ k, p (invK k) = p k) (h12 : p 12 = false) : ∀ xs : List G3, cntG p (invL xs) = cntG p xs
  | [] => rfl
  | x :: xs => by
    have ih := cntG_inv p hp h12 xs
    have e : cntG p (List.replicate (invT x) (invG x)) = cntG p [x] := by
      by_cases hk : x.1 = 12
      · have h1 : p x.1 = false := by rw [hk]; exact h12
        have h2 : p (invG x).1 = false := by show p (invK x.1) = false; rw [hp]; exact h1
        simp [cntG, invT, h2, hk, h12]
      · have h2 : p (invG x).1 = p x.1 := hp x.1
        rcases h1 : p x.1 with _ | _
        · rw [h1] at h2
          simp [cntG, invT, hk, h1, h2]
        · rw [h1] at h2
          simp [cntG, invT, hk, h1, h2]
    rw [invL_cons, cntG_app, ih, e]
    have : x :: xs = [x] ++ xs := rfl
    rw [this, cntG_app]
    omega
theorem inB_inv_T (k : Int) : inB (invK k) 7 8 = inB k 7 8 := by
  by_cases h5 : k = 5
  · subst h5; rfl
  by_cases h6 : k = 6
  · subst h6; rfl
  by_cases h7 : k = 7
  · subst h7; rfl
  by_cases h8 : k = 8
  · subst h8; rfl
  have e : invK k = k := by simp [invK, h5, h6, h7, h8]
  rw [e]
theorem inB_inv_two (k : Int) : inB (invK k) 9 11 = inB k 9 11 := by
  by_cases h5 : k = 5
  · subst h5; rfl
  by_cases h6 : k = 6
  · subst h6; rfl
  by_cases h7 : k = 7
  · subst h7; rfl
  by_cases h8 : k = 8
  · subst h8; rfl
  have e : invK k = k := by simp [invK, h5, h6, h7, h8]
  rw [e]
/-- what the law compares of a concatenation -/
theorem cat_counts {q p qC : Int} {xs ys zs : List G3} (h : true = catOk q xs p ys) (hq0 : qC = rI (catOk q xs p ys) q) (hz0 : zs = if catOk q xs p ys then xs ++ ys else []) :
    ∃ X Y : Nat, cntRes (fun k => inB k 7 8) q xs = .tuple #[.int .i64 (X : Int), .bool true] ∧ cntRes (fun k => inB k 7 8) p ys = .tuple #[.int .i64 (Y : Int), .bool true] ∧
      cntRes (fun k => inB k 7 8) qC zs = .tuple #[.int .i64 ((X : Int) + (Y : Int)), .bool true] ∧ IntKind.wrap .i64 ((X : Int) + (Y : Int)) = (X : Int) + (Y : Int) ∧ RowKit.wrap64 ((X : Int) + (Y : Int)) = (X : Int) + (Y : Int) := by
  have hq' : qC = q := by rw [hq0, ← h]; rfl
  have hz : zs = xs ++ ys := by rw [hz0, if_pos h.symm]
  have h0 := h.symm
  unfold catOk at h0
  rw [Bool.and_eq_true, Bool.and_eq_true, Bool.and_eq_true] at h0
  obtain ⟨⟨⟨h1, h2⟩, h3⟩, h4⟩ := h0
  clear hq0 hz0
  obtain rfl : q = p := by simpa using h3
  subst hz hq'
  have h5 : cOk qC (xs ++ ys) = true := by rw [cOk_cat h1 h2]; exact h.symm
  have l1 := cOk_len h1
  have l2 := cOk_len h2
  have c1 := cntG_le (fun k => inB k 7 8) xs
  have c2 := cntG_le (fun k => inB k 7 8) ys
  refine ⟨cntG (fun k => inB k 7 8) xs, cntG (fun k => inB k 7 8) ys, by simp [cntRes, h1, rI_t], by simp [cntRes, h2, rI_t], by simp [cntRes, h5, rI_t, cntG_app], IntWalk.i64_in _ (by omega), IntWalk.wrap64_in _ (by omega)⟩
/-- what it compares of an inverse -/
theorem inv_counts {r rE : Int} {vs es : List G3} (h : true = invOk r vs) (hr : rE = rI (invOk r vs) r) (he0 : es = if invOk r vs then invL vs else []) :
    ∃ X Y : Nat, cntRes (fun k => inB k 7 8) r vs = .tuple #[.int .i64 (X : Int), .bool true] ∧ cntRes (fun k => inB k 7 8) rE es = .tuple #[.int .i64 (X : Int), .bool true] ∧
      cntRes (fun k => inB k 9 11) r vs = .tuple #[.int .i64 (Y : Int), .bool true] ∧ cntRes (fun k => inB k 9 11) rE es = .tuple #[.int .i64 (Y : Int), .bool true] ∧ cOk rE es = true := by
  have h0 := h.symm
  have h1 : cOk r vs = true := by
    unfold invOk at h0
    rw [Bool.and_eq_true] at h0
    exact h0.1
  have he : es = invL vs := by rw [he0, if_pos h0]
  have hr' : rE = r := by rw [hr, h0]; rfl
  clear hr he0
  subst he hr'
  have h2 : cOk rE (invL vs) = true := by rw [invOk_of h1]; exact h0
  refine ⟨cntG (fun k => inB k 7 8) vs, cntG (fun k => inB k 9 11) vs, by simp [cntRes, h1, rI_t], ?_, by simp [cntRes, h1, rI_t], ?_, h2⟩
  · simp [cntRes, h2, rI_t, cntG_inv (fun k => inB k 7 8) inB_inv_T rfl]
  · simp [cntRes, h2, rI_t, cntG_inv (fun k => inB k 9 11) inB_inv_two rfl]

set_option maxRecDepth 100000 in
set_option maxHeartbeats 16000000 in
theorem fnCircuits_any (A0 : Option Addr) (m0 p0 : Nat) (A1 : Option Addr) (m1 p1 : Nat) (w : World) (hl0 : m0 ≤ maxLen) (hb0 : ByteAt w A0 m0) (_hl1 : m1 ≤ maxLen) (hb1 : ByteAt w A1 m1) :
    Calls Try.prog 4 #[.slice A0 m0 p0, .slice A1 m1 p1] w fun e w' => e = .returned (.bool true) ∧ Below w.heap.size w w' := by
  have C0 := Lib.hid hb0
  have C1 := Lib.hid hb1
  clear hb0 hb1
  have B : Below w.heap.size w w := Below.refl _ _
  go_enter Try.func4, Try.ntmps4
  go_wp2_with fail
  refine (big_any _ _ _ _ _ _ _ hl0).mono ?_
  rintro e w' ⟨k, rfl, rfl⟩
  cases k
  case true =>
    go_wp2
    go_ret
    exact ⟨rfl, B⟩
  go_wp2_with fail
  refine (drawCat_any A0 m0 p0 _ C0).mono ?_
  rintro e w1 ⟨q, Aa, ca, xs, p, Ab, cb, ys, rfl, hxl, hyl, hfa, hfb, bw1⟩
  have FA := Lib.hid hfa.at
  clear hfa
  have FB := Lib.hid hfb.at
  clear hfb
  replace B := B.trans (bw1.mono B.size)
  replace C0 := Lib.hid (C0.out.below bw1 (Nat.le_refl _))
  replace C1 := Lib.hid (C1.out.below bw1 (Nat.le_refl _))
  clear bw1
  go_upto_region 4 with fail
  generalize hW : (w1.alloc (.cells #[.int .i64 q, .slice Aa xs.length ca] 38)).alloc (.cells #[.int .i64 p, .slice Ab ys.length cb] 38) = V2
  have bV2 : Below w1.heap.size w1 V2 := by rw [← hW]; clear hW; go_grown
  have LA : Hid (LocC V2 (w1.heap.size) q Aa xs.length ca) := by rw [← hW]; exact LocC.of_row ((Below.heap_alloc _ _ _ (by go_size)).trans (heap_top _ _ rfl))
  have LB : Hid (LocC V2 (w1.heap.size + 1) p Ab ys.length cb) := by rw [← hW]; exact LocC.of_row (heap_top _ _ (by simp))
  clear hW
  replace B := B.trans (bV2.mono B.size)
  replace FA := Lib.hid (FA.out.below bV2)
  replace FB := Lib.hid (FB.out.below bV2)
  replace C0 := Lib.hid (C0.out.below bV2 (Nat.le_refl _))
  replace C1 := Lib.hid (C1.out.below bV2 (Nat.le_refl _))
  clear bV2
  obtain ⟨LAl, LA0, LA1⟩ := LA.out
  obtain ⟨LBl, LB0, LB1⟩ := LB.out
  go_wp2_with fail
  refine (implCat_any q Aa ca xs p Ab cb ys _ (by omega) (by omega) FA FB).mono ?_
  rintro e w3 hm
  obtain ⟨AC, cC, qC, zs, rfl, hqC, hzC, hfC, bw3⟩ := hm.form
  clear hm
  have hzl : zs.length ≤ 1048576 := by rw [hzC]; exact catBd _ _ _ _
  obtain ⟨ok, hok⟩ : ∃ ok, ok = catOk q xs p ys := ⟨_, rfl⟩
  rw [← hok]
  have Hok := Lib.hid hok
  have EC := Lib.hid (And.intro hqC hzC)
  clear hok hqC hzC
  clear LAl LA0 LA1
  clear LBl LB0 LB1
  have FC := Lib.hid hfC.at
  clear hfC
  replace B := B.trans (bw3.mono B.size)
  replace LA := Lib.hid (LA.out.call bw3)
  replace LB := Lib.hid (LB.out.call bw3)
  replace FA := Lib.hid (FA.out.below bw3)
  replace FB := Lib.hid (FB.out.below bw3)
  replace C0 := Lib.hid (C0.out.below bw3 (Nat.le_refl _))
  replace C1 := Lib.hid (C1.out.below bw3 (Nat.le_refl _))
  clear bw3
  go_upto_region 5 with fail
  generalize hW : w3.alloc (.cells #[.int .i64 qC, .slice AC zs.length cC] 38) = V4
  have bV4 : Below w3.heap.size w3 V4 := by rw [← hW]; clear hW; go_grown
  have LC : Hid (LocC V4 (w3.heap.size) qC AC zs.length cC) := by rw [← hW]; exact LocC.of_row (heap_top _ _ rfl)
  clear hW
  replace B := B.trans (bV4.mono B.size)
  replace LA := Lib.hid (LA.out.call bV4)
  replace LB := Lib.hid (LB.out.call bV4)
  replace FA := Lib.hid (FA.out.below bV4)
  replace FB := Lib.hid (FB.out.below bV4)
  replace FC := Lib.hid (FC.out.below bV4)
  replace C0 := Lib.hid (C0.out.below bV4 (Nat.le_refl _))
  replace C1 := Lib.hid (C1.out.below bV4 (Nat.le_refl _))
  clear bV4
  obtain ⟨LAl, LA0, LA1⟩ := LA.out
  obtain ⟨LBl, LB0, LB1⟩ := LB.out
  go_wp2_with fail
  refine (specCat_any q Aa ca xs p Ab cb ys _ (by omega) (by omega) FA FB).mono ?_
  rintro e w5 hm
  obtain ⟨AD, cD, qD, us, rfl, hqD, huD, hfD, bw5⟩ := hm.form
  clear hm
  rw [← Hok.out]
  replace hqD := (hqD.trans EC.out.1.symm).symm
  subst hqD
  replace huD := (huD.trans EC.out.2.symm).symm
  subst huD
  clear LAl LA0 LA1
  clear LBl LB0 LB1
  have FD := Lib.hid hfD.at
  clear hfD
  replace B := B.trans (bw5.mono B.size)
  replace LA := Lib.hid (LA.out.call bw5)
  replace LB := Lib.hid (LB.out.call bw5)
  replace LC := Lib.hid (LC.out.call bw5)
  replace FA := Lib.hid (FA.out.below bw5)
  replace FB := Lib.hid (FB.out.below bw5)
  replace FC := Lib.hid (FC.out.below bw5)
  replace C0 := Lib.hid (C0.out.below bw5 (Nat.le_refl _))
  replace C1 := Lib.hid (C1.out.below bw5 (Nat.le_refl _))
  clear bw5
  go_upto_region 6 with fail
  generalize hW : w5.alloc (.cells #[.int .i64 qC, .slice AD zs.length cD] 38) = V6
  have bV6 : Below w5.heap.size w5 V6 := by rw [← hW]; clear hW; go_grown
  have LD : Hid (LocC V6 (w5.heap.size) qC AD zs.length cD) := by rw [← hW]; exact LocC.of_row (heap_top _ _ rfl)
  clear hW
  replace B := B.trans (bV6.mono B.size)
  replace LA := Lib.hid (LA.out.call bV6)
  replace LB := Lib.hid (LB.out.call bV6)
  replace LC := Lib.hid (LC.out.call bV6)
  replace FA := Lib.hid (FA.out.below bV6)
  replace FB := Lib.hid (FB.out.below bV6)
  replace FC := Lib.hid (FC.out.below bV6)
  replace FD := Lib.hid (FD.out.below bV6)
  replace C0 := Lib.hid (C0.out.below bV6 (Nat.le_refl _))
  replace C1 := Lib.hid (C1.out.below bV6 (Nat.le_refl _))
  clear bV6
  cases ok
  · skip
    obtain ⟨LCl, LC0, LC1⟩ := LC.out
    obtain ⟨LDl, LD0, LD1⟩ := LD.out
    go_wp2_with fail
    refine (specEqC_any qC AC cC zs qC AD cD zs _ (by omega) FC FD).mono ?_
    rintro e w7 ⟨rfl, bw7⟩
    rw [ceq_same]
    clear LCl LC0 LC1
    clear LDl LD0 LD1
    replace B := B.trans (bw7.mono B.size)
    replace LA := Lib.hid (LA.out.call bw7)
    replace LB := Lib.hid (LB.out.call bw7)
    replace LC := Lib.hid (LC.out.call bw7)
    replace LD := Lib.hid (LD.out.call bw7)
    replace FA := Lib.hid (FA.out.below bw7)
    replace FB := Lib.hid (FB.out.below bw7)
    replace FC := Lib.hid (FC.out.below bw7)
    replace FD := Lib.hid (FD.out.below bw7)
    replace C0 := Lib.hid (C0.out.below bw7 (Nat.le_refl _))
    replace C1 := Lib.hid (C1.out.below bw7 (Nat.le_refl _))
    clear bw7
    clear LA LB LC LD FA FB FC FD
    go_wp2_with fail
    refine (drawInvC_any A1 m1 p1 _ C1).mono ?_
    rintro e w8 ⟨r, Ad, cd, vs, rfl, hvl, hfd, bw8⟩
    have FV := Lib.hid hfd.at
    clear hfd
    replace B := B.trans (bw8.mono B.size)
    replace C0 := Lib.hid (C0.out.below bw8 (Nat.le_refl _))
    replace C1 := Lib.hid (C1.out.below bw8 (Nat.le_refl _))
    clear bw8
    go_upto_region 15 with fail
    generalize hW : w8.alloc (.cells #[.int .i64 r, .slice Ad vs.length cd] 38) = V9
    have bV9 : Below w8.heap.size w8 V9 := by rw [← hW]; clear hW; go_grown
    have LV : Hid (LocC V9 (w8.heap.size) r Ad vs.length cd) := by rw [← hW]; exact LocC.of_row (heap_top _ _ rfl)
    clear hW
    replace B := B.trans (bV9.mono B.size)
    replace FV := Lib.hid (FV.out.below bV9)
    replace C0 := Lib.hid (C0.out.below bV9 (Nat.le_refl _))
    replace C1 := Lib.hid (C1.out.below bV9 (Nat.le_refl _))
    clear bV9
    obtain ⟨LVl, LV0, LV1⟩ := LV.out
    go_wp2_with fail
    refine (implInvC_any r Ad cd vs _ (by omega) FV).mono ?_
    rintro e w10 hm
    obtain ⟨AE, cE, rE, es, rfl, hrE, hes, hfE, bw10⟩ := hm.form
    clear hm
    have hel : es.length ≤ 1048576 := by rw [hes]; exact invBd _ _
    have EE := Lib.hid (And.intro hrE hes)
    clear hrE hes
    clear LVl LV0 LV1
    have FE := Lib.hid hfE.at
    clear hfE
    replace B := B.trans (bw10.mono B.size)
    replace LV := Lib.hid (LV.out.call bw10)
    replace FV := Lib.hid (FV.out.below bw10)
    replace C0 := Lib.hid (C0.out.below bw10 (Nat.le_refl _))
    replace C1 := Lib.hid (C1.out.below bw10 (Nat.le_refl _))
    clear bw10
    obtain ⟨o1, ho1⟩ : ∃ o1, o1 = invOk r vs := ⟨_, rfl⟩
    rw [← ho1]
    have Ho1 := Lib.hid ho1
    clear ho1
    go_upto_region 16 with fail
    generalize hW : w10.alloc (.cells #[.int .i64 rE, .slice AE es.length cE] 38) = V11
    have bV11 : Below w10.heap.size w10 V11 := by rw [← hW]; clear hW; go_grown
    have LE : Hid (LocC V11 (w10.heap.size) rE AE es.length cE) := by rw [← hW]; exact LocC.of_row (heap_top _ _ rfl)
    clear hW
    replace B := B.trans (bV11.mono B.size)
    replace LV := Lib.hid (LV.out.call bV11)
    replace FV := Lib.hid (FV.out.below bV11)
    replace FE := Lib.hid (FE.out.below bV11)
    replace C0 := Lib.hid (C0.out.below bV11 (Nat.le_refl _))
    replace C1 := Lib.hid (C1.out.below bV11 (Nat.le_refl _))
    clear bV11
    cases o1
    · skip
      go_wp2_with fail
      refine (drawMapQ_any A0 m0 p0 _ C0).mono ?_
      rintro e w12 ⟨f, Af, cf, fs, Tt, ct, ts, n, rfl, hfl, htl, htc, hff, hft, bw12⟩
      have FF := Lib.hid hff.at
      clear hff
      have FT := Lib.hid hft.at
      clear hft
      replace B := B.trans (bw12.mono B.size)
      replace LV := Lib.hid (LV.out.call bw12)
      replace LE := Lib.hid (LE.out.call bw12)
      replace FV := Lib.hid (FV.out.below bw12)
      replace FE := Lib.hid (FE.out.below bw12)
      replace C0 := Lib.hid (C0.out.below bw12 (Nat.le_refl _))
      replace C1 := Lib.hid (C1.out.below bw12 (Nat.le_refl _))
      clear bw12
      go_upto_region 24 with fail
      generalize hW : w12.alloc (.cells #[.int .i64 f, .slice Af fs.length cf] 38) = V13
      have bV13 : Below w12.heap.size w12 V13 := by rw [← hW]; clear hW; go_grown
      have LF : Hid (LocC V13 (w12.heap.size) f Af fs.length cf) := by rw [← hW]; exact LocC.of_row (heap_top _ _ rfl)
      clear hW
      replace B := B.trans (bV13.mono B.size)
      replace LV := Lib.hid (LV.out.call bV13)
      replace LE := Lib.hid (LE.out.call bV13)
      replace FV := Lib.hid (FV.out.below bV13)
      replace FE := Lib.hid (FE.out.below bV13)
      replace FF := Lib.hid (FF.out.below bV13)
      replace FT := Lib.hid (FT.out.below bV13)
      replace C0 := Lib.hid (C0.out.below bV13 (Nat.le_refl _))
      replace C1 := Lib.hid (C1.out.below bV13 (Nat.le_refl _))
      clear bV13
      obtain ⟨LFl, LF0, LF1⟩ := LF.out
      go_wp2_with fail
      refine (implMap_any f Af cf fs Tt ct ts n _ (by omega) (by omega) htc FF FT).mono ?_
      rintro e w14 hm
      obtain ⟨AG, cG, nG, gs, rfl, hnG, hgs, hfG, bw14⟩ := hm.form
      clear hm
      have hgl : gs.length ≤ 1048576 := by rw [hgs]; exact mapBd _ _ _ _
      obtain ⟨o2, ho2⟩ : ∃ o2, o2 = mapOk f fs ts n := ⟨_, rfl⟩
      rw [← ho2]
      have Ho2 := Lib.hid ho2
      have EG := Lib.hid (And.intro hnG hgs)
      clear ho2 hnG hgs
      clear LFl LF0 LF1
      have FG := Lib.hid hfG.at
      clear hfG
      replace B := B.trans (bw14.mono B.size)
      replace LV := Lib.hid (LV.out.call bw14)
      replace LE := Lib.hid (LE.out.call bw14)
      replace LF := Lib.hid (LF.out.call bw14)
      replace FV := Lib.hid (FV.out.below bw14)
      replace FE := Lib.hid (FE.out.below bw14)
      replace FF := Lib.hid (FF.out.below bw14)
      replace FT := Lib.hid (FT.out.below bw14)
      replace C0 := Lib.hid (C0.out.below bw14 (Nat.le_refl _))
      replace C1 := Lib.hid (C1.out.below bw14 (Nat.le_refl _))
      clear bw14
      go_upto_region 25 with fail
      generalize hW : w14.alloc (.cells #[.int .i64 nG, .slice AG gs.length cG] 38) = V15
      have bV15 : Below w14.heap.size w14 V15 := by rw [← hW]; clear hW; go_grown
      have LG : Hid (LocC V15 (w14.heap.size) nG AG gs.length cG) := by rw [← hW]; exact LocC.of_row (heap_top _ _ rfl)
      clear hW
      replace B := B.trans (bV15.mono B.size)
      replace LV := Lib.hid (LV.out.call bV15)
      replace LE := Lib.hid (LE.out.call bV15)
      replace LF := Lib.hid (LF.out.call bV15)
      replace FV := Lib.hid (FV.out.below bV15)
      replace FE := Lib.hid (FE.out.below bV15)
      replace FF := Lib.hid (FF.out.below bV15)
      replace FT := Lib.hid (FT.out.below bV15)
      replace FG := Lib.hid (FG.out.below bV15)
      replace C0 := Lib.hid (C0.out.below bV15 (Nat.le_refl _))
      replace C1 := Lib.hid (C1.out.below bV15 (Nat.le_refl _))
      clear bV15
      obtain ⟨LFl, LF0, LF1⟩ := LF.out
      go_wp2_with fail
      refine (specMap_any f Af cf fs Tt ct ts n _ (by omega) (by omega) htc FF FT).mono ?_
      rintro e w16 hm
      obtain ⟨AH, cH, nH, hs, rfl, hnH, hhs, hfH, bw16⟩ := hm.form
      clear hm
      rw [← Ho2.out]
      replace hnH := (hnH.trans EG.out.1.symm).symm
      subst hnH
      replace hhs := (hhs.trans EG.out.2.symm).symm
      subst hhs
      clear LFl LF0 LF1
      have FH := Lib.hid hfH.at
      clear hfH
      replace B := B.trans (bw16.mono B.size)
      replace LV := Lib.hid (LV.out.call bw16)
      replace LE := Lib.hid (LE.out.call bw16)
      replace LF := Lib.hid (LF.out.call bw16)
      replace LG := Lib.hid (LG.out.call bw16)
      replace FV := Lib.hid (FV.out.below bw16)
      replace FE := Lib.hid (FE.out.below bw16)
      replace FF := Lib.hid (FF.out.below bw16)
      replace FT := Lib.hid (FT.out.below bw16)
      replace FG := Lib.hid (FG.out.below bw16)
      replace C0 := Lib.hid (C0.out.below bw16 (Nat.le_refl _))
      replace C1 := Lib.hid (C1.out.below bw16 (Nat.le_refl _))
      clear bw16
      go_upto_region 26 with fail
      generalize hW : w16.alloc (.cells #[.int .i64 nG, .slice AH gs.length cH] 38) = V17
      have bV17 : Below w16.heap.size w16 V17 := by rw [← hW]; clear hW; go_grown
      have LH : Hid (LocC V17 (w16.heap.size) nG AH gs.length cH) := by rw [← hW]; exact LocC.of_row (heap_top _ _ rfl)
      clear hW
      replace B := B.trans (bV17.mono B.size)
      replace LV := Lib.hid (LV.out.call bV17)
      replace LE := Lib.hid (LE.out.call bV17)
      replace LF := Lib.hid (LF.out.call bV17)
      replace LG := Lib.hid (LG.out.call bV17)
      replace FV := Lib.hid (FV.out.below bV17)
      replace FE := Lib.hid (FE.out.below bV17)
      replace FF := Lib.hid (FF.out.below bV17)
      replace FT := Lib.hid (FT.out.below bV17)
      replace FG := Lib.hid (FG.out.below bV17)
      replace FH := Lib.hid (FH.out.below bV17)
      replace C0 := Lib.hid (C0.out.below bV17 (Nat.le_refl _))
      replace C1 := Lib.hid (C1.out.below bV17 (Nat.le_refl _))
      clear bV17
      have hoo : (o2 == o2) = true := by simp
      obtain ⟨LGl, LG0, LG1⟩ := LG.out
      obtain ⟨LHl, LH0, LH1⟩ := LH.out
      go_wp2_with fail
      refine (specEqC_any nG AG cG gs nG AH cH gs _ (by omega) FG FH).mono ?_
      rintro e w18 ⟨rfl, bw18⟩
      rw [ceq_same]
      clear LGl LG0 LG1
      clear LHl LH0 LH1
      replace B := B.trans (bw18.mono B.size)
      replace LV := Lib.hid (LV.out.call bw18)
      replace LE := Lib.hid (LE.out.call bw18)
      replace LF := Lib.hid (LF.out.call bw18)
      replace LG := Lib.hid (LG.out.call bw18)
      replace LH := Lib.hid (LH.out.call bw18)
      replace FV := Lib.hid (FV.out.below bw18)
      replace FE := Lib.hid (FE.out.below bw18)
      replace FF := Lib.hid (FF.out.below bw18)
      replace FT := Lib.hid (FT.out.below bw18)
      replace FG := Lib.hid (FG.out.below bw18)
      replace FH := Lib.hid (FH.out.below bw18)
      replace C0 := Lib.hid (C0.out.below bw18 (Nat.le_refl _))
      replace C1 := Lib.hid (C1.out.below bw18 (Nat.le_refl _))
      clear bw18
      go_wp2
      go_ret
      exact ⟨rfl, B⟩
    · skip
      obtain ⟨X, Y, hX, hX2, hY, hY2, hgd⟩ := inv_counts Ho1.out EE.out.1 EE.out.2
      have HX := Lib.hid hX
      have HX2 := Lib.hid hX2
      have HY := Lib.hid hY
      have HY2 := Lib.hid hY2
      have Hgd := Lib.hid hgd
      clear hX hX2 hY hY2 hgd
      obtain ⟨LVl, LV0, LV1⟩ := LV.out
      go_wp2_with fail
      refine (implCountT_any r Ad cd vs _ (by omega) FV).mono ?_
      rintro e w12 ⟨rfl, bw12⟩
      rw [HX.out]
      clear LVl LV0 LV1
      replace B := B.trans (bw12.mono B.size)
      replace LV := Lib.hid (LV.out.call bw12)
      replace LE := Lib.hid (LE.out.call bw12)
      replace FV := Lib.hid (FV.out.below bw12)
      replace FE := Lib.hid (FE.out.below bw12)
      replace C0 := Lib.hid (C0.out.below bw12 (Nat.le_refl _))
      replace C1 := Lib.hid (C1.out.below bw12 (Nat.le_refl _))
      clear bw12
      obtain ⟨LEl, LE0, LE1⟩ := LE.out
      go_wp2_with fail
      refine (implCountT_any rE AE cE es _ (by omega) FE).mono ?_
      rintro e w13 ⟨rfl, bw13⟩
      rw [HX2.out]
      clear LEl LE0 LE1
      replace B := B.trans (bw13.mono B.size)
      replace LV := Lib.hid (LV.out.call bw13)
      replace LE := Lib.hid (LE.out.call bw13)
      replace FV := Lib.hid (FV.out.below bw13)
      replace FE := Lib.hid (FE.out.below bw13)
      replace C0 := Lib.hid (C0.out.below bw13 (Nat.le_refl _))
      replace C1 := Lib.hid (C1.out.below bw13 (Nat.le_refl _))
      clear bw13
      obtain ⟨LVl, LV0, LV1⟩ := LV.out
      go_wp2_with fail
      refine (implCountTwo_any r Ad cd vs _ (by omega) FV).mono ?_
      rintro e w14 ⟨rfl, bw14⟩
      rw [HY.out]
      clear LVl LV0 LV1
      replace B := B.trans (bw14.mono B.size)
      replace LV := Lib.hid (LV.out.call bw14)
      replace LE := Lib.hid (LE.out.call bw14)
      replace FV := Lib.hid (FV.out.below bw14)
      replace FE := Lib.hid (FE.out.below bw14)
      replace C0 := Lib.hid (C0.out.below bw14 (Nat.le_refl _))
      replace C1 := Lib.hid (C1.out.below bw14 (Nat.le_refl _))
      clear bw14
      obtain ⟨LEl, LE0, LE1⟩ := LE.out
      go_wp2_with fail
      refine (implCountTwo_any rE AE cE es _ (by omega) FE).mono ?_
      rintro e w15 ⟨rfl, bw15⟩
      rw [HY2.out]
      clear LEl LE0 LE1
      replace B := B.trans (bw15.mono B.size)
      replace LV := Lib.hid (LV.out.call bw15)
      replace LE := Lib.hid (LE.out.call bw15)
      replace FV := Lib.hid (FV.out.below bw15)
      replace FE := Lib.hid (FE.out.below bw15)
      replace C0 := Lib.hid (C0.out.below bw15 (Nat.le_refl _))
      replace C1 := Lib.hid (C1.out.below bw15 (Nat.le_refl _))
      clear bw15
      obtain ⟨LEl, LE0, LE1⟩ := LE.out
      go_wp2_with fail
      refine (specValidC_any rE AE cE es _ (by omega) FE).mono ?_
      rintro e w16 ⟨rfl, bw16⟩
      rw [Hgd.out]
      clear LEl LE0 LE1
      replace B := B.trans (bw16.mono B.size)
      replace LV := Lib.hid (LV.out.call bw16)
      replace LE := Lib.hid (LE.out.call bw16)
      replace FV := Lib.hid (FV.out.below bw16)
      replace FE := Lib.hid (FE.out.below bw16)
      replace C0 := Lib.hid (C0.out.below bw16 (Nat.le_refl _))
      replace C1 := Lib.hid (C1.out.below bw16 (Nat.le_refl _))
      clear bw16
      clear HX HX2 HY HY2 Hgd
      go_wp2_with fail
      refine (drawMapQ_any A0 m0 p0 _ C0).mono ?_
      rintro e w17 ⟨f, Af, cf, fs, Tt, ct, ts, n, rfl, hfl, htl, htc, hff, hft, bw17⟩
      have FF := Lib.hid hff.at
      clear hff
      have FT := Lib.hid hft.at
      clear hft
      replace B := B.trans (bw17.mono B.size)
      replace LV := Lib.hid (LV.out.call bw17)
      replace LE := Lib.hid (LE.out.call bw17)
      replace FV := Lib.hid (FV.out.below bw17)
      replace FE := Lib.hid (FE.out.below bw17)
      replace C0 := Lib.hid (C0.out.below bw17 (Nat.le_refl _))
      replace C1 := Lib.hid (C1.out.below bw17 (Nat.le_refl _))
      clear bw17
      go_upto_region 24 with fail
      generalize hW : w17.alloc (.cells #[.int .i64 f, .slice Af fs.length cf] 38) = V18
      have bV18 : Below w17.heap.size w17 V18 := by rw [← hW]; clear hW; go_grown
      have LF : Hid (LocC V18 (w17.heap.size) f Af fs.length cf) := by rw [← hW]; exact LocC.of_row (heap_top _ _ rfl)
      clear hW
      replace B := B.trans (bV18.mono B.size)
      replace LV := Lib.hid (LV.out.call bV18)
      replace LE := Lib.hid (LE.out.call bV18)
      replace FV := Lib.hid (FV.out.below bV18)
      replace FE := Lib.hid (FE.out.below bV18)
      replace FF := Lib.hid (FF.out.below bV18)
      replace FT := Lib.hid (FT.out.below bV18)
      replace C0 := Lib.hid (C0.out.below bV18 (Nat.le_refl _))
      replace C1 := Lib.hid (C1.out.below bV18 (Nat.le_refl _))
      clear bV18
      obtain ⟨LFl, LF0, LF1⟩ := LF.out
      go_wp2_with fail
      refine (implMap_any f Af cf fs Tt ct ts n _ (by omega) (by omega) htc FF FT).mono ?_
      rintro e w19 hm
      obtain ⟨AG, cG, nG, gs, rfl, hnG, hgs, hfG, bw19⟩ := hm.form
      clear hm
      have hgl : gs.length ≤ 1048576 := by rw [hgs]; exact mapBd _ _ _ _
      obtain ⟨o2, ho2⟩ : ∃ o2, o2 = mapOk f fs ts n := ⟨_, rfl⟩
      rw [← ho2]
      have Ho2 := Lib.hid ho2
      have EG := Lib.hid (And.intro hnG hgs)
      clear ho2 hnG hgs
      clear LFl LF0 LF1
      have FG := Lib.hid hfG.at
      clear hfG
      replace B := B.trans (bw19.mono B.size)
      replace LV := Lib.hid (LV.out.call bw19)
      replace LE := Lib.hid (LE.out.call bw19)
      replace LF := Lib.hid (LF.out.call bw19)
      replace FV := Lib.hid (FV.out.below bw19)
      replace FE := Lib.hid (FE.out.below bw19)
      replace FF := Lib.hid (FF.out.below bw19)
      replace FT := Lib.hid (FT.out.below bw19)
      replace C0 := Lib.hid (C0.out.below bw19 (Nat.le_refl _))
      replace C1 := Lib.hid (C1.out.below bw19 (Nat.le_refl _))
      clear bw19
      go_upto_region 25 with fail
      generalize hW : w19.alloc (.cells #[.int .i64 nG, .slice AG gs.length cG] 38) = V20
      have bV20 : Below w19.heap.size w19 V20 := by rw [← hW]; clear hW; go_grown
      have LG : Hid (LocC V20 (w19.heap.size) nG AG gs.length cG) := by rw [← hW]; exact LocC.of_row (heap_top _ _ rfl)
      clear hW
      replace B := B.trans (bV20.mono B.size)
      replace LV := Lib.hid (LV.out.call bV20)
      replace LE := Lib.hid (LE.out.call bV20)
      replace LF := Lib.hid (LF.out.call bV20)
      replace FV := Lib.hid (FV.out.below bV20)
      replace FE := Lib.hid (FE.out.below bV20)
      replace FF := Lib.hid (FF.out.below bV20)
      replace FT := Lib.hid (FT.out.below bV20)
      replace FG := Lib.hid (FG.out.below bV20)
      replace C0 := Lib.hid (C0.out.below bV20 (Nat.le_refl _))
      replace C1 := Lib.hid (C1.out.below bV20 (Nat.le_refl _))
      clear bV20
      obtain ⟨LFl, LF0, LF1⟩ := LF.out
      go_wp2_with fail
      refine (specMap_any f Af cf fs Tt ct ts n _ (by omega) (by omega) htc FF FT).mono ?_
      rintro e w21 hm
      obtain ⟨AH, cH, nH, hs, rfl, hnH, hhs, hfH, bw21⟩ := hm.form
      clear hm
      rw [← Ho2.out]
      replace hnH := (hnH.trans EG.out.1.symm).symm
      subst hnH
      replace hhs := (hhs.trans EG.out.2.symm).symm
      subst hhs
      clear LFl LF0 LF1
      have FH := Lib.hid hfH.at
      clear hfH
      replace B := B.trans (bw21.mono B.size)
      replace LV := Lib.hid (LV.out.call bw21)
      replace LE := Lib.hid (LE.out.call bw21)
      replace LF := Lib.hid (LF.out.call bw21)
      replace LG := Lib.hid (LG.out.call bw21)
      replace FV := Lib.hid (FV.out.below bw21)
      replace FE := Lib.hid (FE.out.below bw21)
      replace FF := Lib.hid (FF.out.below bw21)
      replace FT := Lib.hid (FT.out.below bw21)
      replace FG := Lib.hid (FG.out.below bw21)
      replace C0 := Lib.hid (C0.out.below bw21 (Nat.le_refl _))
      replace C1 := Lib.hid (C1.out.below bw21 (Nat.le_refl _))
      clear bw21
      go_upto_region 26 with fail
      generalize hW : w21.alloc (.cells #[.int .i64 nG, .slice AH gs.length cH] 38) = V22
      have bV22 : Below w21.heap.size w21 V22 := by rw [← hW]; clear hW; go_grown
      have LH : Hid (LocC V22 (w21.heap.size) nG AH gs.length cH) := by rw [← hW]; exact LocC.of_row (heap_top _ _ rfl)
      clear hW
      replace B := B.trans (bV22.mono B.size)
      replace LV := Lib.hid (LV.out.call bV22)
      replace LE := Lib.hid (LE.out.call bV22)
      replace LF := Lib.hid (LF.out.call bV22)
      replace LG := Lib.hid (LG.out.call bV22)
      replace FV := Lib.hid (FV.out.below bV22)
      replace FE := Lib.hid (FE.out.below bV22)
      replace FF := Lib.hid (FF.out.below bV22)
      replace FT := Lib.hid (FT.out.below bV22)
      replace FG := Lib.hid (FG.out.below bV22)
      replace FH := Lib.hid (FH.out.below bV22)
      replace C0 := Lib.hid (C0.out.below bV22 (Nat.le_refl _))
      replace C1 := Lib.hid (C1.out.below bV22 (Nat.le_refl _))
      clear bV22
      have hoo : (o2 == o2) = true := by simp
      obtain ⟨LGl, LG0, LG1⟩ := LG.out
      obtain ⟨LHl, LH0, LH1⟩ := LH.out
      go_wp2_with fail
      refine (specEqC_any nG AG cG gs nG AH cH gs _ (by omega) FG FH).mono ?_
      rintro e w23 ⟨rfl, bw23⟩
      rw [ceq_same]
      clear LGl LG0 LG1
      clear LHl LH0 LH1
      replace B := B.trans (bw23.mono B.size)
      replace LV := Lib.hid (LV.out.call bw23)
      replace LE := Lib.hid (LE.out.call bw23)
      replace LF := Lib.hid (LF.out.call bw23)
      replace LG := Lib.hid (LG.out.call bw23)
      replace LH := Lib.hid (LH.out.call bw23)
      replace FV := Lib.hid (FV.out.below bw23)
      replace FE := Lib.hid (FE.out.below bw23)
      replace FF := Lib.hid (FF.out.below bw23)
      replace FT := Lib.hid (FT.out.below bw23)
      replace FG := Lib.hid (FG.out.below bw23)
      replace FH := Lib.hid (FH.out.below bw23)
      replace C0 := Lib.hid (C0.out.below bw23 (Nat.le_refl _))
      replace C1 := Lib.hid (C1.out.below bw23 (Nat.le_refl _))
      clear bw23
      go_wp2
      go_ret
      exact ⟨rfl, B⟩
  · skip
    obtain ⟨LCl, LC0, LC1⟩ := LC.out
    obtain ⟨LDl, LD0, LD1⟩ := LD.out
    go_wp2_with fail
    refine (specEqC_any qC AC cC zs qC AD cD zs _ (by omega) FC FD).mono ?_
    rintro e w7 ⟨rfl, bw7⟩
    rw [ceq_same]
    clear LCl LC0 LC1
    clear LDl LD0 LD1
    replace B := B.trans (bw7.mono B.size)
    replace LA := Lib.hid (LA.out.call bw7)
    replace LB := Lib.hid (LB.out.call bw7)
    replace LC := Lib.hid (LC.out.call bw7)
    replace LD := Lib.hid (LD.out.call bw7)
    replace FA := Lib.hid (FA.out.below bw7)
    replace FB := Lib.hid (FB.out.below bw7)
    replace FC := Lib.hid (FC.out.below bw7)
    replace FD := Lib.hid (FD.out.below bw7)
    replace C0 := Lib.hid (C0.out.below bw7 (Nat.le_refl _))
    replace C1 := Lib.hid (C1.out.below bw7 (Nat.le_refl _))
    clear bw7
    obtain ⟨X, Y, hX, hY, hZ, hwXY⟩ := cat_counts Hok.out EC.out.1 EC.out.2
    have HX := Lib.hid hX
    have HY := Lib.hid hY
    have HZ := Lib.hid hZ
    clear hX hY hZ
    obtain ⟨hw1, hw2⟩ := hwXY
    obtain ⟨LAl, LA0, LA1⟩ := LA.out
    go_wp2_with fail
    refine (implCountT_any q Aa ca xs _ (by omega) FA).mono ?_
    rintro e w8 ⟨rfl, bw8⟩
    rw [HX.out]
    clear LAl LA0 LA1
    replace B := B.trans (bw8.mono B.size)
    replace LA := Lib.hid (LA.out.call bw8)
    replace LB := Lib.hid (LB.out.call bw8)
    replace LC := Lib.hid (LC.out.call bw8)
    replace LD := Lib.hid (LD.out.call bw8)
    replace FA := Lib.hid (FA.out.below bw8)
    replace FB := Lib.hid (FB.out.below bw8)
    replace FC := Lib.hid (FC.out.below bw8)
    replace FD := Lib.hid (FD.out.below bw8)
    replace C0 := Lib.hid (C0.out.below bw8 (Nat.le_refl _))
    replace C1 := Lib.hid (C1.out.below bw8 (Nat.le_refl _))
    clear bw8
    obtain ⟨LBl, LB0, LB1⟩ := LB.out
    go_wp2_with fail
    refine (implCountT_any p Ab cb ys _ (by omega) FB).mono ?_
    rintro e w9 ⟨rfl, bw9⟩
    rw [HY.out]
    clear LBl LB0 LB1
    replace B := B.trans (bw9.mono B.size)
    replace LA := Lib.hid (LA.out.call bw9)
    replace LB := Lib.hid (LB.out.call bw9)
    replace LC := Lib.hid (LC.out.call bw9)
    replace LD := Lib.hid (LD.out.call bw9)
    replace FA := Lib.hid (FA.out.below bw9)
    replace FB := Lib.hid (FB.out.below bw9)
    replace FC := Lib.hid (FC.out.below bw9)
    replace FD := Lib.hid (FD.out.below bw9)
    replace C0 := Lib.hid (C0.out.below bw9 (Nat.le_refl _))
    replace C1 := Lib.hid (C1.out.below bw9 (Nat.le_refl _))
    clear bw9
    obtain ⟨LCl, LC0, LC1⟩ := LC.out
    go_wp2_with fail
    refine (implCountT_any qC AC cC zs _ (by omega) FC).mono ?_
    rintro e w10 ⟨rfl, bw10⟩
    rw [HZ.out]
    clear LCl LC0 LC1
    replace B := B.trans (bw10.mono B.size)
    replace LA := Lib.hid (LA.out.call bw10)
    replace LB := Lib.hid (LB.out.call bw10)
    replace LC := Lib.hid (LC.out.call bw10)
    replace LD := Lib.hid (LD.out.call bw10)
    replace FA := Lib.hid (FA.out.below bw10)
    replace FB := Lib.hid (FB.out.below bw10)
    replace FC := Lib.hid (FC.out.below bw10)
    replace FD := Lib.hid (FD.out.below bw10)
    replace C0 := Lib.hid (C0.out.below bw10 (Nat.le_refl _))
    replace C1 := Lib.hid (C1.out.below bw10 (Nat.le_refl _))
    clear bw10
    go_upto_region 14 with fail
    clear hw1 hw2 HX HY HZ
    clear LA LB LC LD FA FB FC FD
    go_wp2_with fail
    refine (drawInvC_any A1 m1 p1 _ C1).mono ?_
    rintro e w11 ⟨r, Ad, cd, vs, rfl, hvl, hfd, bw11⟩
    have FV := Lib.hid hfd.at
    clear hfd
    replace B := B.trans (bw11.mono B.size)
    replace C0 := Lib.hid (C0.out.below bw11 (Nat.le_refl _))
    replace C1 := Lib.hid (C1.out.below bw11 (Nat.le_refl _))
    clear bw11
    go_upto_region 15 with fail
    generalize hW : w11.alloc (.cells #[.int .i64 r, .slice Ad vs.length cd] 38) = V12
    have bV12 : Below w11.heap.size w11 V12 := by rw [← hW]; clear hW; go_grown
    have LV : Hid (LocC V12 (w11.heap.size) r Ad vs.length cd) := by rw [← hW]; exact LocC.of_row (heap_top _ _ rfl)
    clear hW
    replace B := B.trans (bV12.mono B.size)
    replace FV := Lib.hid (FV.out.below bV12)
    replace C0 := Lib.hid (C0.out.below bV12 (Nat.le_refl _))
    replace C1 := Lib.hid (C1.out.below bV12 (Nat.le_refl _))
    clear bV12
    obtain ⟨LVl, LV0, LV1⟩ := LV.out
    go_wp2_with fail
    refine (implInvC_any r Ad cd vs _ (by omega) FV).mono ?_
    rintro e w13 hm
    obtain ⟨AE, cE, rE, es, rfl, hrE, hes, hfE, bw13⟩ := hm.form
    clear hm
    have hel : es.length ≤ 1048576 := by rw [hes]; exact invBd _ _
    have EE := Lib.hid (And.intro hrE hes)
    clear hrE hes
    clear LVl LV0 LV1
    have FE := Lib.hid hfE.at
    clear hfE
    replace B := B.trans (bw13.mono B.size)
    replace LV := Lib.hid (LV.out.call bw13)
    replace FV := Lib.hid (FV.out.below bw13)
    replace C0 := Lib.hid (C0.out.below bw13 (Nat.le_refl _))
    replace C1 := Lib.hid (C1.out.below bw13 (Nat.le_refl _))
    clear bw13
    obtain ⟨o1, ho1⟩ : ∃ o1, o1 = invOk r vs := ⟨_, rfl⟩
    rw [← ho1]
    have Ho1 := Lib.hid ho1
    clear ho1
    go_upto_region 16 with fail
    generalize hW : w13.alloc (.cells #[.int .i64 rE, .slice AE es.length cE] 38) = V14
    have bV14 : Below w13.heap.size w13 V14 := by rw [← hW]; clear hW; go_grown
    have LE : Hid (LocC V14 (w13.heap.size) rE AE es.length cE) := by rw [← hW]; exact LocC.of_row (heap_top _ _ rfl)
    clear hW
    replace B := B.trans (bV14.mono B.size)
    replace LV := Lib.hid (LV.out.call bV14)
    replace FV := Lib.hid (FV.out.below bV14)
    replace FE := Lib.hid (FE.out.below bV14)
    replace C0 := Lib.hid (C0.out.below bV14 (Nat.le_refl _))
    replace C1 := Lib.hid (C1.out.below bV14 (Nat.le_refl _))
    clear bV14
    cases o1
    · skip
      go_wp2_with fail
      refine (drawMapQ_any A0 m0 p0 _ C0).mono ?_
      rintro e w15 ⟨f, Af, cf, fs, Tt, ct, ts, n, rfl, hfl, htl, htc, hff, hft, bw15⟩
      have FF := Lib.hid hff.at
      clear hff
      have FT := Lib.hid hft.at
      clear hft
      replace B := B.trans (bw15.mono B.size)
      replace LV := Lib.hid (LV.out.call bw15)
      replace LE := Lib.hid (LE.out.call bw15)
      replace FV := Lib.hid (FV.out.below bw15)
      replace FE := Lib.hid (FE.out.below bw15)
      replace C0 := Lib.hid (C0.out.below bw15 (Nat.le_refl _))
      replace C1 := Lib.hid (C1.out.below bw15 (Nat.le_refl _))
      clear bw15
      go_upto_region 24 with fail
      generalize hW : w15.alloc (.cells #[.int .i64 f, .slice Af fs.length cf] 38) = V16
      have bV16 : Below w15.heap.size w15 V16 := by rw [← hW]; clear hW; go_grown
      have LF : Hid (LocC V16 (w15.heap.size) f Af fs.length cf) := by rw [← hW]; exact LocC.of_row (heap_top _ _ rfl)
      clear hW
      replace B := B.trans (bV16.mono B.size)
      replace LV := Lib.hid (LV.out.call bV16)
      replace LE := Lib.hid (LE.out.call bV16)
      replace FV := Lib.hid (FV.out.below bV16)
      replace FE := Lib.hid (FE.out.below bV16)
      replace FF := Lib.hid (FF.out.below bV16)
      replace FT := Lib.hid (FT.out.below bV16)
      replace C0 := Lib.hid (C0.out.below bV16 (Nat.le_refl _))
      replace C1 := Lib.hid (C1.out.below bV16 (Nat.le_refl _))
      clear bV16
      obtain ⟨LFl, LF0, LF1⟩ := LF.out
      go_wp2_with fail
      refine (implMap_any f Af cf fs Tt ct ts n _ (by omega) (by omega) htc FF FT).mono ?_
      rintro e w17 hm
      obtain ⟨AG, cG, nG, gs, rfl, hnG, hgs, hfG, bw17⟩ := hm.form
      clear hm
      have hgl : gs.length ≤ 1048576 := by rw [hgs]; exact mapBd _ _ _ _
      obtain ⟨o2, ho2⟩ : ∃ o2, o2 = mapOk f fs ts n := ⟨_, rfl⟩
      rw [← ho2]
      have Ho2 := Lib.hid ho2
      have EG := Lib.hid (And.intro hnG hgs)
      clear ho2 hnG hgs
      clear LFl LF0 LF1
      have FG := Lib.hid hfG.at
      clear hfG
      replace B := B.trans (bw17.mono B.size)
      replace LV := Lib.hid (LV.out.call bw17)
      replace LE := Lib.hid (LE.out.call bw17)
      replace LF := Lib.hid (LF.out.call bw17)
      replace FV := Lib.hid (FV.out.below bw17)
      replace FE := Lib.hid (FE.out.below bw17)
      replace FF := Lib.hid (FF.out.below bw17)
      replace FT := Lib.hid (FT.out.below bw17)
      replace C0 := Lib.hid (C0.out.below bw17 (Nat.le_refl _))
      replace C1 := Lib.hid (C1.out.below bw17 (Nat.le_refl _))
      clear bw17
      go_upto_region 25 with fail
      generalize hW : w17.alloc (.cells #[.int .i64 nG, .slice AG gs.length cG] 38) = V18
      have bV18 : Below w17.heap.size w17 V18 := by rw [← hW]; clear hW; go_grown
      have LG : Hid (LocC V18 (w17.heap.size) nG AG gs.length cG) := by rw [← hW]; exact LocC.of_row (heap_top _ _ rfl)
      clear hW
      replace B := B.trans (bV18.mono B.size)
      replace LV := Lib.hid (LV.out.call bV18)
      replace LE := Lib.hid (LE.out.call bV18)
      replace LF := Lib.hid (LF.out.call bV18)
      replace FV := Lib.hid (FV.out.below bV18)
      replace FE := Lib.hid (FE.out.below bV18)
      replace FF := Lib.hid (FF.out.below bV18)
      replace FT := Lib.hid (FT.out.below bV18)
      replace FG := Lib.hid (FG.out.below bV18)
      replace C0 := Lib.hid (C0.out.below bV18 (Nat.le_refl _))
      replace C1 := Lib.hid (C1.out.below bV18 (Nat.le_refl _))
      clear bV18
      obtain ⟨LFl, LF0, LF1⟩ := LF.out
      go_wp2_with fail
      refine (specMap_any f Af cf fs Tt ct ts n _ (by omega) (by omega) htc FF FT).mono ?_
      rintro e w19 hm
      obtain ⟨AH, cH, nH, hs, rfl, hnH, hhs, hfH, bw19⟩ := hm.form
      clear hm
      rw [← Ho2.out]
      replace hnH := (hnH.trans EG.out.1.symm).symm
      subst hnH
      replace hhs := (hhs.trans EG.out.2.symm).symm
      subst hhs
      clear LFl LF0 LF1
      have FH := Lib.hid hfH.at
      clear hfH
      replace B := B.trans (bw19.mono B.size)
      replace LV := Lib.hid (LV.out.call bw19)
      replace LE := Lib.hid (LE.out.call bw19)
      replace LF := Lib.hid (LF.out.call bw19)
      replace LG := Lib.hid (LG.out.call bw19)
      replace FV := Lib.hid (FV.out.below bw19)
      replace FE := Lib.hid (FE.out.below bw19)
      replace FF := Lib.hid (FF.out.below bw19)
      replace FT := Lib.hid (FT.out.below bw19)
      replace FG := Lib.hid (FG.out.below bw19)
      replace C0 := Lib.hid (C0.out.below bw19 (Nat.le_refl _))
      replace C1 := Lib.hid (C1.out.below bw19 (Nat.le_refl _))
      clear bw19
      go_upto_region 26 with fail
      generalize hW : w19.alloc (.cells #[.int .i64 nG, .slice AH gs.length cH] 38) = V20
      have bV20 : Below w19.heap.size w19 V20 := by rw [← hW]; clear hW; go_grown
      have LH : Hid (LocC V20 (w19.heap.size) nG AH gs.length cH) := by rw [← hW]; exact LocC.of_row (heap_top _ _ rfl)
      clear hW
      replace B := B.trans (bV20.mono B.size)
      replace LV := Lib.hid (LV.out.call bV20)
      replace LE := Lib.hid (LE.out.call bV20)
      replace LF := Lib.hid (LF.out.call bV20)
      replace LG := Lib.hid (LG.out.call bV20)
      replace FV := Lib.hid (FV.out.below bV20)
      replace FE := Lib.hid (FE.out.below bV20)
      replace FF := Lib.hid (FF.out.below bV20)
      replace FT := Lib.hid (FT.out.below bV20)
      replace FG := Lib.hid (FG.out.below bV20)
      replace FH := Lib.hid (FH.out.below bV20)
      replace C0 := Lib.hid (C0.out.below bV20 (Nat.le_refl _))
      replace C1 := Lib.hid (C1.out.below bV20 (Nat.le_refl _))
      clear bV20
      have hoo : (o2 == o2) = true := by simp
      obtain ⟨LGl, LG0, LG1⟩ := LG.out
      obtain ⟨LHl, LH0, LH1⟩ := LH.out
      go_wp2_with fail
      refine (specEqC_any nG AG cG gs nG AH cH gs _ (by omega) FG FH).mono ?_
      rintro e w21 ⟨rfl, bw21⟩
      rw [ceq_same]
      clear LGl LG0 LG1
      clear LHl LH0 LH1
      replace B := B.trans (bw21.mono B.size)
      replace LV := Lib.hid (LV.out.call bw21)
      replace LE := Lib.hid (LE.out.call bw21)
      replace LF := Lib.hid (LF.out.call bw21)
      replace LG := Lib.hid (LG.out.call bw21)
      replace LH := Lib.hid (LH.out.call bw21)
      replace FV := Lib.hid (FV.out.below bw21)
      replace FE := Lib.hid (FE.out.below bw21)
      replace FF := Lib.hid (FF.out.below bw21)
      replace FT := Lib.hid (FT.out.below bw21)
      replace FG := Lib.hid (FG.out.below bw21)
      replace FH := Lib.hid (FH.out.below bw21)
      replace C0 := Lib.hid (C0.out.below bw21 (Nat.le_refl _))
      replace C1 := Lib.hid (C1.out.below bw21 (Nat.le_refl _))
      clear bw21
      go_wp2
      go_ret
      exact ⟨rfl, B⟩
    · skip
      obtain ⟨X, Y, hX, hX2, hY, hY2, hgd⟩ := inv_counts Ho1.out EE.out.1 EE.out.2
      have HX := Lib.hid hX
      have HX2 := Lib.hid hX2
      have HY := Lib.hid hY
      have HY2 := Lib.hid hY2
      have Hgd := Lib.hid hgd
      clear hX hX2 hY hY2 hgd
      obtain ⟨LVl, LV0, LV1⟩ := LV.out
      go_wp2_with fail
      refine (implCountT_any r Ad cd vs _ (by omega) FV).mono ?_
      rintro e w15 ⟨rfl, bw15⟩
      rw [HX.out]
      clear LVl LV0 LV1
      replace B := B.trans (bw15.mono B.size)
      replace LV := Lib.hid (LV.out.call bw15)
      replace LE := Lib.hid (LE.out.call bw15)
      replace FV := Lib.hid (FV.out.below bw15)
      replace FE := Lib.hid (FE.out.below bw15)
      replace C0 := Lib.hid (C0.out.below bw15 (Nat.le_refl _))
      replace C1 := Lib.hid (C1.out.below bw15 (Nat.le_refl _))
      clear bw15
      obtain ⟨LEl, LE0, LE1⟩ := LE.out
      go_wp2_with fail
      refine (implCountT_any rE AE cE es _ (by omega) FE).mono ?_
      rintro e w16 ⟨rfl, bw16⟩
      rw [HX2.out]
      clear LEl LE0 LE1
      replace B := B.trans (bw16.mono B.size)
      replace LV := Lib.hid (LV.out.call bw16)
      replace LE := Lib.hid (LE.out.call bw16)
      replace FV := Lib.hid (FV.out.below bw16)
      replace FE := Lib.hid (FE.out.below bw16)
      replace C0 := Lib.hid (C0.out.below bw16 (Nat.le_refl _))
      replace C1 := Lib.hid (C1.out.below bw16 (Nat.le_refl _))
      clear bw16
      obtain ⟨LVl, LV0, LV1⟩ := LV.out
      go_wp2_with fail
      refine (implCountTwo_any r Ad cd vs _ (by omega) FV).mono ?_
      rintro e w17 ⟨rfl, bw17⟩
      rw [HY.out]
      clear LVl LV0 LV1
      replace B := B.trans (bw17.mono B.size)
      replace LV := Lib.hid (LV.out.call bw17)
      replace LE := Lib.hid (LE.out.call bw17)
      replace FV := Lib.hid (FV.out.below bw17)
      replace FE := Lib.hid (FE.out.below bw17)
      replace C0 := Lib.hid (C0.out.below bw17 (Nat.le_refl _))
      replace C1 := Lib.hid (C1.out.below bw17 (Nat.le_refl _))
      clear bw17
      obtain ⟨LEl, LE0, LE1⟩ := LE.out
      go_wp2_with fail
      refine (implCountTwo_any rE AE cE es _ (by omega) FE).mono ?_
      rintro e w18 ⟨rfl, bw18⟩
      rw [HY2.out]
      clear LEl LE0 LE1
      replace B := B.trans (bw18.mono B.size)
      replace LV := Lib.hid (LV.out.call bw18)
      replace LE := Lib.hid (LE.out.call bw18)
      replace FV := Lib.hid (FV.out.below bw18)
      replace FE := Lib.hid (FE.out.below bw18)
      replace C0 := Lib.hid (C0.out.below bw18 (Nat.le_refl _))
      replace C1 := Lib.hid (C1.out.below bw18 (Nat.le_refl _))
      clear bw18
      obtain ⟨LEl, LE0, LE1⟩ := LE.out
      go_wp2_with fail
      refine (specValidC_any rE AE cE es _ (by omega) FE).mono ?_
      rintro e w19 ⟨rfl, bw19⟩
      rw [Hgd.out]
      clear LEl LE0 LE1
      replace B := B.trans (bw19.mono B.size)
      replace LV := Lib.hid (LV.out.call bw19)
      replace LE := Lib.hid (LE.out.call bw19)
      replace FV := Lib.hid (FV.out.below bw19)
      replace FE := Lib.hid (FE.out.below bw19)
      replace C0 := Lib.hid (C0.out.below bw19 (Nat.le_refl _))
      replace C1 := Lib.hid (C1.out.below bw19 (Nat.le_refl _))
      clear bw19
      clear HX HX2 HY HY2 Hgd
      go_wp2_with fail
      refine (drawMapQ_any A0 m0 p0 _ C0).mono ?_
      rintro e w20 ⟨f, Af, cf, fs, Tt, ct, ts, n, rfl, hfl, htl, htc, hff, hft, bw20⟩
      have FF := Lib.hid hff.at
      clear hff
      have FT := Lib.hid hft.at
      clear hft
      replace B := B.trans (bw20.mono B.size)
      replace LV := Lib.hid (LV.out.call bw20)
      replace LE := Lib.hid (LE.out.call bw20)
      replace FV := Lib.hid (FV.out.below bw20)
      replace FE := Lib.hid (FE.out.below bw20)
      replace C0 := Lib.hid (C0.out.below bw20 (Nat.le_refl _))
      replace C1 := Lib.hid (C1.out.below bw20 (Nat.le_refl _))
      clear bw20
      go_upto_region 24 with fail
      generalize hW : w20.alloc (.cells #[.int .i64 f, .slice Af fs.length cf] 38) = V21
      have bV21 : Below w20.heap.size w20 V21 := by rw [← hW]; clear hW; go_grown
      have LF : Hid (LocC V21 (w20.heap.size) f Af fs.length cf) := by rw [← hW]; exact LocC.of_row (heap_top _ _ rfl)
      clear hW
      replace B := B.trans (bV21.mono B.size)
      replace LV := Lib.hid (LV.out.call bV21)
      replace LE := Lib.hid (LE.out.call bV21)
      replace FV := Lib.hid (FV.out.below bV21)
      replace FE := Lib.hid (FE.out.below bV21)
      replace FF := Lib.hid (FF.out.below bV21)
      replace FT := Lib.hid (FT.out.below bV21)
      replace C0 := Lib.hid (C0.out.below bV21 (Nat.le_refl _))
      replace C1 := Lib.hid (C1.out.below bV21 (Nat.le_refl _))
      clear bV21
      obtain ⟨LFl, LF0, LF1⟩ := LF.out
      go_wp2_with fail
      refine (implMap_any f Af cf fs Tt ct ts n _ (by omega) (by omega) htc FF FT).mono ?_
      rintro e w22 hm
      obtain ⟨AG, cG, nG, gs, rfl, hnG, hgs, hfG, bw22⟩ := hm.form
      clear hm
      have hgl : gs.length ≤ 1048576 := by rw [hgs]; exact mapBd _ _ _ _
      obtain ⟨o2, ho2⟩ : ∃ o2, o2 = mapOk f fs ts n := ⟨_, rfl⟩
      rw [← ho2]
      have Ho2 := Lib.hid ho2
      have EG := Lib.hid (And.intro hnG hgs)
      clear ho2 hnG hgs
      clear LFl LF0 LF1
      have FG := Lib.hid hfG.at
      clear hfG
      replace B := B.trans (bw22.mono B.size)
      replace LV := Lib.hid (LV.out.call bw22)
      replace LE := Lib.hid (LE.out.call bw22)
      replace LF := Lib.hid (LF.out.call bw22)
      replace FV := Lib.hid (FV.out.below bw22)
      replace FE := Lib.hid (FE.out.below bw22)
      replace FF := Lib.hid (FF.out.below bw22)
      replace FT := Lib.hid (FT.out.below bw22)
      replace C0 := Lib.hid (C0.out.below bw22 (Nat.le_refl _))
      replace C1 := Lib.hid (C1.out.below bw22 (Nat.le_refl _))
      clear bw22
      go_upto_region 25 with fail
      generalize hW : w22.alloc (.cells #[.int .i64 nG, .slice AG gs.length cG] 38) = V23
      have bV23 : Below w22.heap.size w22 V23 := by rw [← hW]; clear hW; go_grown
      have LG : Hid (LocC V23 (w22.heap.size) nG AG gs.length cG) := by rw [← hW]; exact LocC.of_row (heap_top _ _ rfl)
      clear hW
      replace B := B.trans (bV23.mono B.size)
      replace LV := Lib.hid (LV.out.call bV23)
      replace LE := Lib.hid (LE.out.call bV23)
      replace LF := Lib.hid (LF.out.call bV23)
      replace FV := Lib.hid (FV.out.below bV23)
      replace FE := Lib.hid (FE.out.below bV23)
      replace FF := Lib.hid (FF.out.below bV23)
      replace FT := Lib.hid (FT.out.below bV23)
      replace FG := Lib.hid (FG.out.below bV23)
      replace C0 := Lib.hid (C0.out.below bV23 (Nat.le_refl _))
      replace C1 := Lib.hid (C1.out.below bV23 (Nat.le_refl _))
      clear bV23
      obtain ⟨LFl, LF0, LF1⟩ := LF.out
      go_wp2_with fail
      refine (specMap_any f Af cf fs Tt ct ts n _ (by omega) (by omega) htc FF FT).mono ?_
      rintro e w24 hm
      obtain ⟨AH, cH, nH, hs, rfl, hnH, hhs, hfH, bw24⟩ := hm.form
      clear hm
      rw [← Ho2.out]
      replace hnH := (hnH.trans EG.out.1.symm).symm
      subst hnH
      replace hhs := (hhs.trans EG.out.2.symm).symm
      subst hhs
      clear LFl LF0 LF1
      have FH := Lib.hid hfH.at
      clear hfH
      replace B := B.trans (bw24.mono B.size)
      replace LV := Lib.hid (LV.out.call bw24)
      replace LE := Lib.hid (LE.out.call bw24)
      replace LF := Lib.hid (LF.out.call bw24)
      replace LG := Lib.hid (LG.out.call bw24)
      replace FV := Lib.hid (FV.out.below bw24)
      replace FE := Lib.hid (FE.out.below bw24)
      replace FF := Lib.hid (FF.out.below bw24)
      replace FT := Lib.hid (FT.out.below bw24)
      replace FG := Lib.hid (FG.out.below bw24)
      replace C0 := Lib.hid (C0.out.below bw24 (Nat.le_refl _))
      replace C1 := Lib.hid (C1.out.below bw24 (Nat.le_refl _))
      clear bw24
      go_upto_region 26 with fail
      generalize hW : w24.alloc (.cells #[.int .i64 nG, .slice AH gs.length cH] 38) = V25
      have bV25 : Below w24.heap.size w24 V25 := by rw [← hW]; clear hW; go_grown
      have LH : Hid (LocC V25 (w24.heap.size) nG AH gs.length cH) := by rw [← hW]; exact LocC.of_row (heap_top _ _ rfl)
      clear hW
      replace B := B.trans (bV25.mono B.size)
      replace LV := Lib.hid (LV.out.call bV25)
      replace LE := Lib.hid (LE.out.call bV25)
      replace LF := Lib.hid (LF.out.call bV25)
      replace LG := Lib.hid (LG.out.call bV25)
      replace FV := Lib.hid (FV.out.below bV25)
      replace FE := Lib.hid (FE.out.below bV25)
      replace FF := Lib.hid (FF.out.below bV25)
      replace FT := Lib.hid (FT.out.below bV25)
      replace FG := Lib.hid (FG.out.below bV25)
      replace FH := Lib.hid (FH.out.below bV25)
      replace C0 := Lib.hid (C0.out.below bV25 (Nat.le_refl _))
      replace C1 := Lib.hid (C1.out.below bV25 (Nat.le_refl _))
      clear bV25
      have hoo : (o2 == o2) = true := by simp
      obtain ⟨LGl, LG0, LG1⟩ := LG.out
      obtain ⟨LHl, LH0, LH1⟩ := LH.out
      go_wp2_with fail
      refine (specEqC_any nG AG cG gs nG AH cH gs _ (by omega) FG FH).mono ?_
      rintro e w26 ⟨rfl, bw26⟩
      rw [ceq_same]
      clear LGl LG0 LG1
      clear LHl LH0 LH1
      replace B := B.trans (bw26.mono B.size)
      replace LV := Lib.hid (LV.out.call bw26)
      replace LE := Lib.hid (LE.out.call bw26)
      replace LF := Lib.hid (LF.out.call bw26)
      replace LG := Lib.hid (LG.out.call bw26)
      replace LH := Lib.hid (LH.out.call bw26)
      replace FV := Lib.hid (FV.out.below bw26)
      replace FE := Lib.hid (FE.out.below bw26)
      replace FF := Lib.hid (FF.out.below bw26)
      replace FT := Lib.hid (FT.out.below bw26)
      replace FG := Lib.hid (FG.out.below bw26)
      replace FH := Lib.hid (FH.out.below bw26)
      replace C0 := Lib.hid (C0.out.below bw26 (Nat.le_refl _))
      replace C1 := Lib.hid (C1.out.below bw26 (Nat.le_refl _))
      clear bw26
      go_wp2
      go_ret
      exact ⟨rfl, B⟩

set_option maxRecDepth 100000 in
theorem fnCircuits_lifted (os : Os) (started : os.Started) (H : Type) (enc : TypeId × Value → H) :
    ReturnsInHanded {} Try.checked os 4 .any (Rows.fnCircuitsSpec.pre6 enc Try.prog Try.f4 Rows.fnCircuitsRow.domain false) (Rows.fnCircuitsSpec.post enc Try.prog Try.f4 false true false false) := by
  refine law_lifted (C := Try.checked) (tb := 4) Try.own started (by kernel_rfl) Try.func4
    (ChangeSpec.witness6 (enc := enc) (C := Try.checked) false ⟨#[], #[.slice none 0 0, .slice none 0 0], []⟩ 8 (by kernel_rfl) (by kernel_rfl) (by kernel_rfl) (by kernel_rfl))
    Try.laidOut (by kernel_rfl) rfl rfl Try.underlying4 (fun es he => ?_) ?_
  · match es, he with
    | [_, _], _ => rfl
  · intro W base args ds p hval0 hA hwt hsh hblk
    have hval : ∀ (j : Nat) t v, Try.f4.params[j]? = some t → args[j]? = some v → Value.okWide Try.prog W .any base t v := hval0
    have hA' : DataW.TrodAll enc Try.prog W 0 (fun _ => true) true Try.f4.params.toList args.toList ds p := hA
    rw [Try.params4] at hA' hval
    obtain ⟨v0, v1, d0, d1, p0, p1, rfl, rfl, rfl, h0, h1⟩ := trodAll_two hA'
    obtain ⟨A0, m0, p0, rfl, hl0, hb0⟩ := open_bytes Try.underlying34 Try.underlying5 Try.cellsU8 (hval 0 34 v0 rfl rfl) h0
    obtain ⟨A1, m1, p1, rfl, hl1, hb1⟩ := open_bytes Try.underlying34 Try.underlying5 Try.cellsU8 (hval 1 34 v1 rfl rfl) h1
    exact fnCircuits_any A0 m0 p0 A1 m1 p1 W hl0 hb0 hl1 hb1

theorem fnCircuits_holds : Rows.FnCircuitsSaid :=
  OpenClaim.holds_of_wide 4 Try.f4 rfl rfl rfl rfl rfl rfl rfl ⟨rfl, rfl, rfl, rfl, rfl⟩ rfl rfl rfl rfl rfl (by kernel_rfl) Try.func4 (by kernel_rfl)
    (of_decide_eq_true (by kernel_rfl)) (by unfold Func.isWrapper; first | (rw [if_pos (by decide +kernel)]; kernel_rfl) | (rw [if_neg (by decide +kernel)]; exact ⟨rfl, rfl⟩))
    (fun os started H enc _ => fnCircuits_lifted os started H enc)

end Go.Proofs.Ytlihnipbdckmkaa
