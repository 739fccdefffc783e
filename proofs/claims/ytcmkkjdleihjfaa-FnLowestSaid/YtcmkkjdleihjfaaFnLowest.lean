/- FnLowest is proved: for all drawn numbers, the law holds. No conditions. -/
import Derived.Test.YtcmkkjdleihjfaaFrame
import Derived.Test.YtcmkkjdleihjfaaOpenB
import Derived.Test.YtcmkkjdleihjfaaLowL
import Derived.Laws.StructEq
import Derived.Deep.DeepCutAuto
namespace Go.Proofs.Ytcmkkjdleihjfaa
open Go.RowKit Go.WideShapes Go.ChangeShapes Go.ChangeAt

set_option maxRecDepth 100000 in
set_option maxHeartbeats 8000000 in
theorem fnLowest_any (A0 : Option Addr) (m0 p0' : Nat) (A1 : Option Addr) (m1' p1' : Nat) (w : World) (hl0 : m0 ≤ maxLen) (hb0 : ByteAt w A0 m0) (_hl1 : m1' ≤ maxLen) (hb1 : ByteAt w A1 m1') :
    Calls Try.prog 8 #[.slice A0 m0 p0', .slice A1 m1' p1'] w fun e w' => e = .returned (.bool true) ∧ Below w.heap.size w w' := by
  have C0 := Lib.hid hb0
  have C1 := Lib.hid hb1
  have CW := C1
  clear hb0 hb1
  have B : Below w.heap.size w w := Below.refl _ _
  go_enter Try.func8, Try.ntmps8
  go_wp2_with fail
  refine (big_any _ _ _ _ _ _ _ hl0).mono ?_
  rintro e w' ⟨k, rfl, rfl⟩
  cases k
  case true =>
    go_wp2
    go_ret
    exact ⟨rfl, B⟩
  go_wp2_with fail
  refine (drawDyadicOf_any _ _ _ _ C0).mono ?_
  rintro e w1 ⟨q0, q1, q2, q3, n, rfl, bw1⟩
  replace B := B.trans (bw1.mono B.size)
  replace C0 := Lib.hid (C0.out.below bw1 (Nat.le_refl _))
  replace C1 := Lib.hid (C1.out.below bw1 (Nat.le_refl _))
  clear bw1
  go_upto_region 4 with fail
  generalize hW : w1.alloc (.cells #[.int .i64 q0, .int .i64 q1, .int .i64 q2, .int .i64 q3] 38) = V2
  have bV2 : Below w1.heap.size w1 V2 := by rw [← hW]; clear hW; go_grown
  have Q : Hid (Blk4 V2 (w1.heap.size) (q0, q1, q2, q3)) := by rw [← hW]; exact Blk4.new q0 q1 q2 q3 rfl
  clear hW
  replace B := B.trans (bV2.mono B.size)
  replace C0 := Lib.hid (C0.out.below bV2 (Nat.le_refl _))
  replace C1 := Lib.hid (C1.out.below bV2 (Nat.le_refl _))
  clear bV2
  clear C0
  obtain ⟨Q0, Q1, Q2, Q3⟩ := Q.out.cell
  have Ql := Q.out.lt
  go_wp2_with fail
  refine (implLowX (q0, q1, q2, q3) n _).mono ?_
  rintro e w3 ⟨o, x0, x1, x2, x3, x4, rfl, EX, bw3⟩
  clear Q0 Q1 Q2 Q3 Ql
  replace EX := Lib.hid EX
  replace B := B.trans (bw3.mono B.size)
  replace Q := Lib.hid (Q.out.below bw3 Q.out.lt)
  replace C1 := Lib.hid (C1.out.below bw3 (Nat.le_refl _))
  clear bw3
  go_upto_region 5 with fail
  generalize hW : w3.alloc (.cells #[.int .i64 x0, .int .i64 x1, .int .i64 x2, .int .i64 x3, .int .i64 x4] 52) = V4
  have bV4 : Below w3.heap.size w3 V4 := by rw [← hW]; clear hW; go_grown
  have X : Hid (Blk5 V4 (w3.heap.size) ((x0, x1, x2, x3), x4)) := by rw [← hW]; exact Blk5.new x0 x1 x2 x3 x4 rfl
  clear hW
  replace B := B.trans (bV4.mono B.size)
  replace Q := Lib.hid (Q.out.below bV4 Q.out.lt)
  replace C1 := Lib.hid (C1.out.below bV4 (Nat.le_refl _))
  clear bV4
  obtain ⟨Q0, Q1, Q2, Q3⟩ := Q.out.cell
  have Ql := Q.out.lt
  go_wp2_with fail
  refine (specLowX (q0, q1, q2, q3) n _).mono ?_
  rintro e w5 ⟨o', y0, y1, y2, y3, y4, rfl, EY, bw5⟩
  clear Q0 Q1 Q2 Q3 Ql
  obtain ⟨h1, h2⟩ := sameDO EX.out EY
  obtain ⟨h3, h4, h5, h6, h7⟩ := d5_inj h2
  subst h1 h3 h4 h5 h6 h7
  clear EY h2
  replace B := B.trans (bw5.mono B.size)
  replace Q := Lib.hid (Q.out.below bw5 Q.out.lt)
  replace X := Lib.hid (X.out.below bw5 X.out.lt)
  replace C1 := Lib.hid (C1.out.below bw5 (Nat.le_refl _))
  clear bw5
  go_upto_region 6 with fail
  generalize hW : w5.alloc (.cells #[.int .i64 x0, .int .i64 x1, .int .i64 x2, .int .i64 x3, .int .i64 x4] 52) = V6
  have bV6 : Below w5.heap.size w5 V6 := by rw [← hW]; clear hW; go_grown
  have Y : Hid (Blk5 V6 (w5.heap.size) ((x0, x1, x2, x3), x4)) := by rw [← hW]; exact Blk5.new x0 x1 x2 x3 x4 rfl
  clear hW
  replace B := B.trans (bV6.mono B.size)
  replace Q := Lib.hid (Q.out.below bV6 Q.out.lt)
  replace X := Lib.hid (X.out.below bV6 X.out.lt)
  replace C1 := Lib.hid (C1.out.below bV6 (Nat.le_refl _))
  clear bV6
  obtain ⟨X0, X1, X2, X3, X4⟩ := X.out.cell
  have Xl := X.out.lt
  obtain ⟨Y0, Y1, Y2, Y3, Y4⟩ := Y.out.cell
  have Yl := Y.out.lt
  go_upto_region 8 with fail
  clear X0 X1 X2 X3 X4 Xl
  clear Y0 Y1 Y2 Y3 Y4 Yl
  clear Y
  cases o
  case false =>
    clear EX Q X
    go_upto_region 19 with fail
    go_wp2_with fail
    refine (drawCmp_any _ _ _ _ C1).mono ?_
    rintro e w7 ⟨a0, a1, a2, a3, a4, d0, d1, d2, d3, d4, rfl, bw7⟩
    replace B := B.trans (bw7.mono B.size)
    replace C1 := Lib.hid (C1.out.below bw7 (Nat.le_refl _))
    clear bw7
    go_upto_region 20 with fail
    generalize hW : (w7.alloc (.cells #[.int .i64 a0, .int .i64 a1, .int .i64 a2, .int .i64 a3, .int .i64 a4] 52)).alloc (.cells #[.int .i64 d0, .int .i64 d1, .int .i64 d2, .int .i64 d3, .int .i64 d4] 52) = V8
    have bV8 : Below w7.heap.size w7 V8 := by rw [← hW]; clear hW; go_grown
    have P : Hid (Blk5 V8 (w7.heap.size) ((a0, a1, a2, a3), a4)) := by rw [← hW]; exact (Blk5.new a0 a1 a2 a3 a4 rfl).alloc _
    have D : Hid (Blk5 V8 (w7.heap.size + 1) ((d0, d1, d2, d3), d4)) := by rw [← hW]; exact Blk5.new d0 d1 d2 d3 d4 (by simp)
    clear hW
    replace B := B.trans (bV8.mono B.size)
    replace C1 := Lib.hid (C1.out.below bV8 (Nat.le_refl _))
    clear bV8
    obtain ⟨n1, hn1⟩ : ∃ n1, n1 = (cmpR ((a0, a1, a2, a3), a4) ((d0, d1, d2, d3), d4)).1 := ⟨_, rfl⟩
    obtain ⟨o1, ho1⟩ : ∃ o1, o1 = (cmpR ((a0, a1, a2, a3), a4) ((d0, d1, d2, d3), d4)).2 := ⟨_, rfl⟩
    have hbd := cmpR_bd ((a0, a1, a2, a3), a4) ((d0, d1, d2, d3), d4)
    rw [← hn1] at hbd
    have Hc1 : Hid (∀ W, Calls Try.prog 42 #[dv a0 a1 a2 a3 a4, dv d0 d1 d2 d3 d4] W fun r w' => r = .returned (.tuple #[.int .i64 n1, .bool o1]) ∧ Below W.heap.size W w') := by
      show ∀ W, _
      intro W
      rw [hn1, ho1]
      exact compareAbs_any ((a0, a1, a2, a3), a4) ((d0, d1, d2, d3), d4) W
    have Hc2 : Hid (∀ W, Calls Try.prog 42 #[dv d0 d1 d2 d3 d4, dv a0 a1 a2 a3 a4] W fun r w' => r = .returned (.tuple #[.int .i64 (-n1), .bool o1]) ∧ Below W.heap.size W w') := by
      show ∀ W, _
      intro W
      rw [hn1, ho1, ← (cmpR_anti ((a0, a1, a2, a3), a4) ((d0, d1, d2, d3), d4)).1, ← (cmpR_anti ((a0, a1, a2, a3), a4) ((d0, d1, d2, d3), d4)).2]
      exact compareAbs_any ((d0, d1, d2, d3), d4) ((a0, a1, a2, a3), a4) W
    clear hn1 ho1
    rcases hbd with rfl | rfl | rfl
    all_goals
      obtain ⟨P0, P1, P2, P3, P4⟩ := P.out.cell
      have Pl := P.out.lt
      obtain ⟨D0, D1, D2, D3, D4⟩ := D.out.cell
      have Dl := D.out.lt
      go_wp2_with fail
      refine (Hc1.out _).mono ?_
      rintro e w9 ⟨rfl, bw9⟩
      clear P0 P1 P2 P3 P4 Pl
      clear D0 D1 D2 D3 D4 Dl
      replace B := B.trans (bw9.mono B.size)
      replace P := Lib.hid (P.out.below bw9 P.out.lt)
      replace D := Lib.hid (D.out.below bw9 D.out.lt)
      replace C1 := Lib.hid (C1.out.below bw9 (Nat.le_refl _))
      clear bw9
      go_upto_region 21 with fail
      obtain ⟨P0, P1, P2, P3, P4⟩ := P.out.cell
      have Pl := P.out.lt
      obtain ⟨D0, D1, D2, D3, D4⟩ := D.out.cell
      have Dl := D.out.lt
      go_wp2_with fail
      refine (Hc2.out _).mono ?_
      rintro e w10 ⟨rfl, bw10⟩
      clear P0 P1 P2 P3 P4 Pl
      clear D0 D1 D2 D3 D4 Dl
      replace B := B.trans (bw10.mono B.size)
      replace P := Lib.hid (P.out.below bw10 P.out.lt)
      replace D := Lib.hid (D.out.below bw10 D.out.lt)
      replace C1 := Lib.hid (C1.out.below bw10 (Nat.le_refl _))
      clear bw10
      go_wp2
      go_ret
      exact ⟨by simp, B⟩
  case true =>
    obtain ⟨N, F, rfl, rfl, hF, hN, hq, hx, hF2, hdx⟩ := low_facts EX.out.1.symm (EX.out.2.trans (by rw [← EX.out.1]; rfl))
    have Hq := Lib.hid hq
    have Hx := Lib.hid hx
    have HF2 := Lib.hid hF2
    have Hdx := Lib.hid hdx
    clear hq hx hF2 hdx EX
    obtain ⟨X0, X1, X2, X3, X4⟩ := X.out.cell
    have Xl := X.out.lt
    go_upto_region 10 with fail
    clear X0 X1 X2 X3 X4 Xl
    generalize hW : V6.alloc (.cells #[.int .i64 x0, .int .i64 x1, .int .i64 x2, .int .i64 x3] 38) = V11
    have bV11 : Below V6.heap.size V6 V11 := by rw [← hW]; clear hW; go_grown
    have R : Hid (Blk4 V11 V6.heap.size (x0, x1, x2, x3)) := by rw [← hW]; exact Blk4.new x0 x1 x2 x3 rfl
    clear hW
    have lQ : w1.heap.size < V6.heap.size := Q.out.lt
    have lX : w3.heap.size < V6.heap.size := X.out.lt
    have sR0 : w.heap.size ≤ V6.heap.size := B.size
    replace B := B.trans (bV11.mono B.size)
    replace Q := Lib.hid (Q.out.below bV11 Q.out.lt)
    replace X := Lib.hid (X.out.below bV11 X.out.lt)
    replace C1 := Lib.hid (C1.out.below bV11 (Nat.le_refl _))
    clear bV11
    obtain ⟨X0, X1, X2, X3, X4⟩ := X.out.cell
    have Xl := X.out.lt
    go_wp2_with fail
    clear X0 X1 X2 X3 X4 Xl
    have B9 := Lib.hid B
    clear B
    go_loopw [12] (fun i wr => ∃ k : Nat, i = .int .i64 k ∧ F ≤ k ∧ k ≤ N ∧ Blk4 wr (V6.heap.size) (halfI (N - k) (q0, q1, q2, q3)) ∧ Blk4 wr (w1.heap.size) (q0, q1, q2, q3) ∧ Blk5 wr (w3.heap.size) ((x0, x1, x2, x3), (F : Int)) ∧ Below V6.heap.size V11 wr ∧ Below w.heap.size w wr) (fun i _ => N - (intOf i).toNat)
    case atStart => exact ⟨F, rfl, Nat.le_refl _, hF, by rw [← Hx.out]; exact R.out, Q.out, X.out, Below.refl _ _, B9.out⟩
    case round =>
      clear Q X R C1 B9
      obtain ⟨k, rfl, hk1, hk2, hr, hqq, hxx, hbb, B⟩ := hrel
      have R := Lib.hid hr
      have Q := Lib.hid hqq
      have X := Lib.hid hxx
      have HB := Lib.hid hbb
      have lR := hr.lt
      clear hr hqq hxx hbb
      obtain ⟨⟨r0, r1, r2, r3⟩, hrv⟩ : ∃ v, v = halfI (N - k) (q0, q1, q2, q3) := ⟨_, rfl⟩
      rw [← hrv] at R
      have Hrv := Lib.hid hrv
      clear hrv
      by_cases hlt : k < N
      · obtain ⟨R0, R1, R2, R3⟩ := R.out.cell
        go_wp2_with fail
        refine (specRootX (r0, r1, r2, r3) _).mono ?_
        rintro e w90 ⟨o, p0, p1, p2, p3, rfl, hE, b90⟩
        have Hs : Hid (o = true ∧ ((p0, p1, p2, p3) : Q4) = halfI (N - (k + 1)) (q0, q1, q2, q3)) := by
          show _ ∧ _
          rw [Hrv.out] at hE
          exact root_step Hq.out (by rw [← HF2.out]; exact hk1) hlt hE
        obtain rfl := Hs.out.1
        have Hp := Lib.hid Hs.out.2
        have z90 := b90.size
        have R9 := Lib.hid (R.out.below b90 lR)
        have Q9 := Lib.hid (Q.out.below b90 Q.out.lt)
        have X9 := Lib.hid (X.out.below b90 X.out.lt)
        have HB9 := Lib.hid (HB.out.trans (b90.mono (by omega)))
        have B9 := Lib.hid (B.trans (b90.mono B.size))
        obtain ⟨S0, S1, S2, S3⟩ := R9.out.cell
        have Sf := R9.out.frozen
        have lR9 := R9.out.lt
        clear hE b90 Hs R Q X HB B R0 R1 R2 R3
        go_wp2
        go_roundw
        case rel =>
          have lv : V6.heap.size < w90.heap.size := lR9
          refine ⟨k + 1, by go_num, by omega, by omega, ?_, ?_, ?_, ?_, ?_⟩
          · rw [← Hp.out]
            exact (R9.out.set4 _ _ _ _).alloc _
          · exact ((((Q9.out.far (by dsimp only; omega) _).far (by dsimp only; omega) _).far (by dsimp only; omega) _).far (by dsimp only; omega) _).alloc _
          · exact ((((X9.out.far (by dsimp only; omega) _).far (by dsimp only; omega) _).far (by dsimp only; omega) _).far (by dsimp only; omega) _).alloc _
          · exact ((((HB9.out.setCell (by dsimp only; omega) _).setCell (by dsimp only; omega) _).setCell (by dsimp only; omega) _).setCell (by dsimp only; omega) _).alloc (by simp [World.setCell]; omega) _
          · exact ((((B9.out.setCell (by dsimp only; omega) _).setCell (by dsimp only; omega) _).setCell (by dsimp only; omega) _).setCell (by dsimp only; omega) _).alloc (by simp [World.setCell]; omega) _
        case measure => simp [intOf]; omega
      · obtain rfl : k = N := by omega
        have hrv : ((r0, r1, r2, r3) : Q4) = (q0, q1, q2, q3) := by rw [Hrv.out, Nat.sub_self]; rfl
        obtain ⟨h3, h4, h5, h6⟩ := q4_inj hrv
        subst h3 h4 h5 h6
        clear hrv Hrv HF2 Hx
        have C1 := Lib.hid (CW.out.below B (Nat.le_refl _))
        obtain ⟨Q0, Q1, Q2, Q3⟩ := Q.out.cell
        have Ql := Q.out.lt
        obtain ⟨R0, R1, R2, R3⟩ := R.out.cell
        have Rl := R.out.lt
        obtain ⟨X0, X1, X2, X3, X4⟩ := X.out.cell
        have Xl := X.out.lt
        go_wp2_with fail
        refine (implValidDyadic_any x0 x1 x2 x3 (F : Int) _).mono ?_
        rintro e w12 ⟨rfl, bw12⟩
        have hdx : dOk x0 x1 x2 x3 (F : Int) = true := Hdx.out
        rw [hdx]
        clear hdx
        replace B := B.trans (bw12.mono B.size)
        replace Q := Lib.hid (Q.out.below bw12 Q.out.lt)
        replace X := Lib.hid (X.out.below bw12 X.out.lt)
        replace R := Lib.hid (R.out.below bw12 R.out.lt)
        replace C1 := Lib.hid (C1.out.below bw12 (Nat.le_refl _))
        clear bw12
        clear Q0 Q1 Q2 Q3 Ql
        clear R0 R1 R2 R3 Rl
        clear X0 X1 X2 X3 X4 Xl
        go_upto_region 19 with fail
        go_wp2_with fail
        refine (drawCmp_any _ _ _ _ C1).mono ?_
        rintro e w13 ⟨a0, a1, a2, a3, a4, d0, d1, d2, d3, d4, rfl, bw13⟩
        replace B := B.trans (bw13.mono B.size)
        replace C1 := Lib.hid (C1.out.below bw13 (Nat.le_refl _))
        clear bw13
        go_upto_region 20 with fail
        generalize hW : (w13.alloc (.cells #[.int .i64 a0, .int .i64 a1, .int .i64 a2, .int .i64 a3, .int .i64 a4] 52)).alloc (.cells #[.int .i64 d0, .int .i64 d1, .int .i64 d2, .int .i64 d3, .int .i64 d4] 52) = V14
        have bV14 : Below w13.heap.size w13 V14 := by rw [← hW]; clear hW; go_grown
        have P : Hid (Blk5 V14 (w13.heap.size) ((a0, a1, a2, a3), a4)) := by rw [← hW]; exact (Blk5.new a0 a1 a2 a3 a4 rfl).alloc _
        have D : Hid (Blk5 V14 (w13.heap.size + 1) ((d0, d1, d2, d3), d4)) := by rw [← hW]; exact Blk5.new d0 d1 d2 d3 d4 (by simp)
        clear hW
        replace B := B.trans (bV14.mono B.size)
        replace C1 := Lib.hid (C1.out.below bV14 (Nat.le_refl _))
        clear bV14
        obtain ⟨n1, hn1⟩ : ∃ n1, n1 = (cmpR ((a0, a1, a2, a3), a4) ((d0, d1, d2, d3), d4)).1 := ⟨_, rfl⟩
        obtain ⟨o1, ho1⟩ : ∃ o1, o1 = (cmpR ((a0, a1, a2, a3), a4) ((d0, d1, d2, d3), d4)).2 := ⟨_, rfl⟩
        have hbd := cmpR_bd ((a0, a1, a2, a3), a4) ((d0, d1, d2, d3), d4)
        rw [← hn1] at hbd
        have Hc1 : Hid (∀ W, Calls Try.prog 42 #[dv a0 a1 a2 a3 a4, dv d0 d1 d2 d3 d4] W fun r w' => r = .returned (.tuple #[.int .i64 n1, .bool o1]) ∧ Below W.heap.size W w') := by
          show ∀ W, _
          intro W
          rw [hn1, ho1]
          exact compareAbs_any ((a0, a1, a2, a3), a4) ((d0, d1, d2, d3), d4) W
        have Hc2 : Hid (∀ W, Calls Try.prog 42 #[dv d0 d1 d2 d3 d4, dv a0 a1 a2 a3 a4] W fun r w' => r = .returned (.tuple #[.int .i64 (-n1), .bool o1]) ∧ Below W.heap.size W w') := by
          show ∀ W, _
          intro W
          rw [hn1, ho1, ← (cmpR_anti ((a0, a1, a2, a3), a4) ((d0, d1, d2, d3), d4)).1, ← (cmpR_anti ((a0, a1, a2, a3), a4) ((d0, d1, d2, d3), d4)).2]
          exact compareAbs_any ((d0, d1, d2, d3), d4) ((a0, a1, a2, a3), a4) W
        clear hn1 ho1
        rcases hbd with rfl | rfl | rfl
        all_goals
          obtain ⟨P0, P1, P2, P3, P4⟩ := P.out.cell
          have Pl := P.out.lt
          obtain ⟨D0, D1, D2, D3, D4⟩ := D.out.cell
          have Dl := D.out.lt
          go_wp2_with fail
          refine (Hc1.out _).mono ?_
          rintro e w15 ⟨rfl, bw15⟩
          clear P0 P1 P2 P3 P4 Pl
          clear D0 D1 D2 D3 D4 Dl
          replace B := B.trans (bw15.mono B.size)
          replace P := Lib.hid (P.out.below bw15 P.out.lt)
          replace D := Lib.hid (D.out.below bw15 D.out.lt)
          replace C1 := Lib.hid (C1.out.below bw15 (Nat.le_refl _))
          clear bw15
          go_upto_region 21 with fail
          obtain ⟨P0, P1, P2, P3, P4⟩ := P.out.cell
          have Pl := P.out.lt
          obtain ⟨D0, D1, D2, D3, D4⟩ := D.out.cell
          have Dl := D.out.lt
          go_wp2_with fail
          refine (Hc2.out _).mono ?_
          rintro e w16 ⟨rfl, bw16⟩
          clear P0 P1 P2 P3 P4 Pl
          clear D0 D1 D2 D3 D4 Dl
          replace B := B.trans (bw16.mono B.size)
          replace P := Lib.hid (P.out.below bw16 P.out.lt)
          replace D := Lib.hid (D.out.below bw16 D.out.lt)
          replace C1 := Lib.hid (C1.out.below bw16 (Nat.le_refl _))
          clear bw16
          go_wp2
          go_ret
          exact ⟨by simp, B⟩

set_option maxRecDepth 100000 in
theorem fnLowest_lifted (os : Os) (started : os.Started) (H : Type) (enc : TypeId × Value → H) :
    ReturnsInHanded {} Try.checked os 8 .any (Rows.fnLowestSpec.pre6 enc Try.prog Try.f8 Rows.fnLowestRow.domain false) (Rows.fnLowestSpec.post enc Try.prog Try.f8 false true false false) := by
  refine law_lifted (C := Try.checked) (tb := 4) Try.own started (by kernel_rfl) Try.func8
    (ChangeSpec.witness6 (enc := enc) (C := Try.checked) false ⟨#[], #[.slice none 0 0, .slice none 0 0], []⟩ 8 (by kernel_rfl) (by kernel_rfl) (by kernel_rfl) (by kernel_rfl))
    Try.laidOut (by kernel_rfl) rfl rfl Try.underlying4 (fun es he => ?_) ?_
  · match es, he with
    | [_, _], _ => rfl
  · intro W base args ds p hval0 hA hwt hsh hblk
    have hval : ∀ (j : Nat) t v, Try.f8.params[j]? = some t → args[j]? = some v → Value.okWide Try.prog W .any base t v := hval0
    have hA' : DataW.TrodAll enc Try.prog W 0 (fun _ => true) true Try.f8.params.toList args.toList ds p := hA
    rw [Try.params8] at hA' hval
    obtain ⟨v0, v1, d0, d1, p0, p1, rfl, rfl, rfl, h0, h1⟩ := trodAll_two hA'
    obtain ⟨A0, m0, p0, rfl, hl0, hb0⟩ := open_bytes Try.underlying35 Try.underlying5 Try.cellsU8 (hval 0 35 v0 rfl rfl) h0
    obtain ⟨A1, m1, p1, rfl, hl1, hb1⟩ := open_bytes Try.underlying35 Try.underlying5 Try.cellsU8 (hval 1 35 v1 rfl rfl) h1
    exact fnLowest_any A0 m0 p0 A1 m1 p1 W hl0 hb0 hl1 hb1

theorem fnLowest_holds : Rows.FnLowestSaid :=
  OpenClaim.holds_of_wide 8 Try.f8 rfl rfl rfl rfl rfl rfl rfl ⟨rfl, rfl, rfl, rfl, rfl⟩ rfl rfl rfl rfl rfl (by kernel_rfl) Try.func8 (by kernel_rfl)
    (of_decide_eq_true (by kernel_rfl)) (by unfold Func.isWrapper; first | (rw [if_pos (by decide +kernel)]; kernel_rfl) | (rw [if_neg (by decide +kernel)]; exact ⟨rfl, rfl⟩))
    (fun os started H enc _ => fnLowest_lifted os started H enc)

end Go.Proofs.Ytcmkkjdleihjfaa
