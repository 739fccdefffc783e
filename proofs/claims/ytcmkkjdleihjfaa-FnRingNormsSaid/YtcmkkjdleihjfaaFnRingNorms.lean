/- FnRingNorms is proved: for all drawn numbers, the law holds. No conditions. -/
import Derived.Test.YtcmkkjdleihjfaaFrame
import Derived.Test.YtcmkkjdleihjfaaOpenB
import Derived.Test.YtcmkkjdleihjfaaDrw4
import Derived.Test.YtcmkkjdleihjfaaRgN
import Derived.Laws.StructEq
import Derived.Deep.DeepCutAuto
namespace Go.Proofs.Ytcmkkjdleihjfaa
open Go.RowKit Go.WideShapes Go.ChangeShapes Go.ChangeAt

set_option maxRecDepth 100000 in
set_option maxHeartbeats 8000000 in
theorem fnRingNorms_any (A0 : Option Addr) (m0 p0' : Nat) (A1 : Option Addr) (m1' p1' : Nat) (w : World) (hl0 : m0 ≤ maxLen) (hb0 : ByteAt w A0 m0) (_hl1 : m1' ≤ maxLen) (hb1 : ByteAt w A1 m1') :
    Calls Try.prog 7 #[.slice A0 m0 p0', .slice A1 m1' p1'] w fun e w' => e = .returned (.bool true) ∧ Below w.heap.size w w' := by
  have C0 := Lib.hid hb0
  have C1 := Lib.hid hb1
  clear hb0 hb1
  have B : Below w.heap.size w w := Below.refl _ _
  go_enter Try.func7, Try.ntmps7
  go_wp2_with fail
  refine (big_any _ _ _ _ _ _ _ hl0).mono ?_
  rintro e w' ⟨k, rfl, rfl⟩
  cases k
  case true =>
    go_wp2
    go_ret
    exact ⟨rfl, B⟩
  go_wp2_with fail
  refine (drawDiv_any _ _ _ _ C0).mono ?_
  rintro e w1 ⟨x0, x1, x2, x3, y0, y1, y2, y3, rfl, bw1⟩
  replace B := B.trans (bw1.mono B.size)
  replace C0 := Lib.hid (C0.out.below bw1 (Nat.le_refl _))
  replace C1 := Lib.hid (C1.out.below bw1 (Nat.le_refl _))
  clear bw1
  go_upto_region 4 with fail
  generalize hW : (w1.alloc (.cells #[.int .i64 x0, .int .i64 x1, .int .i64 x2, .int .i64 x3] 38)).alloc (.cells #[.int .i64 y0, .int .i64 y1, .int .i64 y2, .int .i64 y3] 38) = V2
  have bV2 : Below w1.heap.size w1 V2 := by rw [← hW]; clear hW; go_grown
  have X : Hid (Blk4 V2 (w1.heap.size) (x0, x1, x2, x3)) := by rw [← hW]; exact (Blk4.new x0 x1 x2 x3 rfl).alloc _
  have Y : Hid (Blk4 V2 (w1.heap.size + 1) (y0, y1, y2, y3)) := by rw [← hW]; exact Blk4.new y0 y1 y2 y3 (by simp)
  clear hW
  replace B := B.trans (bV2.mono B.size)
  replace C0 := Lib.hid (C0.out.below bV2 (Nat.le_refl _))
  replace C1 := Lib.hid (C1.out.below bV2 (Nat.le_refl _))
  clear bV2
  obtain ⟨X0, X1, X2, X3⟩ := X.out.cell
  have Xl := X.out.lt
  obtain ⟨Y0, Y1, Y2, Y3⟩ := Y.out.cell
  have Yl := Y.out.lt
  go_wp2_with fail
  refine (implMulX (x0, x1, x2, x3) (y0, y1, y2, y3) _).mono ?_
  rintro e w3 ⟨a, p0, p1, p2, p3, rfl, EP, bw3⟩
  clear X0 X1 X2 X3 Xl
  clear Y0 Y1 Y2 Y3 Yl
  replace EP := Lib.hid EP
  replace B := B.trans (bw3.mono B.size)
  replace X := Lib.hid (X.out.below bw3 X.out.lt)
  replace Y := Lib.hid (Y.out.below bw3 Y.out.lt)
  replace C0 := Lib.hid (C0.out.below bw3 (Nat.le_refl _))
  replace C1 := Lib.hid (C1.out.below bw3 (Nat.le_refl _))
  clear bw3
  go_upto_region 5 with fail
  generalize hW : w3.alloc (.cells #[.int .i64 p0, .int .i64 p1, .int .i64 p2, .int .i64 p3] 38) = V4
  have bV4 : Below w3.heap.size w3 V4 := by rw [← hW]; clear hW; go_grown
  have P : Hid (Blk4 V4 (w3.heap.size) (p0, p1, p2, p3)) := by rw [← hW]; exact Blk4.new p0 p1 p2 p3 rfl
  clear hW
  replace B := B.trans (bV4.mono B.size)
  replace X := Lib.hid (X.out.below bV4 X.out.lt)
  replace Y := Lib.hid (Y.out.below bV4 Y.out.lt)
  replace C0 := Lib.hid (C0.out.below bV4 (Nat.le_refl _))
  replace C1 := Lib.hid (C1.out.below bV4 (Nat.le_refl _))
  clear bV4
  obtain ⟨X0, X1, X2, X3⟩ := X.out.cell
  have Xl := X.out.lt
  go_wp2_with fail
  refine (implAbsX (x0, x1, x2, x3) _).mono ?_
  rintro e w5 ⟨o1, u, v, rfl, IX, bw5⟩
  clear X0 X1 X2 X3 Xl
  replace IX := Lib.hid IX
  replace B := B.trans (bw5.mono B.size)
  replace X := Lib.hid (X.out.below bw5 X.out.lt)
  replace Y := Lib.hid (Y.out.below bw5 Y.out.lt)
  replace P := Lib.hid (P.out.below bw5 P.out.lt)
  replace C0 := Lib.hid (C0.out.below bw5 (Nat.le_refl _))
  replace C1 := Lib.hid (C1.out.below bw5 (Nat.le_refl _))
  clear bw5
  go_upto_region 6 with fail
  obtain ⟨Y0, Y1, Y2, Y3⟩ := Y.out.cell
  have Yl := Y.out.lt
  go_wp2_with fail
  refine (implAbsX (y0, y1, y2, y3) _).mono ?_
  rintro e w6 ⟨o2, p, q, rfl, IY, bw6⟩
  clear Y0 Y1 Y2 Y3 Yl
  replace IY := Lib.hid IY
  replace B := B.trans (bw6.mono B.size)
  replace X := Lib.hid (X.out.below bw6 X.out.lt)
  replace Y := Lib.hid (Y.out.below bw6 Y.out.lt)
  replace P := Lib.hid (P.out.below bw6 P.out.lt)
  replace C0 := Lib.hid (C0.out.below bw6 (Nat.le_refl _))
  replace C1 := Lib.hid (C1.out.below bw6 (Nat.le_refl _))
  clear bw6
  go_upto_region 7 with fail
  obtain ⟨P0, P1, P2, P3⟩ := P.out.cell
  have Pl := P.out.lt
  go_wp2_with fail
  refine (implAbsX (p0, p1, p2, p3) _).mono ?_
  rintro e w7 ⟨o3, r, s, rfl, IP, bw7⟩
  clear P0 P1 P2 P3 Pl
  replace IP := Lib.hid IP
  replace B := B.trans (bw7.mono B.size)
  replace X := Lib.hid (X.out.below bw7 X.out.lt)
  replace Y := Lib.hid (Y.out.below bw7 Y.out.lt)
  replace P := Lib.hid (P.out.below bw7 P.out.lt)
  replace C0 := Lib.hid (C0.out.below bw7 (Nat.le_refl _))
  replace C1 := Lib.hid (C1.out.below bw7 (Nat.le_refl _))
  clear bw7
  go_upto_region 8 with fail
  have Hrs : Hid ((a && o1 && o2 && o3) = true → (RowKit.wrap64 (u * p) = u * p ∧ RowKit.wrap64 (2 * v) = 2 * v ∧ RowKit.wrap64 (2 * v * q) = 2 * v * q ∧ RowKit.wrap64 (u * p + 2 * v * q) = r ∧ RowKit.wrap64 (u * q) = u * q ∧ RowKit.wrap64 (v * p) = v * p ∧ RowKit.wrap64 (u * q + v * p) = s)) := by
    intro h
    simp only [Bool.and_eq_true] at h
    obtain ⟨⟨⟨ha, h1⟩, h2⟩, h3⟩ := h
    obtain ⟨ku, kv⟩ := coef_of (IX.out.1.symm.trans h1)
    obtain ⟨kp, kq⟩ := coef_of (IY.out.1.symm.trans h2)
    rw [← i_out IX.out.1 IX.out.2.1 h1] at ku
    rw [← i_out IX.out.1 IX.out.2.2 h1] at kv
    rw [← i_out IY.out.1 IY.out.2.1 h2] at kp
    rw [← i_out IY.out.1 IY.out.2.2 h2] at kq
    refine norm_wraps ku kv kp kq ?_ ?_
    · rw [i_out IP.out.1 IP.out.2.1 h3, out_t EP.out ha, absU_mul, i_out IX.out.1 IX.out.2.1 h1, i_out IX.out.1 IX.out.2.2 h1, i_out IY.out.1 IY.out.2.1 h2, i_out IY.out.1 IY.out.2.2 h2]
    · rw [i_out IP.out.1 IP.out.2.2 h3, out_t EP.out ha, absV_mul, i_out IX.out.1 IX.out.2.1 h1, i_out IX.out.1 IX.out.2.2 h1, i_out IY.out.1 IY.out.2.1 h2, i_out IY.out.1 IY.out.2.2 h2]
  go_cut [93] (fun s wx => s = .bool false ∧ w7 = wx)
  case first =>
    cases a
    · go_wp2_with fail
      go_meet
      exact ⟨rfl, rfl⟩
    cases o1
    · go_wp2_with fail
      go_meet
      exact ⟨rfl, rfl⟩
    cases o2
    · go_wp2_with fail
      go_meet
      exact ⟨rfl, rfl⟩
    cases o3
    · go_wp2_with fail
      go_meet
      exact ⟨rfl, rfl⟩
    · obtain ⟨h1, h2, h3, h4, h5, h6, h7⟩ := Hrs.out rfl
      go_wp2_with fail
      go_meet
      exact ⟨rfl, rfl⟩
  case rest =>
    obtain ⟨rfl, rfl⟩ := hcut
    clear Hrs IX IY IP
    go_upto_region 10 with fail
    obtain ⟨P0, P1, P2, P3⟩ := P.out.cell
    have Pl := P.out.lt
    obtain ⟨Y0, Y1, Y2, Y3⟩ := Y.out.cell
    have Yl := Y.out.lt
    go_wp2_with fail
    refine (implQuoX (p0, p1, p2, p3) (y0, y1, y2, y3) _).mono ?_
    rintro e w8 ⟨o4, z0, z1, z2, z3, rfl, EZ, bw8⟩
    clear P0 P1 P2 P3 Pl
    clear Y0 Y1 Y2 Y3 Yl
    replace EZ := Lib.hid EZ
    replace B := B.trans (bw8.mono B.size)
    replace X := Lib.hid (X.out.below bw8 X.out.lt)
    replace Y := Lib.hid (Y.out.below bw8 Y.out.lt)
    replace P := Lib.hid (P.out.below bw8 P.out.lt)
    replace C0 := Lib.hid (C0.out.below bw8 (Nat.le_refl _))
    replace C1 := Lib.hid (C1.out.below bw8 (Nat.le_refl _))
    clear bw8
    go_upto_region 11 with fail
    generalize hW : w8.alloc (.cells #[.int .i64 z0, .int .i64 z1, .int .i64 z2, .int .i64 z3] 38) = V9
    have bV9 : Below w8.heap.size w8 V9 := by rw [← hW]; clear hW; go_grown
    have Z : Hid (Blk4 V9 (w8.heap.size) (z0, z1, z2, z3)) := by rw [← hW]; exact Blk4.new z0 z1 z2 z3 rfl
    clear hW
    replace B := B.trans (bV9.mono B.size)
    replace X := Lib.hid (X.out.below bV9 X.out.lt)
    replace Y := Lib.hid (Y.out.below bV9 Y.out.lt)
    replace P := Lib.hid (P.out.below bV9 P.out.lt)
    replace C0 := Lib.hid (C0.out.below bV9 (Nat.le_refl _))
    replace C1 := Lib.hid (C1.out.below bV9 (Nat.le_refl _))
    clear bV9
    have Hz : Hid ((a && o4) = true → ((z0, z1, z2, z3) : Q4) = (x0, x1, x2, x3)) := by
      intro h
      simp only [Bool.and_eq_true] at h
      obtain ⟨ha, h4⟩ := h
      exact quo_back (out_t EP.out ha) (EZ.out.1.symm.trans h4) (out_t EZ.out h4)
    obtain ⟨X0, X1, X2, X3⟩ := X.out.cell
    have Xl := X.out.lt
    obtain ⟨Z0, Z1, Z2, Z3⟩ := Z.out.cell
    have Zl := Z.out.lt
    go_cut [108] (fun s wx => s = .bool false ∧ V9 = wx)
    case first =>
      cases a
      · go_wp2_with fail
        go_meet
        exact ⟨rfl, rfl⟩
      cases o4
      · go_wp2_with fail
        go_meet
        exact ⟨rfl, rfl⟩
      · obtain ⟨h3, h4, h5, h6⟩ := q4_inj (Hz.out rfl)
        subst h3 h4 h5 h6
        go_wp2_with fail
        go_meet
        exact ⟨rfl, rfl⟩
    case rest =>
      obtain ⟨rfl, rfl⟩ := hcut
      clear X0 X1 X2 X3 Xl
      clear Z0 Z1 Z2 Z3 Zl
      clear Hz EP EZ X Y P Z
      go_upto_region 13 with fail
      go_wp2_with fail
      refine (drawRoot_any _ _ _ _ C1).mono ?_
      rintro e w10 ⟨d0, d1, d2, d3, rfl, bw10⟩
      replace B := B.trans (bw10.mono B.size)
      replace C0 := Lib.hid (C0.out.below bw10 (Nat.le_refl _))
      replace C1 := Lib.hid (C1.out.below bw10 (Nat.le_refl _))
      clear bw10
      go_upto_region 14 with fail
      generalize hW : w10.alloc (.cells #[.int .i64 d0, .int .i64 d1, .int .i64 d2, .int .i64 d3] 38) = V11
      have bV11 : Below w10.heap.size w10 V11 := by rw [← hW]; clear hW; go_grown
      have D : Hid (Blk4 V11 (w10.heap.size) (d0, d1, d2, d3)) := by rw [← hW]; exact Blk4.new d0 d1 d2 d3 rfl
      clear hW
      replace B := B.trans (bV11.mono B.size)
      replace C0 := Lib.hid (C0.out.below bV11 (Nat.le_refl _))
      replace C1 := Lib.hid (C1.out.below bV11 (Nat.le_refl _))
      clear bV11
      obtain ⟨D0, D1, D2, D3⟩ := D.out.cell
      have Dl := D.out.lt
      go_wp2_with fail
      refine (implRootX (d0, d1, d2, d3) _).mono ?_
      rintro e w12 ⟨o5, u0, u1, u2, u3, rfl, EU, bw12⟩
      clear D0 D1 D2 D3 Dl
      replace EU := Lib.hid EU
      replace B := B.trans (bw12.mono B.size)
      replace D := Lib.hid (D.out.below bw12 D.out.lt)
      replace C0 := Lib.hid (C0.out.below bw12 (Nat.le_refl _))
      replace C1 := Lib.hid (C1.out.below bw12 (Nat.le_refl _))
      clear bw12
      go_upto_region 15 with fail
      generalize hW : w12.alloc (.cells #[.int .i64 u0, .int .i64 u1, .int .i64 u2, .int .i64 u3] 38) = V13
      have bV13 : Below w12.heap.size w12 V13 := by rw [← hW]; clear hW; go_grown
      have U : Hid (Blk4 V13 (w12.heap.size) (u0, u1, u2, u3)) := by rw [← hW]; exact Blk4.new u0 u1 u2 u3 rfl
      clear hW
      replace B := B.trans (bV13.mono B.size)
      replace D := Lib.hid (D.out.below bV13 D.out.lt)
      replace C0 := Lib.hid (C0.out.below bV13 (Nat.le_refl _))
      replace C1 := Lib.hid (C1.out.below bV13 (Nat.le_refl _))
      clear bV13
      obtain ⟨U0, U1, U2, U3⟩ := U.out.cell
      have Ul := U.out.lt
      go_wp2_with fail
      refine (implHalfX (u0, u1, u2, u3) _).mono ?_
      rintro e w14 ⟨o6, v0, v1, v2, v3, rfl, EV, bw14⟩
      clear U0 U1 U2 U3 Ul
      replace EV := Lib.hid EV
      replace B := B.trans (bw14.mono B.size)
      replace D := Lib.hid (D.out.below bw14 D.out.lt)
      replace U := Lib.hid (U.out.below bw14 U.out.lt)
      replace C0 := Lib.hid (C0.out.below bw14 (Nat.le_refl _))
      replace C1 := Lib.hid (C1.out.below bw14 (Nat.le_refl _))
      clear bw14
      go_upto_region 16 with fail
      generalize hW : w14.alloc (.cells #[.int .i64 v0, .int .i64 v1, .int .i64 v2, .int .i64 v3] 38) = V15
      have bV15 : Below w14.heap.size w14 V15 := by rw [← hW]; clear hW; go_grown
      have V : Hid (Blk4 V15 (w14.heap.size) (v0, v1, v2, v3)) := by rw [← hW]; exact Blk4.new v0 v1 v2 v3 rfl
      clear hW
      replace B := B.trans (bV15.mono B.size)
      replace D := Lib.hid (D.out.below bV15 D.out.lt)
      replace U := Lib.hid (U.out.below bV15 U.out.lt)
      replace C0 := Lib.hid (C0.out.below bV15 (Nat.le_refl _))
      replace C1 := Lib.hid (C1.out.below bV15 (Nat.le_refl _))
      clear bV15
      have Hv : Hid (o5 = true → o6 = true ∧ ((v0, v1, v2, v3) : Q4) = (d0, d1, d2, d3)) := by
        intro h
        have hok := EU.out.1.symm.trans h
        rw [Bool.and_eq_true] at hok
        have hu := out_t EU.out h
        obtain ⟨k1, k2⟩ := halv_root hu (by rw [hu]; exact hok.2)
        have h6 := EV.out.1.trans k1
        exact ⟨h6, (out_t EV.out h6).trans k2⟩
      obtain ⟨V0, V1, V2, V3⟩ := V.out.cell
      have Vl := V.out.lt
      obtain ⟨D0, D1, D2, D3⟩ := D.out.cell
      have Dl := D.out.lt
      go_cut [130] (fun s wx => s = .bool false ∧ V15 = wx)
      case first =>
        cases o5
        · go_wp2_with fail
          go_meet
          exact ⟨rfl, rfl⟩
        · obtain ⟨h2, h1⟩ := Hv.out rfl
          obtain ⟨h3, h4, h5, h6⟩ := q4_inj h1
          subst h2 h3 h4 h5 h6
          go_wp2_with fail
          go_meet
          exact ⟨rfl, rfl⟩
      case rest =>
        obtain ⟨rfl, rfl⟩ := hcut
        clear V0 V1 V2 V3 Vl
        clear D0 D1 D2 D3 Dl
        clear Hv EU EV U V
        go_upto_region 18 with fail
        obtain ⟨D0, D1, D2, D3⟩ := D.out.cell
        have Dl := D.out.lt
        go_wp2_with fail
        refine (implNormX (d0, d1, d2, d3) _).mono ?_
        rintro e w16 ⟨o7, n, rfl, EN, bw16⟩
        clear D0 D1 D2 D3 Dl
        replace EN := Lib.hid EN
        replace B := B.trans (bw16.mono B.size)
        replace D := Lib.hid (D.out.below bw16 D.out.lt)
        replace C0 := Lib.hid (C0.out.below bw16 (Nat.le_refl _))
        replace C1 := Lib.hid (C1.out.below bw16 (Nat.le_refl _))
        clear bw16
        go_upto_region 19 with fail
        obtain ⟨D0, D1, D2, D3⟩ := D.out.cell
        have Dl := D.out.lt
        go_wp2_with fail
        refine (specNormX (d0, d1, d2, d3) _).mono ?_
        rintro e w17 ⟨o8, m, rfl, EM, bw17⟩
        clear D0 D1 D2 D3 Dl
        obtain rfl : o8 = o7 := EM.1.trans EN.out.1.symm
        obtain rfl : m = n := EM.2.trans EN.out.2.symm
        have hnn := norm_nonneg EN.out
        clear EM EN
        replace B := B.trans (bw17.mono B.size)
        replace D := Lib.hid (D.out.below bw17 D.out.lt)
        replace C0 := Lib.hid (C0.out.below bw17 (Nat.le_refl _))
        replace C1 := Lib.hid (C1.out.below bw17 (Nat.le_refl _))
        clear bw17
        go_wp2
        go_ret
        exact ⟨by simp, B⟩

set_option maxRecDepth 100000 in
theorem fnRingNorms_lifted (os : Os) (started : os.Started) (H : Type) (enc : TypeId × Value → H) :
    ReturnsInHanded {} Try.checked os 7 .any (Rows.fnRingNormsSpec.pre6 enc Try.prog Try.f7 Rows.fnRingNormsRow.domain false) (Rows.fnRingNormsSpec.post enc Try.prog Try.f7 false true false false) := by
  refine law_lifted (C := Try.checked) (tb := 4) Try.own started (by kernel_rfl) Try.func7
    (ChangeSpec.witness6 (enc := enc) (C := Try.checked) false ⟨#[], #[.slice none 0 0, .slice none 0 0], []⟩ 8 (by kernel_rfl) (by kernel_rfl) (by kernel_rfl) (by kernel_rfl))
    Try.laidOut (by kernel_rfl) rfl rfl Try.underlying4 (fun es he => ?_) ?_
  · match es, he with
    | [_, _], _ => rfl
  · intro W base args ds p hval0 hA hwt hsh hblk
    have hval : ∀ (j : Nat) t v, Try.f7.params[j]? = some t → args[j]? = some v → Value.okWide Try.prog W .any base t v := hval0
    have hA' : DataW.TrodAll enc Try.prog W 0 (fun _ => true) true Try.f7.params.toList args.toList ds p := hA
    rw [Try.params7] at hA' hval
    obtain ⟨v0, v1, d0, d1, p0, p1, rfl, rfl, rfl, h0, h1⟩ := trodAll_two hA'
    obtain ⟨A0, m0, p0, rfl, hl0, hb0⟩ := open_bytes Try.underlying35 Try.underlying5 Try.cellsU8 (hval 0 35 v0 rfl rfl) h0
    obtain ⟨A1, m1, p1, rfl, hl1, hb1⟩ := open_bytes Try.underlying35 Try.underlying5 Try.cellsU8 (hval 1 35 v1 rfl rfl) h1
    exact fnRingNorms_any A0 m0 p0 A1 m1 p1 W hl0 hb0 hl1 hb1

theorem fnRingNorms_holds : Rows.FnRingNormsSaid :=
  OpenClaim.holds_of_wide 7 Try.f7 rfl rfl rfl rfl rfl rfl rfl ⟨rfl, rfl, rfl, rfl, rfl⟩ rfl rfl rfl rfl rfl (by kernel_rfl) Try.func7 (by kernel_rfl)
    (of_decide_eq_true (by kernel_rfl)) (by unfold Func.isWrapper; first | (rw [if_pos (by decide +kernel)]; kernel_rfl) | (rw [if_neg (by decide +kernel)]; exact ⟨rfl, rfl⟩))
    (fun os started H enc _ => fnRingNorms_lifted os started H enc)

end Go.Proofs.Ytcmkkjdleihjfaa
