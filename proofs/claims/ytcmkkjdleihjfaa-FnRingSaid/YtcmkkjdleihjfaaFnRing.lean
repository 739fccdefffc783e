/- FnRing is proved: for all drawn numbers, the law holds. No conditions. -/
import Derived.Test.YtcmkkjdleihjfaaFrame
import Derived.Test.YtcmkkjdleihjfaaOpenB
import Derived.Test.YtcmkkjdleihjfaaDrw4
import Derived.Test.YtcmkkjdleihjfaaRgC
import Derived.Laws.StructEq
import Derived.Deep.DeepCutAuto
namespace Go.Proofs.Ytcmkkjdleihjfaa
open Go.RowKit Go.WideShapes Go.ChangeShapes Go.ChangeAt

set_option maxRecDepth 100000 in
set_option maxHeartbeats 8000000 in
theorem fnRing_any (A0 : Option Addr) (m0 p0' : Nat) (A1 : Option Addr) (m1' p1' : Nat) (w : World) (hl0 : m0 ≤ maxLen) (hb0 : ByteAt w A0 m0) (_hl1 : m1' ≤ maxLen) (hb1 : ByteAt w A1 m1') :
    Calls Try.prog 6 #[.slice A0 m0 p0', .slice A1 m1' p1'] w fun e w' => e = .returned (.bool true) ∧ Below w.heap.size w w' := by
  have hl0' := hl0
  have C0 := Lib.hid hb0
  have C1 := Lib.hid hb1
  clear hb0 hb1 hl0'
  have B : Below w.heap.size w w := Below.refl _ _
  go_enter Try.func6, Try.ntmps6
  go_wp2_with fail
  refine (big_any _ _ _ _ _ _ _ hl0).mono ?_
  rintro e w' ⟨k, rfl, rfl⟩
  cases k
  case true =>
    go_wp2
    go_ret
    exact ⟨rfl, B⟩
  go_wp2_with fail
  refine (drawMul_any _ _ _ _ C0).mono ?_
  rintro e w1 ⟨x0, x1, x2, x3, y0, y1, y2, y3, rfl, bw1⟩
  replace B := B.trans (bw1.mono B.size)
  replace C0 := Lib.hid (C0.out.below bw1 (Nat.le_refl _))
  replace C1 := Lib.hid (C1.out.below bw1 (Nat.le_refl _))
  clear bw1
  go_upto_region 4 with fail
  generalize hW : (w1.alloc (.cells #[.int .i64 x0, .int .i64 x1, .int .i64 x2, .int .i64 x3] 38)).alloc (.cells #[.int .i64 y0, .int .i64 y1, .int .i64 y2, .int .i64 y3] 38) = V2
  have bV2 : Below w1.heap.size w1 V2 := by rw [← hW]; clear hW; go_grown
  have X : Hid (Blk4 V2 (w1.heap.size) (x0, x1, x2, x3)) := by rw [← hW]; exact (Blk4.new x0 x1 x2 x3 rfl).alloc _
  have Y : Hid (Blk4 V2 (w1.heap.size + 1) (y0, y1, y2, y3)) := by rw [← hW]; exact Blk4.new y0 y1 y2 y3 (by simp)
  clear hW
  replace B := B.trans (bV2.mono B.size)
  replace C0 := Lib.hid (C0.out.below bV2 (Nat.le_refl _))
  replace C1 := Lib.hid (C1.out.below bV2 (Nat.le_refl _))
  clear bV2
  go_wp2_with fail
  refine (drawConj_any _ _ _ _ C1).mono ?_
  rintro e w3 ⟨z0, z1, z2, z3, rfl, bw3⟩
  replace B := B.trans (bw3.mono B.size)
  replace X := Lib.hid (X.out.below bw3 X.out.lt)
  replace Y := Lib.hid (Y.out.below bw3 Y.out.lt)
  replace C0 := Lib.hid (C0.out.below bw3 (Nat.le_refl _))
  replace C1 := Lib.hid (C1.out.below bw3 (Nat.le_refl _))
  clear bw3
  go_upto_region 5 with fail
  generalize hW : w3.alloc (.cells #[.int .i64 z0, .int .i64 z1, .int .i64 z2, .int .i64 z3] 38) = V4
  have bV4 : Below w3.heap.size w3 V4 := by rw [← hW]; clear hW; go_grown
  have Z : Hid (Blk4 V4 (w3.heap.size) (z0, z1, z2, z3)) := by rw [← hW]; exact Blk4.new z0 z1 z2 z3 rfl
  clear hW
  replace B := B.trans (bV4.mono B.size)
  replace X := Lib.hid (X.out.below bV4 X.out.lt)
  replace Y := Lib.hid (Y.out.below bV4 Y.out.lt)
  replace C0 := Lib.hid (C0.out.below bV4 (Nat.le_refl _))
  replace C1 := Lib.hid (C1.out.below bV4 (Nat.le_refl _))
  clear bV4
  obtain ⟨X0, X1, X2, X3⟩ := X.out.cell
  have Xl := X.out.lt
  obtain ⟨Y0, Y1, Y2, Y3⟩ := Y.out.cell
  have Yl := Y.out.lt
  go_wp2_with fail
  refine (implMulX (x0, x1, x2, x3) (y0, y1, y2, y3) _).mono ?_
  rintro e w5 ⟨a, p0, p1, p2, p3, rfl, EP, bw5⟩
  clear X0 X1 X2 X3 Xl
  clear Y0 Y1 Y2 Y3 Yl
  replace EP := Lib.hid EP
  replace B := B.trans (bw5.mono B.size)
  replace X := Lib.hid (X.out.below bw5 X.out.lt)
  replace Y := Lib.hid (Y.out.below bw5 Y.out.lt)
  replace Z := Lib.hid (Z.out.below bw5 Z.out.lt)
  replace C0 := Lib.hid (C0.out.below bw5 (Nat.le_refl _))
  replace C1 := Lib.hid (C1.out.below bw5 (Nat.le_refl _))
  clear bw5
  go_upto_region 6 with fail
  generalize hW : w5.alloc (.cells #[.int .i64 p0, .int .i64 p1, .int .i64 p2, .int .i64 p3] 38) = V6
  have bV6 : Below w5.heap.size w5 V6 := by rw [← hW]; clear hW; go_grown
  have P : Hid (Blk4 V6 (w5.heap.size) (p0, p1, p2, p3)) := by rw [← hW]; exact Blk4.new p0 p1 p2 p3 rfl
  clear hW
  replace B := B.trans (bV6.mono B.size)
  replace X := Lib.hid (X.out.below bV6 X.out.lt)
  replace Y := Lib.hid (Y.out.below bV6 Y.out.lt)
  replace Z := Lib.hid (Z.out.below bV6 Z.out.lt)
  replace C0 := Lib.hid (C0.out.below bV6 (Nat.le_refl _))
  replace C1 := Lib.hid (C1.out.below bV6 (Nat.le_refl _))
  clear bV6
  obtain ⟨Y0, Y1, Y2, Y3⟩ := Y.out.cell
  have Yl := Y.out.lt
  obtain ⟨X0, X1, X2, X3⟩ := X.out.cell
  have Xl := X.out.lt
  go_wp2_with fail
  refine (implMulX (y0, y1, y2, y3) (x0, x1, x2, x3) _).mono ?_
  rintro e w8 ⟨o', q0, q1, q2, q3, rfl, EQ, bw8⟩
  clear Y0 Y1 Y2 Y3 Yl
  clear X0 X1 X2 X3 Xl
  obtain ⟨h1, h2⟩ := same_out EP.out EQ (mulOkQ_comm (x0, x1, x2, x3) (y0, y1, y2, y3)) (fun _ => mulQ_comm (x0, x1, x2, x3) (y0, y1, y2, y3))
  obtain ⟨h3, h4, h5, h6⟩ := q4_inj h2.symm
  replace h1 := h1.symm
  subst h1 h3 h4 h5 h6
  clear EQ h2
  replace B := B.trans (bw8.mono B.size)
  replace X := Lib.hid (X.out.below bw8 X.out.lt)
  replace Y := Lib.hid (Y.out.below bw8 Y.out.lt)
  replace Z := Lib.hid (Z.out.below bw8 Z.out.lt)
  replace P := Lib.hid (P.out.below bw8 P.out.lt)
  replace C0 := Lib.hid (C0.out.below bw8 (Nat.le_refl _))
  replace C1 := Lib.hid (C1.out.below bw8 (Nat.le_refl _))
  clear bw8
  go_upto_region 7 with fail
  generalize hW : w8.alloc (.cells #[.int .i64 p0, .int .i64 p1, .int .i64 p2, .int .i64 p3] 38) = V9
  have bV9 : Below w8.heap.size w8 V9 := by rw [← hW]; clear hW; go_grown
  have Q : Hid (Blk4 V9 (w8.heap.size) (p0, p1, p2, p3)) := by rw [← hW]; exact Blk4.new p0 p1 p2 p3 rfl
  clear hW
  replace B := B.trans (bV9.mono B.size)
  replace X := Lib.hid (X.out.below bV9 X.out.lt)
  replace Y := Lib.hid (Y.out.below bV9 Y.out.lt)
  replace Z := Lib.hid (Z.out.below bV9 Z.out.lt)
  replace P := Lib.hid (P.out.below bV9 P.out.lt)
  replace C0 := Lib.hid (C0.out.below bV9 (Nat.le_refl _))
  replace C1 := Lib.hid (C1.out.below bV9 (Nat.le_refl _))
  clear bV9
  obtain ⟨X0, X1, X2, X3⟩ := X.out.cell
  have Xl := X.out.lt
  obtain ⟨Y0, Y1, Y2, Y3⟩ := Y.out.cell
  have Yl := Y.out.lt
  go_wp2_with fail
  refine (specMulX (x0, x1, x2, x3) (y0, y1, y2, y3) _).mono ?_
  rintro e w10 ⟨o', q0, q1, q2, q3, rfl, ER, bw10⟩
  clear X0 X1 X2 X3 Xl
  clear Y0 Y1 Y2 Y3 Yl
  obtain ⟨h1, h2⟩ := same_out EP.out ER rfl (fun _ => rfl)
  obtain ⟨h3, h4, h5, h6⟩ := q4_inj h2.symm
  replace h1 := h1.symm
  subst h1 h3 h4 h5 h6
  clear ER h2
  replace B := B.trans (bw10.mono B.size)
  replace X := Lib.hid (X.out.below bw10 X.out.lt)
  replace Y := Lib.hid (Y.out.below bw10 Y.out.lt)
  replace Z := Lib.hid (Z.out.below bw10 Z.out.lt)
  replace P := Lib.hid (P.out.below bw10 P.out.lt)
  replace Q := Lib.hid (Q.out.below bw10 Q.out.lt)
  replace C0 := Lib.hid (C0.out.below bw10 (Nat.le_refl _))
  replace C1 := Lib.hid (C1.out.below bw10 (Nat.le_refl _))
  clear bw10
  go_upto_region 8 with fail
  generalize hW : w10.alloc (.cells #[.int .i64 p0, .int .i64 p1, .int .i64 p2, .int .i64 p3] 38) = V11
  have bV11 : Below w10.heap.size w10 V11 := by rw [← hW]; clear hW; go_grown
  have R : Hid (Blk4 V11 (w10.heap.size) (p0, p1, p2, p3)) := by rw [← hW]; exact Blk4.new p0 p1 p2 p3 rfl
  clear hW
  replace B := B.trans (bV11.mono B.size)
  replace X := Lib.hid (X.out.below bV11 X.out.lt)
  replace Y := Lib.hid (Y.out.below bV11 Y.out.lt)
  replace Z := Lib.hid (Z.out.below bV11 Z.out.lt)
  replace P := Lib.hid (P.out.below bV11 P.out.lt)
  replace Q := Lib.hid (Q.out.below bV11 Q.out.lt)
  replace C0 := Lib.hid (C0.out.below bV11 (Nat.le_refl _))
  replace C1 := Lib.hid (C1.out.below bV11 (Nat.le_refl _))
  clear bV11
  obtain ⟨P0, P1, P2, P3⟩ := P.out.cell
  have Pl := P.out.lt
  obtain ⟨Q0, Q1, Q2, Q3⟩ := Q.out.cell
  have Ql := Q.out.lt
  obtain ⟨R0, R1, R2, R3⟩ := R.out.cell
  have Rl := R.out.lt
  go_upto_region 10 with fail
  clear P0 P1 P2 P3 Pl
  clear Q0 Q1 Q2 Q3 Ql
  clear R0 R1 R2 R3 Rl
  clear Q R
  obtain ⟨Y0, Y1, Y2, Y3⟩ := Y.out.cell
  have Yl := Y.out.lt
  obtain ⟨Z0, Z1, Z2, Z3⟩ := Z.out.cell
  have Zl := Z.out.lt
  go_wp2_with fail
  refine (implAddX (y0, y1, y2, y3) (z0, z1, z2, z3) _).mono ?_
  rintro e w12 ⟨o1, s0, s1, s2, s3, rfl, ES, bw12⟩
  clear Y0 Y1 Y2 Y3 Yl
  clear Z0 Z1 Z2 Z3 Zl
  replace ES := Lib.hid ES
  replace B := B.trans (bw12.mono B.size)
  replace X := Lib.hid (X.out.below bw12 X.out.lt)
  replace Y := Lib.hid (Y.out.below bw12 Y.out.lt)
  replace Z := Lib.hid (Z.out.below bw12 Z.out.lt)
  replace P := Lib.hid (P.out.below bw12 P.out.lt)
  replace C0 := Lib.hid (C0.out.below bw12 (Nat.le_refl _))
  replace C1 := Lib.hid (C1.out.below bw12 (Nat.le_refl _))
  clear bw12
  go_upto_region 11 with fail
  generalize hW : w12.alloc (.cells #[.int .i64 s0, .int .i64 s1, .int .i64 s2, .int .i64 s3] 38) = V13
  have bV13 : Below w12.heap.size w12 V13 := by rw [← hW]; clear hW; go_grown
  have S : Hid (Blk4 V13 (w12.heap.size) (s0, s1, s2, s3)) := by rw [← hW]; exact Blk4.new s0 s1 s2 s3 rfl
  clear hW
  replace B := B.trans (bV13.mono B.size)
  replace X := Lib.hid (X.out.below bV13 X.out.lt)
  replace Y := Lib.hid (Y.out.below bV13 Y.out.lt)
  replace Z := Lib.hid (Z.out.below bV13 Z.out.lt)
  replace P := Lib.hid (P.out.below bV13 P.out.lt)
  replace C0 := Lib.hid (C0.out.below bV13 (Nat.le_refl _))
  replace C1 := Lib.hid (C1.out.below bV13 (Nat.le_refl _))
  clear bV13
  obtain ⟨X0, X1, X2, X3⟩ := X.out.cell
  have Xl := X.out.lt
  obtain ⟨S0, S1, S2, S3⟩ := S.out.cell
  have Sl := S.out.lt
  go_wp2_with fail
  refine (implMulX (x0, x1, x2, x3) (s0, s1, s2, s3) _).mono ?_
  rintro e w14 ⟨o2, l0, l1, l2, l3, rfl, EL, bw14⟩
  clear X0 X1 X2 X3 Xl
  clear S0 S1 S2 S3 Sl
  replace EL := Lib.hid EL
  replace B := B.trans (bw14.mono B.size)
  replace X := Lib.hid (X.out.below bw14 X.out.lt)
  replace Y := Lib.hid (Y.out.below bw14 Y.out.lt)
  replace Z := Lib.hid (Z.out.below bw14 Z.out.lt)
  replace P := Lib.hid (P.out.below bw14 P.out.lt)
  replace S := Lib.hid (S.out.below bw14 S.out.lt)
  replace C0 := Lib.hid (C0.out.below bw14 (Nat.le_refl _))
  replace C1 := Lib.hid (C1.out.below bw14 (Nat.le_refl _))
  clear bw14
  go_upto_region 12 with fail
  generalize hW : w14.alloc (.cells #[.int .i64 l0, .int .i64 l1, .int .i64 l2, .int .i64 l3] 38) = V15
  have bV15 : Below w14.heap.size w14 V15 := by rw [← hW]; clear hW; go_grown
  have L : Hid (Blk4 V15 (w14.heap.size) (l0, l1, l2, l3)) := by rw [← hW]; exact Blk4.new l0 l1 l2 l3 rfl
  clear hW
  replace B := B.trans (bV15.mono B.size)
  replace X := Lib.hid (X.out.below bV15 X.out.lt)
  replace Y := Lib.hid (Y.out.below bV15 Y.out.lt)
  replace Z := Lib.hid (Z.out.below bV15 Z.out.lt)
  replace P := Lib.hid (P.out.below bV15 P.out.lt)
  replace S := Lib.hid (S.out.below bV15 S.out.lt)
  replace C0 := Lib.hid (C0.out.below bV15 (Nat.le_refl _))
  replace C1 := Lib.hid (C1.out.below bV15 (Nat.le_refl _))
  clear bV15
  obtain ⟨X0, X1, X2, X3⟩ := X.out.cell
  have Xl := X.out.lt
  obtain ⟨Z0, Z1, Z2, Z3⟩ := Z.out.cell
  have Zl := Z.out.lt
  go_wp2_with fail
  refine (implMulX (x0, x1, x2, x3) (z0, z1, z2, z3) _).mono ?_
  rintro e w16 ⟨o3, t0, t1, t2, t3, rfl, ET, bw16⟩
  clear X0 X1 X2 X3 Xl
  clear Z0 Z1 Z2 Z3 Zl
  replace ET := Lib.hid ET
  replace B := B.trans (bw16.mono B.size)
  replace X := Lib.hid (X.out.below bw16 X.out.lt)
  replace Y := Lib.hid (Y.out.below bw16 Y.out.lt)
  replace Z := Lib.hid (Z.out.below bw16 Z.out.lt)
  replace P := Lib.hid (P.out.below bw16 P.out.lt)
  replace S := Lib.hid (S.out.below bw16 S.out.lt)
  replace L := Lib.hid (L.out.below bw16 L.out.lt)
  replace C0 := Lib.hid (C0.out.below bw16 (Nat.le_refl _))
  replace C1 := Lib.hid (C1.out.below bw16 (Nat.le_refl _))
  clear bw16
  go_upto_region 13 with fail
  generalize hW : w16.alloc (.cells #[.int .i64 t0, .int .i64 t1, .int .i64 t2, .int .i64 t3] 38) = V17
  have bV17 : Below w16.heap.size w16 V17 := by rw [← hW]; clear hW; go_grown
  have T : Hid (Blk4 V17 (w16.heap.size) (t0, t1, t2, t3)) := by rw [← hW]; exact Blk4.new t0 t1 t2 t3 rfl
  clear hW
  replace B := B.trans (bV17.mono B.size)
  replace X := Lib.hid (X.out.below bV17 X.out.lt)
  replace Y := Lib.hid (Y.out.below bV17 Y.out.lt)
  replace Z := Lib.hid (Z.out.below bV17 Z.out.lt)
  replace P := Lib.hid (P.out.below bV17 P.out.lt)
  replace S := Lib.hid (S.out.below bV17 S.out.lt)
  replace L := Lib.hid (L.out.below bV17 L.out.lt)
  replace C0 := Lib.hid (C0.out.below bV17 (Nat.le_refl _))
  replace C1 := Lib.hid (C1.out.below bV17 (Nat.le_refl _))
  clear bV17
  obtain ⟨P0, P1, P2, P3⟩ := P.out.cell
  have Pl := P.out.lt
  obtain ⟨T0, T1, T2, T3⟩ := T.out.cell
  have Tl := T.out.lt
  go_wp2_with fail
  refine (implAddX (p0, p1, p2, p3) (t0, t1, t2, t3) _).mono ?_
  rintro e w18 ⟨o4, u0, u1, u2, u3, rfl, EU, bw18⟩
  clear P0 P1 P2 P3 Pl
  clear T0 T1 T2 T3 Tl
  replace EU := Lib.hid EU
  replace B := B.trans (bw18.mono B.size)
  replace X := Lib.hid (X.out.below bw18 X.out.lt)
  replace Y := Lib.hid (Y.out.below bw18 Y.out.lt)
  replace Z := Lib.hid (Z.out.below bw18 Z.out.lt)
  replace P := Lib.hid (P.out.below bw18 P.out.lt)
  replace S := Lib.hid (S.out.below bw18 S.out.lt)
  replace L := Lib.hid (L.out.below bw18 L.out.lt)
  replace T := Lib.hid (T.out.below bw18 T.out.lt)
  replace C0 := Lib.hid (C0.out.below bw18 (Nat.le_refl _))
  replace C1 := Lib.hid (C1.out.below bw18 (Nat.le_refl _))
  clear bw18
  go_upto_region 14 with fail
  generalize hW : w18.alloc (.cells #[.int .i64 u0, .int .i64 u1, .int .i64 u2, .int .i64 u3] 38) = V19
  have bV19 : Below w18.heap.size w18 V19 := by rw [← hW]; clear hW; go_grown
  have U : Hid (Blk4 V19 (w18.heap.size) (u0, u1, u2, u3)) := by rw [← hW]; exact Blk4.new u0 u1 u2 u3 rfl
  clear hW
  replace B := B.trans (bV19.mono B.size)
  replace X := Lib.hid (X.out.below bV19 X.out.lt)
  replace Y := Lib.hid (Y.out.below bV19 Y.out.lt)
  replace Z := Lib.hid (Z.out.below bV19 Z.out.lt)
  replace P := Lib.hid (P.out.below bV19 P.out.lt)
  replace S := Lib.hid (S.out.below bV19 S.out.lt)
  replace L := Lib.hid (L.out.below bV19 L.out.lt)
  replace T := Lib.hid (T.out.below bV19 T.out.lt)
  replace C0 := Lib.hid (C0.out.below bV19 (Nat.le_refl _))
  replace C1 := Lib.hid (C1.out.below bV19 (Nat.le_refl _))
  clear bV19
  have Hlr : Hid ((a && o1 && o2 && o3 && o4) = true → ((l0, l1, l2, l3) : Q4) = (u0, u1, u2, u3)) := by
    intro h
    simp only [Bool.and_eq_true] at h
    obtain ⟨⟨⟨⟨rfl, rfl⟩, rfl⟩, rfl⟩, rfl⟩ := h
    rw [out_t EL.out rfl, out_t EU.out rfl, out_t ES.out rfl, out_t EP.out rfl, out_t ET.out rfl]
    exact mulQ_add (x0, x1, x2, x3) (y0, y1, y2, y3) (z0, z1, z2, z3)
  obtain ⟨L0, L1, L2, L3⟩ := L.out.cell
  have Ll := L.out.lt
  obtain ⟨U0, U1, U2, U3⟩ := U.out.cell
  have Ul := U.out.lt
  go_cut [125] (fun s wx => s = .bool false ∧ V19 = wx)
  case first =>
    cases a
    · go_wp2_with fail
      go_meet
      exact ⟨rfl, rfl⟩
    cases o1
    · go_wp2_with fail
      go_meet
      exact ⟨rfl, rfl⟩
    cases o2
    · go_wp2_with fail
      go_meet
      exact ⟨rfl, rfl⟩
    cases o3
    · go_wp2_with fail
      go_meet
      exact ⟨rfl, rfl⟩
    cases o4
    · go_wp2_with fail
      go_meet
      exact ⟨rfl, rfl⟩
    · obtain ⟨h3, h4, h5, h6⟩ := q4_inj (Hlr.out rfl)
      subst h3 h4 h5 h6
      go_wp2_with fail
      go_meet
      exact ⟨rfl, rfl⟩
  case rest =>
    obtain ⟨rfl, rfl⟩ := hcut
    clear L0 L1 L2 L3 Ll
    clear U0 U1 U2 U3 Ul
    clear Hlr EL EU ES ET L U S T
    cases a
    · go_wp2
      go_ret
      exact ⟨rfl, B⟩
    obtain ⟨m1, m2, m3⟩ := mulOkQ_parts EP.out.1.symm
    have M1 := Lib.hid m1
    have M2 := Lib.hid m2
    have M3 := Lib.hid m3
    have HP : Hid (((p0, p1, p2, p3) : Q4) = mulQ (x0, x1, x2, x3) (y0, y1, y2, y3)) := out_t EP.out rfl
    clear m1 m2 m3
    obtain ⟨X0, X1, X2, X3⟩ := X.out.cell
    have Xl := X.out.lt
    go_wp2_with fail
    refine (implConjX (x0, x1, x2, x3) _).mono ?_
    rintro e w20 ⟨o5, d0, d1, d2, d3, rfl, ED, bw20⟩
    clear X0 X1 X2 X3 Xl
    obtain rfl : o5 = true := ED.1.trans ((by rw [M1.out, rOk_conj M1.out]; rfl : (okQ (x0, x1, x2, x3) && okQ (conjQ (x0, x1, x2, x3))) = true))
    have GD : Hid (((d0, d1, d2, d3) : Q4) = conjQ (x0, x1, x2, x3)) := ED.2.trans (by rw [(by rw [M1.out, rOk_conj M1.out]; rfl : (okQ (x0, x1, x2, x3) && okQ (conjQ (x0, x1, x2, x3))) = true)]; rfl)
    clear ED
    replace B := B.trans (bw20.mono B.size)
    replace X := Lib.hid (X.out.below bw20 X.out.lt)
    replace Y := Lib.hid (Y.out.below bw20 Y.out.lt)
    replace Z := Lib.hid (Z.out.below bw20 Z.out.lt)
    replace P := Lib.hid (P.out.below bw20 P.out.lt)
    replace C0 := Lib.hid (C0.out.below bw20 (Nat.le_refl _))
    replace C1 := Lib.hid (C1.out.below bw20 (Nat.le_refl _))
    clear bw20
    go_upto_region 18 with fail
    generalize hW : w20.alloc (.cells #[.int .i64 d0, .int .i64 d1, .int .i64 d2, .int .i64 d3] 38) = V21
    have bV21 : Below w20.heap.size w20 V21 := by rw [← hW]; clear hW; go_grown
    have D : Hid (Blk4 V21 (w20.heap.size) (d0, d1, d2, d3)) := by rw [← hW]; exact Blk4.new d0 d1 d2 d3 rfl
    clear hW
    replace B := B.trans (bV21.mono B.size)
    replace X := Lib.hid (X.out.below bV21 X.out.lt)
    replace Y := Lib.hid (Y.out.below bV21 Y.out.lt)
    replace Z := Lib.hid (Z.out.below bV21 Z.out.lt)
    replace P := Lib.hid (P.out.below bV21 P.out.lt)
    replace C0 := Lib.hid (C0.out.below bV21 (Nat.le_refl _))
    replace C1 := Lib.hid (C1.out.below bV21 (Nat.le_refl _))
    clear bV21
    obtain ⟨Y0, Y1, Y2, Y3⟩ := Y.out.cell
    have Yl := Y.out.lt
    go_wp2_with fail
    refine (implConjX (y0, y1, y2, y3) _).mono ?_
    rintro e w22 ⟨o5, e0, e1, e2, e3, rfl, EE, bw22⟩
    clear Y0 Y1 Y2 Y3 Yl
    obtain rfl : o5 = true := EE.1.trans ((by rw [M2.out, rOk_conj M2.out]; rfl : (okQ (y0, y1, y2, y3) && okQ (conjQ (y0, y1, y2, y3))) = true))
    have GE : Hid (((e0, e1, e2, e3) : Q4) = conjQ (y0, y1, y2, y3)) := EE.2.trans (by rw [(by rw [M2.out, rOk_conj M2.out]; rfl : (okQ (y0, y1, y2, y3) && okQ (conjQ (y0, y1, y2, y3))) = true)]; rfl)
    clear EE
    replace B := B.trans (bw22.mono B.size)
    replace X := Lib.hid (X.out.below bw22 X.out.lt)
    replace Y := Lib.hid (Y.out.below bw22 Y.out.lt)
    replace Z := Lib.hid (Z.out.below bw22 Z.out.lt)
    replace P := Lib.hid (P.out.below bw22 P.out.lt)
    replace D := Lib.hid (D.out.below bw22 D.out.lt)
    replace C0 := Lib.hid (C0.out.below bw22 (Nat.le_refl _))
    replace C1 := Lib.hid (C1.out.below bw22 (Nat.le_refl _))
    clear bw22
    go_upto_region 19 with fail
    generalize hW : w22.alloc (.cells #[.int .i64 e0, .int .i64 e1, .int .i64 e2, .int .i64 e3] 38) = V23
    have bV23 : Below w22.heap.size w22 V23 := by rw [← hW]; clear hW; go_grown
    have E : Hid (Blk4 V23 (w22.heap.size) (e0, e1, e2, e3)) := by rw [← hW]; exact Blk4.new e0 e1 e2 e3 rfl
    clear hW
    replace B := B.trans (bV23.mono B.size)
    replace X := Lib.hid (X.out.below bV23 X.out.lt)
    replace Y := Lib.hid (Y.out.below bV23 Y.out.lt)
    replace Z := Lib.hid (Z.out.below bV23 Z.out.lt)
    replace P := Lib.hid (P.out.below bV23 P.out.lt)
    replace D := Lib.hid (D.out.below bV23 D.out.lt)
    replace C0 := Lib.hid (C0.out.below bV23 (Nat.le_refl _))
    replace C1 := Lib.hid (C1.out.below bV23 (Nat.le_refl _))
    clear bV23
    obtain ⟨D0, D1, D2, D3⟩ := D.out.cell
    have Dl := D.out.lt
    obtain ⟨E0, E1, E2, E3⟩ := E.out.cell
    have El := E.out.lt
    go_wp2_with fail
    refine (implMulX (d0, d1, d2, d3) (e0, e1, e2, e3) _).mono ?_
    rintro e w24 ⟨o5, f0, f1, f2, f3, rfl, EF, bw24⟩
    clear D0 D1 D2 D3 Dl
    clear E0 E1 E2 E3 El
    obtain rfl : o5 = true := EF.1.trans ((by rw [GD.out, GE.out]; exact mulOkQ_mk (rOk_conj M1.out) (rOk_conj M2.out) (by rw [mulQ_conj]; exact rOk_conj M3.out) : mulOkQ (d0, d1, d2, d3) (e0, e1, e2, e3) = true))
    have GF : Hid (((f0, f1, f2, f3) : Q4) = mulQ (d0, d1, d2, d3) (e0, e1, e2, e3)) := EF.2.trans (by rw [(by rw [GD.out, GE.out]; exact mulOkQ_mk (rOk_conj M1.out) (rOk_conj M2.out) (by rw [mulQ_conj]; exact rOk_conj M3.out) : mulOkQ (d0, d1, d2, d3) (e0, e1, e2, e3) = true)]; rfl)
    clear EF
    replace B := B.trans (bw24.mono B.size)
    replace X := Lib.hid (X.out.below bw24 X.out.lt)
    replace Y := Lib.hid (Y.out.below bw24 Y.out.lt)
    replace Z := Lib.hid (Z.out.below bw24 Z.out.lt)
    replace P := Lib.hid (P.out.below bw24 P.out.lt)
    replace D := Lib.hid (D.out.below bw24 D.out.lt)
    replace E := Lib.hid (E.out.below bw24 E.out.lt)
    replace C0 := Lib.hid (C0.out.below bw24 (Nat.le_refl _))
    replace C1 := Lib.hid (C1.out.below bw24 (Nat.le_refl _))
    clear bw24
    go_upto_region 20 with fail
    generalize hW : w24.alloc (.cells #[.int .i64 f0, .int .i64 f1, .int .i64 f2, .int .i64 f3] 38) = V25
    have bV25 : Below w24.heap.size w24 V25 := by rw [← hW]; clear hW; go_grown
    have F : Hid (Blk4 V25 (w24.heap.size) (f0, f1, f2, f3)) := by rw [← hW]; exact Blk4.new f0 f1 f2 f3 rfl
    clear hW
    replace B := B.trans (bV25.mono B.size)
    replace X := Lib.hid (X.out.below bV25 X.out.lt)
    replace Y := Lib.hid (Y.out.below bV25 Y.out.lt)
    replace Z := Lib.hid (Z.out.below bV25 Z.out.lt)
    replace P := Lib.hid (P.out.below bV25 P.out.lt)
    replace D := Lib.hid (D.out.below bV25 D.out.lt)
    replace E := Lib.hid (E.out.below bV25 E.out.lt)
    replace C0 := Lib.hid (C0.out.below bV25 (Nat.le_refl _))
    replace C1 := Lib.hid (C1.out.below bV25 (Nat.le_refl _))
    clear bV25
    obtain ⟨P0, P1, P2, P3⟩ := P.out.cell
    have Pl := P.out.lt
    go_wp2_with fail
    refine (implConjX (p0, p1, p2, p3) _).mono ?_
    rintro e w26 ⟨o5, h0, h1, h2, h3, rfl, EH, bw26⟩
    clear P0 P1 P2 P3 Pl
    obtain rfl : o5 = true := EH.1.trans ((by rw [HP.out, M3.out, rOk_conj M3.out]; rfl : (okQ (p0, p1, p2, p3) && okQ (conjQ (p0, p1, p2, p3))) = true))
    have GH : Hid (((h0, h1, h2, h3) : Q4) = conjQ (p0, p1, p2, p3)) := EH.2.trans (by rw [(by rw [HP.out, M3.out, rOk_conj M3.out]; rfl : (okQ (p0, p1, p2, p3) && okQ (conjQ (p0, p1, p2, p3))) = true)]; rfl)
    clear EH
    replace B := B.trans (bw26.mono B.size)
    replace X := Lib.hid (X.out.below bw26 X.out.lt)
    replace Y := Lib.hid (Y.out.below bw26 Y.out.lt)
    replace Z := Lib.hid (Z.out.below bw26 Z.out.lt)
    replace P := Lib.hid (P.out.below bw26 P.out.lt)
    replace D := Lib.hid (D.out.below bw26 D.out.lt)
    replace E := Lib.hid (E.out.below bw26 E.out.lt)
    replace F := Lib.hid (F.out.below bw26 F.out.lt)
    replace C0 := Lib.hid (C0.out.below bw26 (Nat.le_refl _))
    replace C1 := Lib.hid (C1.out.below bw26 (Nat.le_refl _))
    clear bw26
    go_upto_region 21 with fail
    generalize hW : w26.alloc (.cells #[.int .i64 h0, .int .i64 h1, .int .i64 h2, .int .i64 h3] 38) = V27
    have bV27 : Below w26.heap.size w26 V27 := by rw [← hW]; clear hW; go_grown
    have H : Hid (Blk4 V27 (w26.heap.size) (h0, h1, h2, h3)) := by rw [← hW]; exact Blk4.new h0 h1 h2 h3 rfl
    clear hW
    replace B := B.trans (bV27.mono B.size)
    replace X := Lib.hid (X.out.below bV27 X.out.lt)
    replace Y := Lib.hid (Y.out.below bV27 Y.out.lt)
    replace Z := Lib.hid (Z.out.below bV27 Z.out.lt)
    replace P := Lib.hid (P.out.below bV27 P.out.lt)
    replace D := Lib.hid (D.out.below bV27 D.out.lt)
    replace E := Lib.hid (E.out.below bV27 E.out.lt)
    replace F := Lib.hid (F.out.below bV27 F.out.lt)
    replace C0 := Lib.hid (C0.out.below bV27 (Nat.le_refl _))
    replace C1 := Lib.hid (C1.out.below bV27 (Nat.le_refl _))
    clear bV27
    obtain ⟨X0, X1, X2, X3⟩ := X.out.cell
    have Xl := X.out.lt
    go_wp2_with fail
    refine (implBulX (x0, x1, x2, x3) _).mono ?_
    rintro e w28 ⟨o5, i0, i1, i2, i3, rfl, EI, bw28⟩
    clear X0 X1 X2 X3 Xl
    obtain rfl : o5 = true := EI.1.trans ((by rw [M1.out, rOk_bul M1.out]; rfl : (okQ (x0, x1, x2, x3) && okQ (bulQ (x0, x1, x2, x3))) = true))
    have GI : Hid (((i0, i1, i2, i3) : Q4) = bulQ (x0, x1, x2, x3)) := EI.2.trans (by rw [(by rw [M1.out, rOk_bul M1.out]; rfl : (okQ (x0, x1, x2, x3) && okQ (bulQ (x0, x1, x2, x3))) = true)]; rfl)
    clear EI
    replace B := B.trans (bw28.mono B.size)
    replace X := Lib.hid (X.out.below bw28 X.out.lt)
    replace Y := Lib.hid (Y.out.below bw28 Y.out.lt)
    replace Z := Lib.hid (Z.out.below bw28 Z.out.lt)
    replace P := Lib.hid (P.out.below bw28 P.out.lt)
    replace D := Lib.hid (D.out.below bw28 D.out.lt)
    replace E := Lib.hid (E.out.below bw28 E.out.lt)
    replace F := Lib.hid (F.out.below bw28 F.out.lt)
    replace H := Lib.hid (H.out.below bw28 H.out.lt)
    replace C0 := Lib.hid (C0.out.below bw28 (Nat.le_refl _))
    replace C1 := Lib.hid (C1.out.below bw28 (Nat.le_refl _))
    clear bw28
    go_upto_region 22 with fail
    generalize hW : w28.alloc (.cells #[.int .i64 i0, .int .i64 i1, .int .i64 i2, .int .i64 i3] 38) = V29
    have bV29 : Below w28.heap.size w28 V29 := by rw [← hW]; clear hW; go_grown
    have I : Hid (Blk4 V29 (w28.heap.size) (i0, i1, i2, i3)) := by rw [← hW]; exact Blk4.new i0 i1 i2 i3 rfl
    clear hW
    replace B := B.trans (bV29.mono B.size)
    replace X := Lib.hid (X.out.below bV29 X.out.lt)
    replace Y := Lib.hid (Y.out.below bV29 Y.out.lt)
    replace Z := Lib.hid (Z.out.below bV29 Z.out.lt)
    replace P := Lib.hid (P.out.below bV29 P.out.lt)
    replace D := Lib.hid (D.out.below bV29 D.out.lt)
    replace E := Lib.hid (E.out.below bV29 E.out.lt)
    replace F := Lib.hid (F.out.below bV29 F.out.lt)
    replace H := Lib.hid (H.out.below bV29 H.out.lt)
    replace C0 := Lib.hid (C0.out.below bV29 (Nat.le_refl _))
    replace C1 := Lib.hid (C1.out.below bV29 (Nat.le_refl _))
    clear bV29
    obtain ⟨Y0, Y1, Y2, Y3⟩ := Y.out.cell
    have Yl := Y.out.lt
    go_wp2_with fail
    refine (implBulX (y0, y1, y2, y3) _).mono ?_
    rintro e w30 ⟨o5, j0, j1, j2, j3, rfl, EJ, bw30⟩
    clear Y0 Y1 Y2 Y3 Yl
    obtain rfl : o5 = true := EJ.1.trans ((by rw [M2.out, rOk_bul M2.out]; rfl : (okQ (y0, y1, y2, y3) && okQ (bulQ (y0, y1, y2, y3))) = true))
    have GJ : Hid (((j0, j1, j2, j3) : Q4) = bulQ (y0, y1, y2, y3)) := EJ.2.trans (by rw [(by rw [M2.out, rOk_bul M2.out]; rfl : (okQ (y0, y1, y2, y3) && okQ (bulQ (y0, y1, y2, y3))) = true)]; rfl)
    clear EJ
    replace B := B.trans (bw30.mono B.size)
    replace X := Lib.hid (X.out.below bw30 X.out.lt)
    replace Y := Lib.hid (Y.out.below bw30 Y.out.lt)
    replace Z := Lib.hid (Z.out.below bw30 Z.out.lt)
    replace P := Lib.hid (P.out.below bw30 P.out.lt)
    replace D := Lib.hid (D.out.below bw30 D.out.lt)
    replace E := Lib.hid (E.out.below bw30 E.out.lt)
    replace F := Lib.hid (F.out.below bw30 F.out.lt)
    replace H := Lib.hid (H.out.below bw30 H.out.lt)
    replace I := Lib.hid (I.out.below bw30 I.out.lt)
    replace C0 := Lib.hid (C0.out.below bw30 (Nat.le_refl _))
    replace C1 := Lib.hid (C1.out.below bw30 (Nat.le_refl _))
    clear bw30
    go_upto_region 23 with fail
    generalize hW : w30.alloc (.cells #[.int .i64 j0, .int .i64 j1, .int .i64 j2, .int .i64 j3] 38) = V31
    have bV31 : Below w30.heap.size w30 V31 := by rw [← hW]; clear hW; go_grown
    have J : Hid (Blk4 V31 (w30.heap.size) (j0, j1, j2, j3)) := by rw [← hW]; exact Blk4.new j0 j1 j2 j3 rfl
    clear hW
    replace B := B.trans (bV31.mono B.size)
    replace X := Lib.hid (X.out.below bV31 X.out.lt)
    replace Y := Lib.hid (Y.out.below bV31 Y.out.lt)
    replace Z := Lib.hid (Z.out.below bV31 Z.out.lt)
    replace P := Lib.hid (P.out.below bV31 P.out.lt)
    replace D := Lib.hid (D.out.below bV31 D.out.lt)
    replace E := Lib.hid (E.out.below bV31 E.out.lt)
    replace F := Lib.hid (F.out.below bV31 F.out.lt)
    replace H := Lib.hid (H.out.below bV31 H.out.lt)
    replace I := Lib.hid (I.out.below bV31 I.out.lt)
    replace C0 := Lib.hid (C0.out.below bV31 (Nat.le_refl _))
    replace C1 := Lib.hid (C1.out.below bV31 (Nat.le_refl _))
    clear bV31
    obtain ⟨I0, I1, I2, I3⟩ := I.out.cell
    have Il := I.out.lt
    obtain ⟨J0, J1, J2, J3⟩ := J.out.cell
    have Jl := J.out.lt
    go_wp2_with fail
    refine (implMulX (i0, i1, i2, i3) (j0, j1, j2, j3) _).mono ?_
    rintro e w32 ⟨o5, k0, k1, k2, k3, rfl, EK, bw32⟩
    clear I0 I1 I2 I3 Il
    clear J0 J1 J2 J3 Jl
    obtain rfl : o5 = true := EK.1.trans ((by rw [GI.out, GJ.out]; exact mulOkQ_mk (rOk_bul M1.out) (rOk_bul M2.out) (by rw [mulQ_bul]; exact rOk_bul M3.out) : mulOkQ (i0, i1, i2, i3) (j0, j1, j2, j3) = true))
    have GK : Hid (((k0, k1, k2, k3) : Q4) = mulQ (i0, i1, i2, i3) (j0, j1, j2, j3)) := EK.2.trans (by rw [(by rw [GI.out, GJ.out]; exact mulOkQ_mk (rOk_bul M1.out) (rOk_bul M2.out) (by rw [mulQ_bul]; exact rOk_bul M3.out) : mulOkQ (i0, i1, i2, i3) (j0, j1, j2, j3) = true)]; rfl)
    clear EK
    replace B := B.trans (bw32.mono B.size)
    replace X := Lib.hid (X.out.below bw32 X.out.lt)
    replace Y := Lib.hid (Y.out.below bw32 Y.out.lt)
    replace Z := Lib.hid (Z.out.below bw32 Z.out.lt)
    replace P := Lib.hid (P.out.below bw32 P.out.lt)
    replace D := Lib.hid (D.out.below bw32 D.out.lt)
    replace E := Lib.hid (E.out.below bw32 E.out.lt)
    replace F := Lib.hid (F.out.below bw32 F.out.lt)
    replace H := Lib.hid (H.out.below bw32 H.out.lt)
    replace I := Lib.hid (I.out.below bw32 I.out.lt)
    replace J := Lib.hid (J.out.below bw32 J.out.lt)
    replace C0 := Lib.hid (C0.out.below bw32 (Nat.le_refl _))
    replace C1 := Lib.hid (C1.out.below bw32 (Nat.le_refl _))
    clear bw32
    go_upto_region 24 with fail
    generalize hW : w32.alloc (.cells #[.int .i64 k0, .int .i64 k1, .int .i64 k2, .int .i64 k3] 38) = V33
    have bV33 : Below w32.heap.size w32 V33 := by rw [← hW]; clear hW; go_grown
    have K : Hid (Blk4 V33 (w32.heap.size) (k0, k1, k2, k3)) := by rw [← hW]; exact Blk4.new k0 k1 k2 k3 rfl
    clear hW
    replace B := B.trans (bV33.mono B.size)
    replace X := Lib.hid (X.out.below bV33 X.out.lt)
    replace Y := Lib.hid (Y.out.below bV33 Y.out.lt)
    replace Z := Lib.hid (Z.out.below bV33 Z.out.lt)
    replace P := Lib.hid (P.out.below bV33 P.out.lt)
    replace D := Lib.hid (D.out.below bV33 D.out.lt)
    replace E := Lib.hid (E.out.below bV33 E.out.lt)
    replace F := Lib.hid (F.out.below bV33 F.out.lt)
    replace H := Lib.hid (H.out.below bV33 H.out.lt)
    replace I := Lib.hid (I.out.below bV33 I.out.lt)
    replace J := Lib.hid (J.out.below bV33 J.out.lt)
    replace C0 := Lib.hid (C0.out.below bV33 (Nat.le_refl _))
    replace C1 := Lib.hid (C1.out.below bV33 (Nat.le_refl _))
    clear bV33
    obtain ⟨P0, P1, P2, P3⟩ := P.out.cell
    have Pl := P.out.lt
    go_wp2_with fail
    refine (implBulX (p0, p1, p2, p3) _).mono ?_
    rintro e w34 ⟨o5, n0, n1, n2, n3, rfl, EN, bw34⟩
    clear P0 P1 P2 P3 Pl
    obtain rfl : o5 = true := EN.1.trans ((by rw [HP.out, M3.out, rOk_bul M3.out]; rfl : (okQ (p0, p1, p2, p3) && okQ (bulQ (p0, p1, p2, p3))) = true))
    have GN : Hid (((n0, n1, n2, n3) : Q4) = bulQ (p0, p1, p2, p3)) := EN.2.trans (by rw [(by rw [HP.out, M3.out, rOk_bul M3.out]; rfl : (okQ (p0, p1, p2, p3) && okQ (bulQ (p0, p1, p2, p3))) = true)]; rfl)
    clear EN
    replace B := B.trans (bw34.mono B.size)
    replace X := Lib.hid (X.out.below bw34 X.out.lt)
    replace Y := Lib.hid (Y.out.below bw34 Y.out.lt)
    replace Z := Lib.hid (Z.out.below bw34 Z.out.lt)
    replace P := Lib.hid (P.out.below bw34 P.out.lt)
    replace D := Lib.hid (D.out.below bw34 D.out.lt)
    replace E := Lib.hid (E.out.below bw34 E.out.lt)
    replace F := Lib.hid (F.out.below bw34 F.out.lt)
    replace H := Lib.hid (H.out.below bw34 H.out.lt)
    replace I := Lib.hid (I.out.below bw34 I.out.lt)
    replace J := Lib.hid (J.out.below bw34 J.out.lt)
    replace K := Lib.hid (K.out.below bw34 K.out.lt)
    replace C0 := Lib.hid (C0.out.below bw34 (Nat.le_refl _))
    replace C1 := Lib.hid (C1.out.below bw34 (Nat.le_refl _))
    clear bw34
    go_upto_region 25 with fail
    generalize hW : w34.alloc (.cells #[.int .i64 n0, .int .i64 n1, .int .i64 n2, .int .i64 n3] 38) = V35
    have bV35 : Below w34.heap.size w34 V35 := by rw [← hW]; clear hW; go_grown
    have N : Hid (Blk4 V35 (w34.heap.size) (n0, n1, n2, n3)) := by rw [← hW]; exact Blk4.new n0 n1 n2 n3 rfl
    clear hW
    replace B := B.trans (bV35.mono B.size)
    replace X := Lib.hid (X.out.below bV35 X.out.lt)
    replace Y := Lib.hid (Y.out.below bV35 Y.out.lt)
    replace Z := Lib.hid (Z.out.below bV35 Z.out.lt)
    replace P := Lib.hid (P.out.below bV35 P.out.lt)
    replace D := Lib.hid (D.out.below bV35 D.out.lt)
    replace E := Lib.hid (E.out.below bV35 E.out.lt)
    replace F := Lib.hid (F.out.below bV35 F.out.lt)
    replace H := Lib.hid (H.out.below bV35 H.out.lt)
    replace I := Lib.hid (I.out.below bV35 I.out.lt)
    replace J := Lib.hid (J.out.below bV35 J.out.lt)
    replace K := Lib.hid (K.out.below bV35 K.out.lt)
    replace C0 := Lib.hid (C0.out.below bV35 (Nat.le_refl _))
    replace C1 := Lib.hid (C1.out.below bV35 (Nat.le_refl _))
    clear bV35
    obtain ⟨h3, h4, h5, h6⟩ := q4_inj (show ((f0, f1, f2, f3) : Q4) = (h0, h1, h2, h3) from by rw [GF.out, GH.out, GD.out, GE.out, HP.out]; exact mulQ_conj _ _)
    obtain ⟨k3, k4, k5, k6⟩ := q4_inj (show ((k0, k1, k2, k3) : Q4) = (n0, n1, n2, n3) from by rw [GK.out, GN.out, GI.out, GJ.out, HP.out]; exact mulQ_bul _ _)
    clear GF GH GD GE GK GN GI GJ HP EP
    subst h3 h4 h5 h6 k3 k4 k5 k6
    obtain ⟨F0, F1, F2, F3⟩ := F.out.cell
    have Fl := F.out.lt
    obtain ⟨H0, H1, H2, H3⟩ := H.out.cell
    have Hl := H.out.lt
    obtain ⟨K0, K1, K2, K3⟩ := K.out.cell
    have Kl := K.out.lt
    obtain ⟨N0, N1, N2, N3⟩ := N.out.cell
    have Nl := N.out.lt
    go_wp2
    go_ret
    exact ⟨rfl, B⟩

set_option maxRecDepth 100000 in
theorem fnRing_lifted (os : Os) (started : os.Started) (H : Type) (enc : TypeId × Value → H) :
    ReturnsInHanded {} Try.checked os 6 .any (Rows.fnRingSpec.pre6 enc Try.prog Try.f6 Rows.fnRingRow.domain false) (Rows.fnRingSpec.post enc Try.prog Try.f6 false true false false) := by
  refine law_lifted (C := Try.checked) (tb := 4) Try.own started (by kernel_rfl) Try.func6
    (ChangeSpec.witness6 (enc := enc) (C := Try.checked) false ⟨#[], #[.slice none 0 0, .slice none 0 0], []⟩ 8 (by kernel_rfl) (by kernel_rfl) (by kernel_rfl) (by kernel_rfl))
    Try.laidOut (by kernel_rfl) rfl rfl Try.underlying4 (fun es he => ?_) ?_
  · match es, he with
    | [_, _], _ => rfl
  · intro W base args ds p hval0 hA hwt hsh hblk
    have hval : ∀ (j : Nat) t v, Try.f6.params[j]? = some t → args[j]? = some v → Value.okWide Try.prog W .any base t v := hval0
    have hA' : DataW.TrodAll enc Try.prog W 0 (fun _ => true) true Try.f6.params.toList args.toList ds p := hA
    rw [Try.params6] at hA' hval
    obtain ⟨v0, v1, d0, d1, p0, p1, rfl, rfl, rfl, h0, h1⟩ := trodAll_two hA'
    obtain ⟨A0, m0, p0, rfl, hl0, hb0⟩ := open_bytes Try.underlying35 Try.underlying5 Try.cellsU8 (hval 0 35 v0 rfl rfl) h0
    obtain ⟨A1, m1, p1, rfl, hl1, hb1⟩ := open_bytes Try.underlying35 Try.underlying5 Try.cellsU8 (hval 1 35 v1 rfl rfl) h1
    exact fnRing_any A0 m0 p0 A1 m1 p1 W hl0 hb0 hl1 hb1

theorem fnRing_holds : Rows.FnRingSaid :=
  OpenClaim.holds_of_wide 6 Try.f6 rfl rfl rfl rfl rfl rfl rfl ⟨rfl, rfl, rfl, rfl, rfl⟩ rfl rfl rfl rfl rfl (by kernel_rfl) Try.func6 (by kernel_rfl)
    (of_decide_eq_true (by kernel_rfl)) (by unfold Func.isWrapper; first | (rw [if_pos (by decide +kernel)]; kernel_rfl) | (rw [if_neg (by decide +kernel)]; exact ⟨rfl, rfl⟩))
    (fun os started H enc _ => fnRing_lifted os started H enc)

end Go.Proofs.Ytcmkkjdleihjfaa
