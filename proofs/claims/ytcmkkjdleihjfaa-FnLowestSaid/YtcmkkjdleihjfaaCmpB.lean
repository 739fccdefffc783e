/- CompareAbs of the program; it is antisymmetric. -/
import Derived.Test.YtcmkkjdleihjfaaCmpA
namespace Go.Proofs.Ytcmkkjdleihjfaa
open Go.RowKit

def zD (ok : Bool) (x : D5) : D5 := if ok then x else zeroD
def nsOk (x : D5) : Bool := dOkD x && dOkD (conjD x) && mulOk x (conjD x)
def nsV (x : D5) : D5 := mulC x (conjD x)
def nsD (x : D5) : D5 := zD (nsOk x) (nsV x)
def subD (x y : D5) : D5 := zD (subOk x y) (subV x y)
def cmpOk (x y : D5) : Bool := nsOk x && (nsOk y && subOk (nsD x) (nsD y))
def cmpR (x y : D5) : Int × Bool :=
  if cmpOk x y then (rI (signOk (subD (nsD x) (nsD y)).1.1 (subD (nsD x) (nsD y)).1.2.1) (sgn2 (subD (nsD x) (nsD y)).1.1 (subD (nsD x) (nsD y)).1.2.1), signOk (subD (nsD x) (nsD y)).1.1 (subD (nsD x) (nsD y)).1.2.1) else (0, false)
theorem dyRes_z (ok : Bool) (x : D5) : dyRes ok x = .tuple #[dvD (zD ok x), .bool ok] := by cases ok <;> rfl

def negD (x : D5) : D5 := (negQ x.1, x.2)
theorem subN_comm (x y : D5) : subN y x = subN x y := Nat.max_comm _ _
theorem subQ_neg (x y : Q4) : subQ y x = negQ (subQ x y) := by
  obtain ⟨a, b, c, d⟩ := x
  obtain ⟨a', b', c', d'⟩ := y
  refine q_ext ?_ ?_ ?_ ?_ <;> simp only [subQ] <;> omega
theorem okQ_neg (x : Q4) : okQ (negQ x) = okQ x := by
  obtain ⟨a, b, c, d⟩ := x
  rw [Bool.eq_iff_iff]
  show rOk (-a) (-b) (-c) (-d) = true ↔ rOk a b c d = true
  rw [rOk_iff, rOk_iff]
  omega
theorem subD3_comm (x y : Q4) : subD3 y x = subD3 x y := by
  unfold subD3
  rw [subQ_neg, okQ_neg, Bool.and_comm (okQ y)]
theorem subOk_comm (x y : D5) : subOk y x = subOk x y := by
  unfold subOk
  rw [subN_comm, subD3_comm, Bool.and_comm (dOkD y)]
  simp only [Bool.and_left_comm, Bool.and_assoc]
theorem subV_neg (x y : D5) : subV y x = negD (subV x y) := by
  unfold subV lowD
  rw [subN_comm, subQ_neg, lowN_neg]
  rfl
theorem subD_neg (x y : D5) : subD y x = negD (subD x y) := by
  unfold subD
  rw [subOk_comm, subV_neg]
  cases subOk x y <;> rfl
theorem sgn_neg (n : Int) : sgn (-n) = -sgn n := by
  unfold sgn
  split <;> split <;> first | omega | (split <;> omega) | skip
  all_goals (try split) <;> (try split) <;> omega
theorem sgn2_neg (u v : Int) : sgn2 (-u) (-v) = -sgn2 u v := by
  unfold sgn2
  have e1 : sgn (-u) * sgn (-v) = sgn u * sgn v := by rw [sgn_neg, sgn_neg, Int.neg_mul_neg]
  have e2 : -u + -v = -(u + v) := by omega
  have e3 : -u * -u = u * u := Int.neg_mul_neg u u
  have e4 : 2 * -v * -v = 2 * v * v := by grind
  rw [e1, e2, e3, e4, sgn_neg (u + v), sgn_neg u, Int.neg_mul]
  split <;> rfl
theorem signOk_neg (u v : Int) : signOk (-u) (-v) = signOk u v := by
  rw [Bool.eq_iff_iff]
  unfold signOk
  rw [Bool.and_eq_true, Bool.and_eq_true, coefB_iff, coefB_iff, coefB_iff, coefB_iff]
  omega
theorem cmpR_anti (x y : D5) : (cmpR y x).1 = -(cmpR x y).1 ∧ (cmpR y x).2 = (cmpR x y).2 := by
  have e : cmpOk y x = cmpOk x y := by
    unfold cmpOk
    rw [subOk_comm, Bool.and_left_comm]
  unfold cmpR
  rw [e, subD_neg (nsD x) (nsD y)]
  cases cmpOk x y with
  | false => exact ⟨rfl, rfl⟩
  | true =>
    simp only [if_true]
    have e1 : (negD (subD (nsD x) (nsD y))).1.1 = -(subD (nsD x) (nsD y)).1.1 := rfl
    have e2 : (negD (subD (nsD x) (nsD y))).1.2.1 = -(subD (nsD x) (nsD y)).1.2.1 := rfl
    rw [e1, e2, signOk_neg, sgn2_neg]
    refine ⟨?_, rfl⟩
    unfold rI
    split <;> omega

set_option maxRecDepth 100000 in
set_option maxHeartbeats 2000000 in
theorem subDyadic_any (x y : D5) (w : World) :
    Calls Try.prog 85 #[dvD x, dvD y] w fun r w' => r = .returned (.tuple #[dvD (subD x y), .bool (subOk x y)]) ∧ Below w.heap.size w w' := by
  obtain ⟨z, hz⟩ : ∃ z, z = subD x y := ⟨_, rfl⟩
  obtain ⟨o, ho⟩ : ∃ o, o = subOk x y := ⟨_, rfl⟩
  have Hr : Hid (dyRes (subOk x y) (subV x y) = .tuple #[dvD z, .bool o]) := by
    show _ = _
    rw [dyRes_z, hz, ho]
    rfl
  rw [← hz, ← ho]
  clear hz ho
  obtain ⟨⟨x0, x1, x2, x3⟩, x4⟩ := x
  obtain ⟨⟨y0, y1, y2, y3⟩, y4⟩ := y
  go_enter Try.func85, Try.ntmps85
  go_wp2_with fail
  refine (combinedSub_any x0 x1 x2 x3 x4 y0 y1 y2 y3 y4 _).mono ?_
  rintro e w1 ⟨rfl, b1⟩
  obtain ⟨b1c, b1f⟩ := bcell b1
  have z1 := b1.size
  try simp only [World.size_alloc] at z1
  have B1 : Below w.heap.size w w1 := Below.chain (Below.refl _ _) (by go_grown) b1 (by go_size)
  have y10 : w.heap.size < w1.heap.size := by omega
  have y11 : w.heap.size + 1 < w1.heap.size := by omega
  have y12 : w.heap.size + 2 < w1.heap.size := by omega
  rw [Hr.out]
  go_wp2
  refine bodyPost_ret (by simp [results, Try.results85, go_sem, b1c]) rfl ⟨rfl, ?_⟩
  go_grown

set_option maxRecDepth 100000 in
set_option maxHeartbeats 8000000 in
theorem compareAbs_any (x y : D5) (w : World) :
    Calls Try.prog 42 #[dvD x, dvD y] w fun r w' => r = .returned (.tuple #[.int .i64 (cmpR x y).1, .bool (cmpR x y).2]) ∧ Below w.heap.size w w' := by
  obtain ⟨⟨⟨a0, a1, a2, a3⟩, a4⟩, hA⟩ : ∃ z, z = nsD x := ⟨_, rfl⟩
  obtain ⟨⟨⟨b0, b1, b2, b3⟩, b4⟩, hB⟩ : ∃ z, z = nsD y := ⟨_, rfl⟩
  obtain ⟨⟨⟨d0, d1, d2, d3⟩, d4⟩, hD⟩ : ∃ z, z = subD ((a0, a1, a2, a3), a4) ((b0, b1, b2, b3), b4) := ⟨_, rfl⟩
  obtain ⟨o1, h1⟩ : ∃ o, o = nsOk x := ⟨_, rfl⟩
  obtain ⟨o2, h2⟩ : ∃ o, o = nsOk y := ⟨_, rfl⟩
  obtain ⟨o3, h3⟩ : ∃ o, o = subOk ((a0, a1, a2, a3), a4) ((b0, b1, b2, b3), b4) := ⟨_, rfl⟩
  have HX : Hid (normSqRes x = .tuple #[dv a0 a1 a2 a3 a4, .bool o1]) := by
    show dyRes (nsOk x) (nsV x) = _
    rw [dyRes_z, h1]
    show Value.tuple #[dvD (nsD x), _] = _
    rw [← hA]
  have HY : Hid (normSqRes y = .tuple #[dv b0 b1 b2 b3 b4, .bool o2]) := by
    show dyRes (nsOk y) (nsV y) = _
    rw [dyRes_z, h2]
    show Value.tuple #[dvD (nsD y), _] = _
    rw [← hB]
  have Hc : Hid (cmpR x y = if (o1 && (o2 && o3)) then (rI (signOk d0 d1) (sgn2 d0 d1), signOk d0 d1) else (0, false)) := by
    show _ = _
    unfold cmpR cmpOk
    rw [← hA, ← hB, ← hD, ← h1, ← h2, ← h3]
  have HD := Lib.hid hD
  have H3 := Lib.hid h3
  rw [Hc.out]
  clear hA hB hD h1 h2 h3 Hc
  obtain ⟨⟨x0, x1, x2, x3⟩, x4⟩ := x
  obtain ⟨⟨y0, y1, y2, y3⟩, y4⟩ := y
  have Hsub := Lib.hid (fun W => subDyadic_any ((a0, a1, a2, a3), a4) ((b0, b1, b2, b3), b4) W)
  rw [← HD.out, ← H3.out] at Hsub
  clear HD H3
  cases o1
  · go_enter Try.func42, Try.ntmps42
    go_wp2_with fail
    refine (implNormSq_any x0 x1 x2 x3 x4 _).mono ?_
    rintro e w1 ⟨rfl, b1⟩
    obtain ⟨b1c, b1f⟩ := bcell b1
    have z1 := b1.size
    try simp only [World.size_alloc] at z1
    have B1 : Below w.heap.size w w1 := Below.chain (Below.refl _ _) (by go_grown) b1 (by go_size)
    have y10 : w.heap.size < w1.heap.size := by omega
    have y11 : w.heap.size + 1 < w1.heap.size := by omega
    rw [HX.out]
    go_wp2_with fail
    refine (implNormSq_any y0 y1 y2 y3 y4 _).mono ?_
    rintro e w2 ⟨rfl, b2⟩
    have z2 := b2.size
    try simp only [World.size_alloc] at z2
    have C2 := Below.chain b1 (by go_grown) b2 (by go_size)
    have B2 : Below w.heap.size w w2 := Below.chain B1 (by go_grown) b2 (by go_size)
    obtain ⟨b2c, b2f⟩ := bcell b2
    obtain ⟨C2c, C2f⟩ := bcellB C2
    have y20 : w.heap.size < w2.heap.size := by omega
    have y21 : w.heap.size + 1 < w2.heap.size := by omega
    try (have v21 : w1.heap.size < w2.heap.size := by omega)
    rw [HY.out]
    go_wp2_with fail
    refine (Hsub.out _).mono ?_
    rintro e w3 ⟨rfl, b3⟩
    have z3 := b3.size
    try simp only [World.size_alloc] at z3
    have C3 := Below.chain C2 (by go_grown) b3 (by go_size)
    have B3 : Below w.heap.size w w3 := Below.chain B2 (by go_grown) b3 (by go_size)
    obtain ⟨b3c, b3f⟩ := bcell b3
    obtain ⟨C3c, C3f⟩ := bcellB C3
    have y30 : w.heap.size < w3.heap.size := by omega
    have y31 : w.heap.size + 1 < w3.heap.size := by omega
    try (have v31 : w1.heap.size < w3.heap.size := by omega)
    try (have v32 : w2.heap.size < w3.heap.size := by omega)
    go_wp2
    go_ret2
    refine ⟨by simp, ?_⟩
    go_grown
  cases o2
  · go_enter Try.func42, Try.ntmps42
    go_wp2_with fail
    refine (implNormSq_any x0 x1 x2 x3 x4 _).mono ?_
    rintro e w1 ⟨rfl, b1⟩
    obtain ⟨b1c, b1f⟩ := bcell b1
    have z1 := b1.size
    try simp only [World.size_alloc] at z1
    have B1 : Below w.heap.size w w1 := Below.chain (Below.refl _ _) (by go_grown) b1 (by go_size)
    have y10 : w.heap.size < w1.heap.size := by omega
    have y11 : w.heap.size + 1 < w1.heap.size := by omega
    rw [HX.out]
    go_wp2_with fail
    refine (implNormSq_any y0 y1 y2 y3 y4 _).mono ?_
    rintro e w2 ⟨rfl, b2⟩
    have z2 := b2.size
    try simp only [World.size_alloc] at z2
    have C2 := Below.chain b1 (by go_grown) b2 (by go_size)
    have B2 : Below w.heap.size w w2 := Below.chain B1 (by go_grown) b2 (by go_size)
    obtain ⟨b2c, b2f⟩ := bcell b2
    obtain ⟨C2c, C2f⟩ := bcellB C2
    have y20 : w.heap.size < w2.heap.size := by omega
    have y21 : w.heap.size + 1 < w2.heap.size := by omega
    try (have v21 : w1.heap.size < w2.heap.size := by omega)
    rw [HY.out]
    go_wp2_with fail
    refine (Hsub.out _).mono ?_
    rintro e w3 ⟨rfl, b3⟩
    have z3 := b3.size
    try simp only [World.size_alloc] at z3
    have C3 := Below.chain C2 (by go_grown) b3 (by go_size)
    have B3 : Below w.heap.size w w3 := Below.chain B2 (by go_grown) b3 (by go_size)
    obtain ⟨b3c, b3f⟩ := bcell b3
    obtain ⟨C3c, C3f⟩ := bcellB C3
    have y30 : w.heap.size < w3.heap.size := by omega
    have y31 : w.heap.size + 1 < w3.heap.size := by omega
    try (have v31 : w1.heap.size < w3.heap.size := by omega)
    try (have v32 : w2.heap.size < w3.heap.size := by omega)
    go_wp2
    go_ret2
    refine ⟨by simp, ?_⟩
    go_grown
  cases o3
  · go_enter Try.func42, Try.ntmps42
    go_wp2_with fail
    refine (implNormSq_any x0 x1 x2 x3 x4 _).mono ?_
    rintro e w1 ⟨rfl, b1⟩
    obtain ⟨b1c, b1f⟩ := bcell b1
    have z1 := b1.size
    try simp only [World.size_alloc] at z1
    have B1 : Below w.heap.size w w1 := Below.chain (Below.refl _ _) (by go_grown) b1 (by go_size)
    have y10 : w.heap.size < w1.heap.size := by omega
    have y11 : w.heap.size + 1 < w1.heap.size := by omega
    rw [HX.out]
    go_wp2_with fail
    refine (implNormSq_any y0 y1 y2 y3 y4 _).mono ?_
    rintro e w2 ⟨rfl, b2⟩
    have z2 := b2.size
    try simp only [World.size_alloc] at z2
    have C2 := Below.chain b1 (by go_grown) b2 (by go_size)
    have B2 : Below w.heap.size w w2 := Below.chain B1 (by go_grown) b2 (by go_size)
    obtain ⟨b2c, b2f⟩ := bcell b2
    obtain ⟨C2c, C2f⟩ := bcellB C2
    have y20 : w.heap.size < w2.heap.size := by omega
    have y21 : w.heap.size + 1 < w2.heap.size := by omega
    try (have v21 : w1.heap.size < w2.heap.size := by omega)
    rw [HY.out]
    go_wp2_with fail
    refine (Hsub.out _).mono ?_
    rintro e w3 ⟨rfl, b3⟩
    have z3 := b3.size
    try simp only [World.size_alloc] at z3
    have C3 := Below.chain C2 (by go_grown) b3 (by go_size)
    have B3 : Below w.heap.size w w3 := Below.chain B2 (by go_grown) b3 (by go_size)
    obtain ⟨b3c, b3f⟩ := bcell b3
    obtain ⟨C3c, C3f⟩ := bcellB C3
    have y30 : w.heap.size < w3.heap.size := by omega
    have y31 : w.heap.size + 1 < w3.heap.size := by omega
    try (have v31 : w1.heap.size < w3.heap.size := by omega)
    try (have v32 : w2.heap.size < w3.heap.size := by omega)
    go_wp2
    go_ret2
    refine ⟨by simp, ?_⟩
    go_grown
  · go_enter Try.func42, Try.ntmps42
    go_wp2_with fail
    refine (implNormSq_any x0 x1 x2 x3 x4 _).mono ?_
    rintro e w1 ⟨rfl, b1⟩
    obtain ⟨b1c, b1f⟩ := bcell b1
    have z1 := b1.size
    try simp only [World.size_alloc] at z1
    have B1 : Below w.heap.size w w1 := Below.chain (Below.refl _ _) (by go_grown) b1 (by go_size)
    have y10 : w.heap.size < w1.heap.size := by omega
    have y11 : w.heap.size + 1 < w1.heap.size := by omega
    rw [HX.out]
    go_wp2_with fail
    refine (implNormSq_any y0 y1 y2 y3 y4 _).mono ?_
    rintro e w2 ⟨rfl, b2⟩
    have z2 := b2.size
    try simp only [World.size_alloc] at z2
    have C2 := Below.chain b1 (by go_grown) b2 (by go_size)
    have B2 : Below w.heap.size w w2 := Below.chain B1 (by go_grown) b2 (by go_size)
    obtain ⟨b2c, b2f⟩ := bcell b2
    obtain ⟨C2c, C2f⟩ := bcellB C2
    have y20 : w.heap.size < w2.heap.size := by omega
    have y21 : w.heap.size + 1 < w2.heap.size := by omega
    try (have v21 : w1.heap.size < w2.heap.size := by omega)
    rw [HY.out]
    go_wp2_with fail
    refine (Hsub.out _).mono ?_
    rintro e w3 ⟨rfl, b3⟩
    have z3 := b3.size
    try simp only [World.size_alloc] at z3
    have C3 := Below.chain C2 (by go_grown) b3 (by go_size)
    have B3 : Below w.heap.size w w3 := Below.chain B2 (by go_grown) b3 (by go_size)
    obtain ⟨b3c, b3f⟩ := bcell b3
    obtain ⟨C3c, C3f⟩ := bcellB C3
    have y30 : w.heap.size < w3.heap.size := by omega
    have y31 : w.heap.size + 1 < w3.heap.size := by omega
    try (have v31 : w1.heap.size < w3.heap.size := by omega)
    try (have v32 : w2.heap.size < w3.heap.size := by omega)
    go_wp2_with fail
    refine (implRealSign_any _ _ _).mono ?_
    rintro e w' ⟨rfl, rfl⟩
    unfold signRes
    go_wp2
    go_ret2
    refine ⟨by simp, ?_⟩
    go_grown
end Go.Proofs.Ytcmkkjdleihjfaa
