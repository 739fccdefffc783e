/- AbsSquare and NormOf, of the program and of the reference. -/
import Derived.Test.YtcmkkjdleihjfaaRingSpec
namespace Go.Proofs.Ytcmkkjdleihjfaa
open Go.RowKit

def absU (a b c d : Int) : Int := a * a + b * b + c * c + d * d
def absV (a b c d : Int) : Int := a * b + b * c + c * d - d * a
def absOk (a b c d : Int) : Bool := rOk a b c d && (coefB (absU a b c d) && coefB (absV a b c d))
def absRes (a b c d : Int) : Value := .tuple #[.int .i64 (rI (absOk a b c d) (absU a b c d)), .int .i64 (rI (absOk a b c d) (absV a b c d)), .bool (absOk a b c d)]

theorem ret_ii {a b a' b' : Int} (h1 : a = a') (h2 : b = b') : Ending.returned (.tuple #[.int .i64 a, .int .i64 b]) = .returned (.tuple #[.int .i64 a', .int .i64 b']) := by rw [h1, h2]
theorem below_drewN {B : Nat} {a w : World} (h : Below B a w) (n : Nat) : Below B a (w.drewN n) := ⟨h.os, h.tape, h.output, h.size, h.block⟩

set_option maxHeartbeats 1000000 in
theorem l1Abs_any (a b c d : Int) (w : World) (hx : rOk a b c d = true) :
    Calls Try.prog 112 #[rv a b c d] w fun e w' => e = .returned (.tuple #[.int .i64 (absU a b c d), .int .i64 (absV a b c d)]) ∧ Below w.heap.size w w' := by
  have Hx := Lib.hid hx
  clear hx
  go_enter Try.func112, Try.ntmps112
  go_wp2_with fail
  go_quiet (fail)
  go_wp2
  go_ret2
  obtain ⟨p00, p01, p02, p03, p10, p11, p12, p13, p20, p21, p22, p23, p30, p31, p32, p33⟩ := mul_bds (rOk_iff.1 Hx.out) (rOk_iff.1 Hx.out)
  refine ⟨ret_ii ?_ ?_, ?_⟩
  · simp (disch := omega) only [IntWalk.wrap64_in]
    rfl
  · simp (disch := omega) only [IntWalk.wrap64_in]
    rfl
  · refine below_drewN ?_ _
    go_grown

set_option maxHeartbeats 1000000 in
theorem specAbs_any (a b c d : Int) (w : World) :
    Calls Try.prog 76 #[rv a b c d] w fun e w' => e = .returned (absRes a b c d) ∧ Below w.heap.size w w' := by
  rcases hx : rOk a b c d with _ | _
  · go_enter Try.func76, Try.ntmps76
    go_wp2_with fail
    refine (l1Good_any _ _ _ _ _).mono ?_
    rintro e w1 ⟨rfl, b1⟩
    obtain ⟨b1c, b1f⟩ := bcell b1
    have z1 := b1.size
    try simp only [World.size_alloc] at z1
    have B1 : Below w.heap.size w w1 := Below.chain (Below.refl _ _) (by go_grown) b1 (by go_size)
    have y10 : w.heap.size < w1.heap.size := by omega
    go_wp2
    go_ret3
    refine ⟨by simp [absRes, absOk, hx, rI_f], ?_⟩
    go_grown
  have Hx := Lib.hid hx
  rcases hu : coefB (absU a b c d) && coefB (absV a b c d) with _ | _
  all_goals
    have hu' : (inB (absU a b c d) (-1000000000) 1000000000 && inB (absV a b c d) (-1000000000) 1000000000) = _ := hu
    have Hu := Lib.hid hu
    clear hu
    go_enter Try.func76, Try.ntmps76
    go_wp2_with fail
    refine (l1Good_any _ _ _ _ _).mono ?_
    rintro e w1 ⟨rfl, b1⟩
    obtain ⟨b1c, b1f⟩ := bcell b1
    have z1 := b1.size
    try simp only [World.size_alloc] at z1
    have B1 : Below w.heap.size w w1 := Below.chain (Below.refl _ _) (by go_grown) b1 (by go_size)
    have y10 : w.heap.size < w1.heap.size := by omega
    go_wp2_with fail
    refine (l1Abs_any _ _ _ _ _ Hx.out).mono ?_
    rintro e w2 ⟨rfl, b2⟩
    have z2 := b2.size
    try simp only [World.size_alloc] at z2
    have C2 := Below.chain b1 (by go_grown) b2 (by go_size)
    have B2 : Below w.heap.size w w2 := Below.chain B1 (by go_grown) b2 (by go_size)
    obtain ⟨b2c, b2f⟩ := bcell b2
    obtain ⟨C2c, C2f⟩ := bcellB C2
    have y20 : w.heap.size < w2.heap.size := by omega
    try (have v21 : w1.heap.size < w2.heap.size := by omega)
    go_wp2_with fail
    refine (l1All2 _ (absU a b c d) (absV a b c d) _ _ _ (intsAt2 (by go_simp) (by go_simp))).mono ?_
    rintro e w' ⟨rfl, rfl⟩
    go_wp2
    go_ret3
    refine ⟨by simp [absRes, absOk, hx, Hu.out, rI_t, rI_f], ?_⟩
    go_grown

theorem mulc_bd {x y : Int} (hx : -1000000000 ≤ x ∧ x ≤ 1000000000) (hy : -1000000000 ≤ y ∧ y ≤ 1000000000) : -1000000000000000000 ≤ x * y ∧ x * y ≤ 1000000000000000000 := mul_bd hx hy

set_option maxHeartbeats 1000000 in
theorem implAbs_any (a b c d : Int) (w : World) :
    Calls Try.prog 29 #[rv a b c d] w fun e w' => e = .returned (absRes a b c d) ∧ Below w.heap.size w w' := by
  rcases hx : rOk a b c d with _ | _
  · go_enter Try.func29, Try.ntmps29
    go_wp2_with fail
    refine (IsValidRing_any _ _ _ _ _).mono ?_
    rintro e w1 ⟨rfl, b1⟩
    obtain ⟨b1c, b1f⟩ := bcell b1
    have z1 := b1.size
    try simp only [World.size_alloc] at z1
    have B1 : Below w.heap.size w w1 := Below.chain (Below.refl _ _) (by go_grown) b1 (by go_size)
    have y10 : w.heap.size < w1.heap.size := by omega
    go_wp2
    go_ret3
    refine ⟨by simp [absRes, absOk, hx, rI_f], ?_⟩
    go_grown
  have Hx := Lib.hid hx
  have hU : wrap64 (wrap64 (wrap64 (wrap64 (a * a) + wrap64 (b * b)) + wrap64 (c * c)) + wrap64 (d * d)) = absU a b c d := by
    obtain ⟨p00, p01, p02, p03, p10, p11, p12, p13, p20, p21, p22, p23, p30, p31, p32, p33⟩ := mul_bds (rOk_iff.1 hx) (rOk_iff.1 hx)
    simp (disch := omega) only [IntWalk.wrap64_in]
    rfl
  have hV : wrap64 (wrap64 (wrap64 (wrap64 (a * b) + wrap64 (b * c)) + wrap64 (c * d)) - wrap64 (d * a)) = absV a b c d := by
    obtain ⟨p00, p01, p02, p03, p10, p11, p12, p13, p20, p21, p22, p23, p30, p31, p32, p33⟩ := mul_bds (rOk_iff.1 hx) (rOk_iff.1 hx)
    simp (disch := omega) only [IntWalk.wrap64_in]
    rfl
  have HU := Lib.hid hU
  have HV := Lib.hid hV
  clear hU hV
  rcases hu : coefB (absU a b c d) with _ | _
  · go_enter Try.func29, Try.ntmps29
    go_wp2_with fail
    refine (IsValidRing_any _ _ _ _ _).mono ?_
    rintro e w1 ⟨rfl, b1⟩
    obtain ⟨b1c, b1f⟩ := bcell b1
    have z1 := b1.size
    try simp only [World.size_alloc] at z1
    have B1 : Below w.heap.size w w1 := Below.chain (Below.refl _ _) (by go_grown) b1 (by go_size)
    have y10 : w.heap.size < w1.heap.size := by omega
    go_wp2_with fail
    go_quiet (fail)
    rw [HU.out, HV.out]
    go_wp2_with fail
    refine (isCoef_any _ _).mono ?_
    rintro e w' ⟨rfl, rfl⟩
    go_wp2
    go_ret3
    refine ⟨by simp [absRes, absOk, hu, rI_f], ?_⟩
    exact below_drewN B1 _
  rcases hv : coefB (absV a b c d) with _ | _
  all_goals
    go_enter Try.func29, Try.ntmps29
    go_wp2_with fail
    refine (IsValidRing_any _ _ _ _ _).mono ?_
    rintro e w1 ⟨rfl, b1⟩
    obtain ⟨b1c, b1f⟩ := bcell b1
    have z1 := b1.size
    try simp only [World.size_alloc] at z1
    have B1 : Below w.heap.size w w1 := Below.chain (Below.refl _ _) (by go_grown) b1 (by go_size)
    have y10 : w.heap.size < w1.heap.size := by omega
    go_wp2_with fail
    go_quiet (fail)
    rw [HU.out, HV.out]
    go_wp2_with fail
    refine (isCoef_any _ _).mono ?_
    rintro e w' ⟨rfl, rfl⟩
    go_wp2_with fail
    refine (isCoef_any _ _).mono ?_
    rintro e w' ⟨rfl, rfl⟩
    go_wp2
    go_ret3
    refine ⟨by simp [absRes, absOk, hx, hu, hv, rI_t, rI_f], ?_⟩
    exact below_drewN B1 _

def normRes (a b c d : Int) : Value := .tuple #[.int .i64 (rI (absOk a b c d) (absU a b c d * absU a b c d - 2 * absV a b c d * absV a b c d)), .bool (absOk a b c d)]
theorem absOk_bd {a b c d : Int} (h : absOk a b c d = true) : (-1000000000 ≤ absU a b c d ∧ absU a b c d ≤ 1000000000) ∧ (-1000000000 ≤ absV a b c d ∧ absV a b c d ≤ 1000000000) := by
  simp only [absOk, Bool.and_eq_true, coefB_iff] at h
  exact h.2
theorem norm_bd {u v : Int} (hu : -1000000000 ≤ u ∧ u ≤ 1000000000) (hv : -1000000000 ≤ v ∧ v ≤ 1000000000) :
    wrap64 (wrap64 (u * u) - wrap64 (wrap64 (2 * v) * v)) = u * u - 2 * v * v := by
  have h1 := mul_bd hu hu
  have h2 := mul_bd hv hv
  have e : (2 * v) * v = 2 * (v * v) := Int.mul_assoc _ _ _
  rw [IntWalk.wrap64_in (2 * v) (by omega), e]
  simp (disch := omega) only [IntWalk.wrap64_in]

set_option maxHeartbeats 1000000 in
theorem specNorm_any (a b c d : Int) (w : World) :
    Calls Try.prog 35 #[rv a b c d] w fun e w' => e = .returned (normRes a b c d) ∧ Below w.heap.size w w' := by
  rcases hx : absOk a b c d with _ | _
  · go_enter Try.func35, Try.ntmps35
    go_wp2_with fail
    refine (specAbs_any _ _ _ _ _).mono ?_
    rintro e w1 ⟨rfl, b1⟩
    obtain ⟨b1c, b1f⟩ := bcell b1
    have z1 := b1.size
    try simp only [World.size_alloc] at z1
    have B1 : Below w.heap.size w w1 := Below.chain (Below.refl _ _) (by go_grown) b1 (by go_size)
    have y10 : w.heap.size < w1.heap.size := by omega
    unfold absRes
    go_wp2
    go_ret2
    refine ⟨by simp [normRes, hx, rI_f], ?_⟩
    go_grown
  · have hn := norm_bd (absOk_bd hx).1 (absOk_bd hx).2
    have Hn := Lib.hid hn
    have Hx := Lib.hid hx
    clear hn
    go_enter Try.func35, Try.ntmps35
    go_wp2_with fail
    refine (specAbs_any _ _ _ _ _).mono ?_
    rintro e w1 ⟨rfl, b1⟩
    obtain ⟨b1c, b1f⟩ := bcell b1
    have z1 := b1.size
    try simp only [World.size_alloc] at z1
    have B1 : Below w.heap.size w w1 := Below.chain (Below.refl _ _) (by go_grown) b1 (by go_size)
    have y10 : w.heap.size < w1.heap.size := by omega
    unfold absRes
    rw [hx, rI_t, rI_t]
    go_wp2
    go_ret2
    refine ⟨?_, ?_⟩
    · simp only [normRes, Hx.out, rI_t]
      rw [← Hn.out]
      rfl
    go_grown

set_option maxHeartbeats 1000000 in
theorem implNorm_any (a b c d : Int) (w : World) :
    Calls Try.prog 34 #[rv a b c d] w fun e w' => e = .returned (normRes a b c d) ∧ Below w.heap.size w w' := by
  rcases hx : absOk a b c d with _ | _
  · go_enter Try.func34, Try.ntmps34
    go_wp2_with fail
    refine (implAbs_any _ _ _ _ _).mono ?_
    rintro e w1 ⟨rfl, b1⟩
    obtain ⟨b1c, b1f⟩ := bcell b1
    have z1 := b1.size
    try simp only [World.size_alloc] at z1
    have B1 : Below w.heap.size w w1 := Below.chain (Below.refl _ _) (by go_grown) b1 (by go_size)
    have y10 : w.heap.size < w1.heap.size := by omega
    unfold absRes
    rw [hx, rI_f, rI_f]
    go_wp2
    go_ret2
    refine ⟨by simp [normRes, hx, rI_f], ?_⟩
    go_grown
  · have hn := norm_bd (absOk_bd hx).1 (absOk_bd hx).2
    have Hn := Lib.hid hn
    have Hx := Lib.hid hx
    clear hn
    go_enter Try.func34, Try.ntmps34
    go_wp2_with fail
    refine (implAbs_any _ _ _ _ _).mono ?_
    rintro e w1 ⟨rfl, b1⟩
    obtain ⟨b1c, b1f⟩ := bcell b1
    have z1 := b1.size
    try simp only [World.size_alloc] at z1
    have B1 : Below w.heap.size w w1 := Below.chain (Below.refl _ _) (by go_grown) b1 (by go_size)
    have y10 : w.heap.size < w1.heap.size := by omega
    unfold absRes
    rw [hx, rI_t, rI_t]
    go_wp2
    go_ret2
    refine ⟨?_, ?_⟩
    · simp only [normRes, Hx.out, rI_t]
      rw [← Hn.out]
      rfl
    go_grown
end Go.Proofs.Ytcmkkjdleihjfaa
