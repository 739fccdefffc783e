/- The ring operations of the reference: the same values as the program's. -/
import Derived.Test.YtcmkkjdleihjfaaRingOps
namespace Go.Proofs.Ytcmkkjdleihjfaa
open Go.RowKit

set_option maxHeartbeats 1000000 in
theorem l1Mul_any (a b c d a' b' c' d' : Int) (w : World) (hx : rOk a b c d = true) (hy : rOk a' b' c' d' = true) :
    Calls Try.prog 68 #[rv a b c d, rv a' b' c' d'] w fun e w' => e = .returned (rv (a * a' - b * d' - c * c' - d * b') (a * b' + b * a' - c * d' - d * c') (a * c' + b * b' + c * a' - d * d') (a * d' + b * c' + c * b' + d * a')) ∧ Below w.heap.size w w' := by
  obtain ⟨p00, p01, p02, p03, p10, p11, p12, p13, p20, p21, p22, p23, p30, p31, p32, p33⟩ := mul_bds (rOk_iff.1 hx) (rOk_iff.1 hy)
  have Hp := Lib.hid (And.intro p00 (And.intro p01 (And.intro p02 (And.intro p03 (And.intro p10 (And.intro p11 (And.intro p12 (And.intro p13 (And.intro p20 (And.intro p21 (And.intro p22 (And.intro p23 (And.intro p30 (And.intro p31 (And.intro p32 p33)))))))))))))))
  clear hx hy p00 p01 p02 p03 p10 p11 p12 p13 p20 p21 p22 p23 p30 p31 p32 p33
  go_enter Try.func68, Try.ntmps68
  go_wp2
  go_returns
  refine ⟨ret_rv ?_ ?_ ?_ ?_, ?_⟩
  iterate 4
    · obtain ⟨p00, p01, p02, p03, p10, p11, p12, p13, p20, p21, p22, p23, p30, p31, p32, p33⟩ := Hp.out
      simp (disch := omega) only [IntWalk.wrap64_in]
  go_grown

set_option maxHeartbeats 1000000 in
theorem specMul_any (a b c d a' b' c' d' : Int) (w : World) :
    Calls Try.prog 24 #[rv a b c d, rv a' b' c' d'] w fun e w' => e = .returned (ringRes (rOk a b c d && rOk a' b' c' d') (a * a' - b * d' - c * c' - d * b') (a * b' + b * a' - c * d' - d * c') (a * c' + b * b' + c * a' - d * d') (a * d' + b * c' + c * b' + d * a')) ∧ Below w.heap.size w w' := by
  rcases hx : rOk a b c d with _ | _
  · go_enter Try.func24, Try.ntmps24
    go_wp2_with fail
    refine (l1Good_any _ _ _ _ _).mono ?_
    rintro e w1 ⟨rfl, b1⟩
    obtain ⟨b1c, b1f⟩ := bcell b1
    have z1 := b1.size
    try simp only [World.size_alloc] at z1
    have B1 : Below w.heap.size w w1 := Below.chain (Below.refl _ _) (by go_grown) b1 (by go_size)
    have y10 : w.heap.size < w1.heap.size := by omega
    go_wp2
    refine bodyPost_ret (by simp [results, Try.results24, go_sem, b1c, ringRes, rI_f]) rfl ⟨rfl, ?_⟩
    go_grown
  rcases hy : rOk a' b' c' d' with _ | _
  · go_enter Try.func24, Try.ntmps24
    go_wp2_with fail
    refine (l1Good_any _ _ _ _ _).mono ?_
    rintro e w1 ⟨rfl, b1⟩
    obtain ⟨b1c, b1f⟩ := bcell b1
    have z1 := b1.size
    try simp only [World.size_alloc] at z1
    have B1 : Below w.heap.size w w1 := Below.chain (Below.refl _ _) (by go_grown) b1 (by go_size)
    have y10 : w.heap.size < w1.heap.size := by omega
    go_wp2_with fail
    refine (l1Good_any _ _ _ _ _).mono ?_
    rintro e w2 ⟨rfl, b2⟩
    have z2 := b2.size
    try simp only [World.size_alloc] at z2
    have C2 := Below.chain b1 (by go_grown) b2 (by go_size)
    have B2 : Below w.heap.size w w2 := Below.chain B1 (by go_grown) b2 (by go_size)
    obtain ⟨b2c, b2f⟩ := bcell b2
    obtain ⟨C2c, C2f⟩ := bcellB C2
    have y20 : w.heap.size < w2.heap.size := by omega
    try (have v21 : w1.heap.size < w2.heap.size := by omega)
    go_wp2
    refine bodyPost_ret (by simp [results, Try.results24, go_sem, C2c, ringRes, rI_f]) rfl ⟨rfl, ?_⟩
    go_grown
  · have Hx := Lib.hid hx
    have Hy := Lib.hid hy
    go_enter Try.func24, Try.ntmps24
    go_wp2_with fail
    refine (l1Good_any _ _ _ _ _).mono ?_
    rintro e w1 ⟨rfl, b1⟩
    obtain ⟨b1c, b1f⟩ := bcell b1
    have z1 := b1.size
    try simp only [World.size_alloc] at z1
    have B1 : Below w.heap.size w w1 := Below.chain (Below.refl _ _) (by go_grown) b1 (by go_size)
    have y10 : w.heap.size < w1.heap.size := by omega
    go_wp2_with fail
    refine (l1Good_any _ _ _ _ _).mono ?_
    rintro e w2 ⟨rfl, b2⟩
    have z2 := b2.size
    try simp only [World.size_alloc] at z2
    have C2 := Below.chain b1 (by go_grown) b2 (by go_size)
    have B2 : Below w.heap.size w w2 := Below.chain B1 (by go_grown) b2 (by go_size)
    obtain ⟨b2c, b2f⟩ := bcell b2
    obtain ⟨C2c, C2f⟩ := bcellB C2
    have y20 : w.heap.size < w2.heap.size := by omega
    try (have v21 : w1.heap.size < w2.heap.size := by omega)
    go_wp2_with fail
    refine (l1Mul_any _ _ _ _ _ _ _ _ _ Hx.out Hy.out).mono ?_
    rintro e w3 ⟨rfl, b3⟩
    have z3 := b3.size
    try simp only [World.size_alloc] at z3
    have C3 := Below.chain C2 (by go_grown) b3 (by go_size)
    have B3 : Below w.heap.size w w3 := Below.chain B2 (by go_grown) b3 (by go_size)
    obtain ⟨b3c, b3f⟩ := bcell b3
    obtain ⟨C3c, C3f⟩ := bcellB C3
    have y30 : w.heap.size < w3.heap.size := by omega
    try (have v31 : w1.heap.size < w3.heap.size := by omega)
    try (have v32 : w2.heap.size < w3.heap.size := by omega)
    go_wp2_with fail
    refine (l1Out_any _ _ _ _ _).mono ?_
    rintro e w4 ⟨rfl, b4⟩
    have z4 := b4.size
    try simp only [World.size_alloc] at z4
    have C4 := Below.chain C3 (by go_grown) b4 (by go_size)
    have B4 : Below w.heap.size w w4 := Below.chain B3 (by go_grown) b4 (by go_size)
    obtain ⟨b4c, b4f⟩ := bcell b4
    obtain ⟨C4c, C4f⟩ := bcellB C4
    have y40 : w.heap.size < w4.heap.size := by omega
    try (have v41 : w1.heap.size < w4.heap.size := by omega)
    try (have v42 : w2.heap.size < w4.heap.size := by omega)
    try (have v43 : w3.heap.size < w4.heap.size := by omega)
    go_wp2
    refine bodyPost_ret (by simp [results, Try.results24, go_sem, C4c, ringRes]) rfl ⟨rfl, ?_⟩
    go_grown

set_option maxHeartbeats 1000000 in
theorem specRoot_any (a b c d : Int) (w : World) :
    Calls Try.prog 39 #[rv a b c d] w fun e w' => e = .returned (ringRes (rOk a b c d) (b - d) (a + c) (b + d) (c - a)) ∧ Below w.heap.size w w' := by
  rcases hx : rOk a b c d with _ | _
  · go_enter Try.func39, Try.ntmps39
    go_wp2_with fail
    refine (l1Good_any _ _ _ _ _).mono ?_
    rintro e w1 ⟨rfl, b1⟩
    obtain ⟨b1c, b1f⟩ := bcell b1
    have z1 := b1.size
    try simp only [World.size_alloc] at z1
    have B1 : Below w.heap.size w w1 := Below.chain (Below.refl _ _) (by go_grown) b1 (by go_size)
    have y10 : w.heap.size < w1.heap.size := by omega
    go_wp2
    refine bodyPost_ret (by simp [results, Try.results39, go_sem, b1c, ringRes, rI_f]) rfl ⟨rfl, ?_⟩
    go_grown
  · have Hx := Lib.hid hx
    go_enter Try.func39, Try.ntmps39
    go_wp2_with fail
    refine (l1Good_any _ _ _ _ _).mono ?_
    rintro e w1 ⟨rfl, b1⟩
    obtain ⟨b1c, b1f⟩ := bcell b1
    have z1 := b1.size
    try simp only [World.size_alloc] at z1
    have B1 : Below w.heap.size w w1 := Below.chain (Below.refl _ _) (by go_grown) b1 (by go_size)
    have y10 : w.heap.size < w1.heap.size := by omega
    go_wp2_with fail
    refine (l1Root_any _ _ _ _ _ Hx.out).mono ?_
    rintro e w2 ⟨rfl, b2⟩
    have z2 := b2.size
    try simp only [World.size_alloc] at z2
    have C2 := Below.chain b1 (by go_grown) b2 (by go_size)
    have B2 : Below w.heap.size w w2 := Below.chain B1 (by go_grown) b2 (by go_size)
    obtain ⟨b2c, b2f⟩ := bcell b2
    obtain ⟨C2c, C2f⟩ := bcellB C2
    have y20 : w.heap.size < w2.heap.size := by omega
    try (have v21 : w1.heap.size < w2.heap.size := by omega)
    go_wp2_with fail
    refine (l1Out_any _ _ _ _ _).mono ?_
    rintro e w3 ⟨rfl, b3⟩
    have z3 := b3.size
    try simp only [World.size_alloc] at z3
    have C3 := Below.chain C2 (by go_grown) b3 (by go_size)
    have B3 : Below w.heap.size w w3 := Below.chain B2 (by go_grown) b3 (by go_size)
    obtain ⟨b3c, b3f⟩ := bcell b3
    obtain ⟨C3c, C3f⟩ := bcellB C3
    have y30 : w.heap.size < w3.heap.size := by omega
    try (have v31 : w1.heap.size < w3.heap.size := by omega)
    try (have v32 : w2.heap.size < w3.heap.size := by omega)
    go_wp2
    refine bodyPost_ret (by simp [results, Try.results39, go_sem, C3c, ringRes]) rfl ⟨rfl, ?_⟩
    go_grown


end Go.Proofs.Ytcmkkjdleihjfaa
