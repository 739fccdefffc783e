/- Commute and MulPauli of valid and other operators: the whole functions. -/
import Derived.Test.YtcmkkjdleihjfaaPauC
namespace Go.Proofs.Ytcmkkjdleihjfaa
open Go.RowKit

def pmOk (n pa ax az pb bx bz : Int) : Bool := pauliB n pa ax az && pauliB n pb bx bz
theorem pauli_nat {n p x z : Int} (h : pauliB n p x z = true) : ∃ P X Z : Nat, p = (P : Int) ∧ x = (X : Int) ∧ z = (Z : Int) ∧ P < 4 ∧ X < 32 ∧ Z < 32 := by
  simp only [pauliB, Bool.and_eq_true] at h
  obtain ⟨⟨⟨h0, h1⟩, h2⟩, h3⟩ := h
  have a0 := inB_t.1 h0
  have a1 := inB_t.1 h1
  have a2 := inB_t.1 h2
  have a3 := inB_t.1 h3
  have hp := pow_bd a0.1 a0.2
  refine ⟨p.toNat, x.toNat, z.toNat, by omega, by omega, by omega, by omega, by omega, by omega⟩
def comRes (n pa ax az pb bx bz : Int) : Value := .tuple #[.bool (pmOk n pa ax az pb bx bz && comB ax.toNat az.toNat bx.toNat bz.toNat), .bool (pmOk n pa ax az pb bx bz)]

set_option maxHeartbeats 4000000 in
theorem specCommute_any (n pa ax az pb bx bz : Int) (w : World) :
    Calls Try.prog 15 #[.int .i64 n, pv pa ax az, pv pb bx bz] w fun e w' => e = .returned (comRes n pa ax az pb bx bz) ∧ Below w.heap.size w w' := by
  rcases h1 : pauliB n pa ax az with _ | _
  · have Hr : Hid (comRes n pa ax az pb bx bz = .tuple #[.bool false, .bool false]) := by show comRes _ _ _ _ _ _ _ = _; simp [comRes, pmOk, h1]
    go_enter Try.func15, Try.ntmps15
    go_wp2_with fail
    refine (l7Valid_any _ _ _ _ _).mono ?_
    rintro e w1 ⟨rfl, b1⟩
    obtain ⟨b1c, b1f⟩ := bcell b1
    have z1 := b1.size
    try simp only [World.size_alloc] at z1
    have B1 : Below w.heap.size w w1 := Below.chain (Below.refl _ _) (by go_grown) b1 (by go_size)
    have y10 : w.heap.size < w1.heap.size := by omega
    have y11 : w.heap.size + 1 < w1.heap.size := by omega
    rw [h1]
    go_wp2
    rw [Hr.out]
    go_ret2
    refine ⟨rfl, ?_⟩
    go_grown
  rcases h2 : pauliB n pb bx bz with _ | _
  · have Hr : Hid (comRes n pa ax az pb bx bz = .tuple #[.bool false, .bool false]) := by show comRes _ _ _ _ _ _ _ = _; simp [comRes, pmOk, h2]
    go_enter Try.func15, Try.ntmps15
    go_wp2_with fail
    refine (l7Valid_any _ _ _ _ _).mono ?_
    rintro e w1 ⟨rfl, b1⟩
    obtain ⟨b1c, b1f⟩ := bcell b1
    have z1 := b1.size
    try simp only [World.size_alloc] at z1
    have B1 : Below w.heap.size w w1 := Below.chain (Below.refl _ _) (by go_grown) b1 (by go_size)
    have y10 : w.heap.size < w1.heap.size := by omega
    have y11 : w.heap.size + 1 < w1.heap.size := by omega
    rw [h1]
    go_wp2_with fail
    refine (l7Valid_any _ _ _ _ _).mono ?_
    rintro e w2 ⟨rfl, b2⟩
    have z2 := b2.size
    try simp only [World.size_alloc] at z2
    have C2 := Below.chain b1 (by go_grown) b2 (by go_size)
    have B2 : Below w.heap.size w w2 := Below.chain B1 (by go_grown) b2 (by go_size)
    obtain ⟨b2c, b2f⟩ := bcell b2
    obtain ⟨C2c, C2f⟩ := bcellB C2
    have y20 : w.heap.size < w2.heap.size := by omega
    have y21 : w.heap.size + 1 < w2.heap.size := by omega
    try (have v21 : w1.heap.size < w2.heap.size := by omega)
    rw [h2]
    go_wp2
    rw [Hr.out]
    go_ret2
    refine ⟨rfl, ?_⟩
    go_grown
  obtain ⟨P, X, Z, rfl, rfl, rfl, hP, hX, hZ⟩ := pauli_nat h1
  obtain ⟨P', X', Z', rfl, rfl, rfl, hP', hX', hZ'⟩ := pauli_nat h2
  have Hr : Hid (comRes n P X Z P' X' Z' = .tuple #[.bool (comB X Z X' Z'), .bool true]) := by show comRes _ _ _ _ _ _ _ = _; simp [comRes, pmOk, h1, h2]
  have H := Lib.hid (fun W => l7Commute_any P P' X Z X' Z' W hP hP' hX hZ hX' hZ')
  have H1 := Lib.hid h1
  have H2 := Lib.hid h2
  clear h1 h2 hP hX hZ hP' hX' hZ'
  go_enter Try.func15, Try.ntmps15
  go_wp2_with fail
  refine (l7Valid_any _ _ _ _ _).mono ?_
  rintro e w1 ⟨rfl, b1⟩
  obtain ⟨b1c, b1f⟩ := bcell b1
  have z1 := b1.size
  try simp only [World.size_alloc] at z1
  have B1 : Below w.heap.size w w1 := Below.chain (Below.refl _ _) (by go_grown) b1 (by go_size)
  have y10 : w.heap.size < w1.heap.size := by omega
  have y11 : w.heap.size + 1 < w1.heap.size := by omega
  rw [H1.out]
  go_wp2_with fail
  refine (l7Valid_any _ _ _ _ _).mono ?_
  rintro e w2 ⟨rfl, b2⟩
  have z2 := b2.size
  try simp only [World.size_alloc] at z2
  have C2 := Below.chain b1 (by go_grown) b2 (by go_size)
  have B2 : Below w.heap.size w w2 := Below.chain B1 (by go_grown) b2 (by go_size)
  obtain ⟨b2c, b2f⟩ := bcell b2
  obtain ⟨C2c, C2f⟩ := bcellB C2
  have y20 : w.heap.size < w2.heap.size := by omega
  have y21 : w.heap.size + 1 < w2.heap.size := by omega
  try (have v21 : w1.heap.size < w2.heap.size := by omega)
  rw [H2.out]
  go_wp2_with fail
  refine (H.out _).mono ?_
  rintro e w3 ⟨rfl, b3⟩
  have z3 := b3.size
  try simp only [World.size_alloc] at z3
  have C3 := Below.chain C2 (by go_grown) b3 (by go_size)
  have B3 : Below w.heap.size w w3 := Below.chain B2 (by go_grown) b3 (by go_size)
  obtain ⟨b3c, b3f⟩ := bcell b3
  obtain ⟨C3c, C3f⟩ := bcellB C3
  have y30 : w.heap.size < w3.heap.size := by omega
  have y31 : w.heap.size + 1 < w3.heap.size := by omega
  try (have v31 : w1.heap.size < w3.heap.size := by omega)
  try (have v32 : w2.heap.size < w3.heap.size := by omega)
  go_wp2
  rw [Hr.out]
  go_ret2
  refine ⟨rfl, ?_⟩
  go_grown

set_option maxHeartbeats 4000000 in
theorem implCommute_any (n pa ax az pb bx bz : Int) (w : World) :
    Calls Try.prog 16 #[.int .i64 n, pv pa ax az, pv pb bx bz] w fun e w' => e = .returned (comRes n pa ax az pb bx bz) ∧ Below w.heap.size w w' := by
  rcases h1 : pauliB n pa ax az with _ | _
  · have Hr : Hid (comRes n pa ax az pb bx bz = .tuple #[.bool false, .bool false]) := by show comRes _ _ _ _ _ _ _ = _; simp [comRes, pmOk, h1]
    go_enter Try.func16, Try.ntmps16
    go_wp2_with fail
    refine (implValidPauli_any _ _ _ _ _).mono ?_
    rintro e w1 ⟨rfl, b1⟩
    obtain ⟨b1c, b1f⟩ := bcell b1
    have z1 := b1.size
    try simp only [World.size_alloc] at z1
    have B1 : Below w.heap.size w w1 := Below.chain (Below.refl _ _) (by go_grown) b1 (by go_size)
    have y10 : w.heap.size < w1.heap.size := by omega
    have y11 : w.heap.size + 1 < w1.heap.size := by omega
    rw [h1]
    go_wp2
    rw [Hr.out]
    go_ret2
    refine ⟨rfl, ?_⟩
    go_grown
  rcases h2 : pauliB n pb bx bz with _ | _
  · have Hr : Hid (comRes n pa ax az pb bx bz = .tuple #[.bool false, .bool false]) := by show comRes _ _ _ _ _ _ _ = _; simp [comRes, pmOk, h2]
    go_enter Try.func16, Try.ntmps16
    go_wp2_with fail
    refine (implValidPauli_any _ _ _ _ _).mono ?_
    rintro e w1 ⟨rfl, b1⟩
    obtain ⟨b1c, b1f⟩ := bcell b1
    have z1 := b1.size
    try simp only [World.size_alloc] at z1
    have B1 : Below w.heap.size w w1 := Below.chain (Below.refl _ _) (by go_grown) b1 (by go_size)
    have y10 : w.heap.size < w1.heap.size := by omega
    have y11 : w.heap.size + 1 < w1.heap.size := by omega
    rw [h1]
    go_wp2_with fail
    refine (implValidPauli_any _ _ _ _ _).mono ?_
    rintro e w2 ⟨rfl, b2⟩
    have z2 := b2.size
    try simp only [World.size_alloc] at z2
    have C2 := Below.chain b1 (by go_grown) b2 (by go_size)
    have B2 : Below w.heap.size w w2 := Below.chain B1 (by go_grown) b2 (by go_size)
    obtain ⟨b2c, b2f⟩ := bcell b2
    obtain ⟨C2c, C2f⟩ := bcellB C2
    have y20 : w.heap.size < w2.heap.size := by omega
    have y21 : w.heap.size + 1 < w2.heap.size := by omega
    try (have v21 : w1.heap.size < w2.heap.size := by omega)
    rw [h2]
    go_wp2
    rw [Hr.out]
    go_ret2
    refine ⟨rfl, ?_⟩
    go_grown
  obtain ⟨P, X, Z, rfl, rfl, rfl, hP, hX, hZ⟩ := pauli_nat h1
  obtain ⟨P', X', Z', rfl, rfl, rfl, hP', hX', hZ'⟩ := pauli_nat h2
  have Hr : Hid (comRes n P X Z P' X' Z' = .tuple #[.bool (comB X Z X' Z'), .bool true]) := by show comRes _ _ _ _ _ _ _ = _; simp [comRes, pmOk, h1, h2]
  have H := Lib.hid (fun W => commute_any P P' X Z X' Z' W hX hZ hX' hZ')
  have H1 := Lib.hid h1
  have H2 := Lib.hid h2
  clear h1 h2 hP hX hZ hP' hX' hZ'
  go_enter Try.func16, Try.ntmps16
  go_wp2_with fail
  refine (implValidPauli_any _ _ _ _ _).mono ?_
  rintro e w1 ⟨rfl, b1⟩
  obtain ⟨b1c, b1f⟩ := bcell b1
  have z1 := b1.size
  try simp only [World.size_alloc] at z1
  have B1 : Below w.heap.size w w1 := Below.chain (Below.refl _ _) (by go_grown) b1 (by go_size)
  have y10 : w.heap.size < w1.heap.size := by omega
  have y11 : w.heap.size + 1 < w1.heap.size := by omega
  rw [H1.out]
  go_wp2_with fail
  refine (implValidPauli_any _ _ _ _ _).mono ?_
  rintro e w2 ⟨rfl, b2⟩
  have z2 := b2.size
  try simp only [World.size_alloc] at z2
  have C2 := Below.chain b1 (by go_grown) b2 (by go_size)
  have B2 : Below w.heap.size w w2 := Below.chain B1 (by go_grown) b2 (by go_size)
  obtain ⟨b2c, b2f⟩ := bcell b2
  obtain ⟨C2c, C2f⟩ := bcellB C2
  have y20 : w.heap.size < w2.heap.size := by omega
  have y21 : w.heap.size + 1 < w2.heap.size := by omega
  try (have v21 : w1.heap.size < w2.heap.size := by omega)
  rw [H2.out]
  go_wp2_with fail
  refine (H.out _).mono ?_
  rintro e w3 ⟨rfl, b3⟩
  have z3 := b3.size
  try simp only [World.size_alloc] at z3
  have C3 := Below.chain C2 (by go_grown) b3 (by go_size)
  have B3 : Below w.heap.size w w3 := Below.chain B2 (by go_grown) b3 (by go_size)
  obtain ⟨b3c, b3f⟩ := bcell b3
  obtain ⟨C3c, C3f⟩ := bcellB C3
  have y30 : w.heap.size < w3.heap.size := by omega
  have y31 : w.heap.size + 1 < w3.heap.size := by omega
  try (have v31 : w1.heap.size < w3.heap.size := by omega)
  try (have v32 : w2.heap.size < w3.heap.size := by omega)
  go_wp2
  rw [Hr.out]
  go_ret2
  refine ⟨rfl, ?_⟩
  go_grown
end Go.Proofs.Ytcmkkjdleihjfaa
