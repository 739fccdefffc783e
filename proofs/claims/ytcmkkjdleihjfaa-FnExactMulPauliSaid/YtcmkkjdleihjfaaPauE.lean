/- MulPauli of valid and other operators: the whole functions. -/
import Derived.Test.YtcmkkjdleihjfaaPauD
namespace Go.Proofs.Ytcmkkjdleihjfaa
open Go.RowKit

def pmRes (n pa ax az pb bx bz : Int) : Value := .tuple #[pv (rI (pmOk n pa ax az pb bx bz) ((phM pa.toNat pb.toNat ax.toNat az.toNat bx.toNat bz.toNat : Nat) : Int)) (rI (pmOk n pa ax az pb bx bz) ((ax.toNat ^^^ bx.toNat : Nat) : Int)) (rI (pmOk n pa ax az pb bx bz) ((az.toNat ^^^ bz.toNat : Nat) : Int)), .bool (pmOk n pa ax az pb bx bz)]
theorem pmRes_form (n pa ax az pb bx bz : Int) : ∃ (a b c : Int) (o : Bool), pmRes n pa ax az pb bx bz = .tuple #[pv a b c, .bool o] := ⟨_, _, _, _, rfl⟩

set_option maxHeartbeats 1000000 in
theorem eqPauli_same (a b c : Int) (w : World) :
    Calls Try.prog 19 #[pv a b c, pv a b c] w fun e w' => e = .returned (.bool true) ∧ Below w.heap.size w w' := by
  go_enter Try.func19, Try.ntmps19
  go_wp2
  go_returns
  refine ⟨rfl, ?_⟩
  go_grown

set_option maxHeartbeats 4000000 in
theorem specMulP_any (n pa ax az pb bx bz : Int) (w : World) :
    Calls Try.prog 17 #[.int .i64 n, pv pa ax az, pv pb bx bz] w fun e w' => e = .returned (pmRes n pa ax az pb bx bz) ∧ Below w.heap.size w w' := by
  rcases h1 : pauliB n pa ax az with _ | _
  · have Hr : Hid (pmRes n pa ax az pb bx bz = .tuple #[pv 0 0 0, .bool false]) := by show pmRes _ _ _ _ _ _ _ = _; simp [pmRes, pmOk, h1, rI_f]
    go_enter Try.func17, Try.ntmps17
    go_wp2_with fail
    refine (l7Valid_any _ _ _ _ _).mono ?_
    rintro e w1 ⟨rfl, b1⟩
    obtain ⟨b1c, b1f⟩ := bcell b1
    have z1 := b1.size
    try simp only [World.size_alloc] at z1
    have B1 : Below w.heap.size w w1 := Below.chain (Below.refl _ _) (by go_grown) b1 (by go_size)
    have y10 : w.heap.size < w1.heap.size := by omega
    have y11 : w.heap.size + 1 < w1.heap.size := by omega
    have y12 : w.heap.size + 2 < w1.heap.size := by omega
    rw [h1]
    go_wp2
    rw [Hr.out]
    refine bodyPost_ret (by simp [results, Try.results17, go_sem, b1c]) rfl ⟨rfl, ?_⟩
    go_grown
  rcases h2 : pauliB n pb bx bz with _ | _
  · have Hr : Hid (pmRes n pa ax az pb bx bz = .tuple #[pv 0 0 0, .bool false]) := by show pmRes _ _ _ _ _ _ _ = _; simp [pmRes, pmOk, h2, rI_f]
    go_enter Try.func17, Try.ntmps17
    go_wp2_with fail
    refine (l7Valid_any _ _ _ _ _).mono ?_
    rintro e w1 ⟨rfl, b1⟩
    obtain ⟨b1c, b1f⟩ := bcell b1
    have z1 := b1.size
    try simp only [World.size_alloc] at z1
    have B1 : Below w.heap.size w w1 := Below.chain (Below.refl _ _) (by go_grown) b1 (by go_size)
    have y10 : w.heap.size < w1.heap.size := by omega
    have y11 : w.heap.size + 1 < w1.heap.size := by omega
    have y12 : w.heap.size + 2 < w1.heap.size := by omega
    rw [h1]
    go_wp2_with fail
    refine (l7Valid_any _ _ _ _ _).mono ?_
    rintro e w2 ⟨rfl, b2⟩
    have z2 := b2.size
    try simp only [World.size_alloc] at z2
    have C2 := Below.chain b1 (by go_grown) b2 (by go_size)
    have B2 : Below w.heap.size w w2 := Below.chain B1 (by go_grown) b2 (by go_size)
    obtain ⟨b2c, b2f⟩ := bcell b2
    obtain ⟨C2c, C2f⟩ := bcellB C2
    have y20 : w.heap.size < w2.heap.size := by omega
    have y21 : w.heap.size + 1 < w2.heap.size := by omega
    have y22 : w.heap.size + 2 < w2.heap.size := by omega
    try (have v21 : w1.heap.size < w2.heap.size := by omega)
    rw [h2]
    go_wp2
    rw [Hr.out]
    refine bodyPost_ret (by simp [results, Try.results17, go_sem, C2c]) rfl ⟨rfl, ?_⟩
    go_grown
  obtain ⟨P, X, Z, rfl, rfl, rfl, hP, hX, hZ⟩ := pauli_nat h1
  obtain ⟨P', X', Z', rfl, rfl, rfl, hP', hX', hZ'⟩ := pauli_nat h2
  have Hr : Hid (pmRes n P X Z P' X' Z' = .tuple #[pv ((phM P P' X Z X' Z' : Nat) : Int) ((X ^^^ X' : Nat) : Int) ((Z ^^^ Z' : Nat) : Int), .bool true]) := by show pmRes _ _ _ _ _ _ _ = _; simp only [pmRes, pmOk, h1, h2, Bool.and_self, rI_t, Int.toNat_natCast]
  have H := Lib.hid (fun W => l7Mul_any P P' X Z X' Z' W hP hP' hX hZ hX' hZ')
  have H1 := Lib.hid h1
  have H2 := Lib.hid h2
  obtain ⟨F, hF⟩ : ∃ F, F = phM P P' X Z X' Z' := ⟨_, rfl⟩
  obtain ⟨U, hU⟩ : ∃ U, U = X ^^^ X' := ⟨_, rfl⟩
  obtain ⟨V, hV⟩ : ∃ V, V = Z ^^^ Z' := ⟨_, rfl⟩
  rw [← hF, ← hU, ← hV] at H Hr
  clear h1 h2 hP hX hZ hP' hX' hZ' hF hU hV
  go_enter Try.func17, Try.ntmps17
  go_wp2_with fail
  refine (l7Valid_any _ _ _ _ _).mono ?_
  rintro e w1 ⟨rfl, b1⟩
  obtain ⟨b1c, b1f⟩ := bcell b1
  have z1 := b1.size
  try simp only [World.size_alloc] at z1
  have B1 : Below w.heap.size w w1 := Below.chain (Below.refl _ _) (by go_grown) b1 (by go_size)
  have y10 : w.heap.size < w1.heap.size := by omega
  have y11 : w.heap.size + 1 < w1.heap.size := by omega
  have y12 : w.heap.size + 2 < w1.heap.size := by omega
  rw [H1.out]
  go_wp2_with fail
  refine (l7Valid_any _ _ _ _ _).mono ?_
  rintro e w2 ⟨rfl, b2⟩
  have z2 := b2.size
  try simp only [World.size_alloc] at z2
  have C2 := Below.chain b1 (by go_grown) b2 (by go_size)
  have B2 : Below w.heap.size w w2 := Below.chain B1 (by go_grown) b2 (by go_size)
  obtain ⟨b2c, b2f⟩ := bcell b2
  obtain ⟨C2c, C2f⟩ := bcellB C2
  have y20 : w.heap.size < w2.heap.size := by omega
  have y21 : w.heap.size + 1 < w2.heap.size := by omega
  have y22 : w.heap.size + 2 < w2.heap.size := by omega
  try (have v21 : w1.heap.size < w2.heap.size := by omega)
  rw [H2.out]
  go_wp2_with fail
  refine (H.out _).mono ?_
  rintro e w3 ⟨rfl, b3⟩
  have z3 := b3.size
  try simp only [World.size_alloc] at z3
  have C3 := Below.chain C2 (by go_grown) b3 (by go_size)
  have B3 : Below w.heap.size w w3 := Below.chain B2 (by go_grown) b3 (by go_size)
  obtain ⟨b3c, b3f⟩ := bcell b3
  obtain ⟨C3c, C3f⟩ := bcellB C3
  have y30 : w.heap.size < w3.heap.size := by omega
  have y31 : w.heap.size + 1 < w3.heap.size := by omega
  have y32 : w.heap.size + 2 < w3.heap.size := by omega
  try (have v31 : w1.heap.size < w3.heap.size := by omega)
  try (have v32 : w2.heap.size < w3.heap.size := by omega)
  go_wp2
  rw [Hr.out]
  refine bodyPost_ret (by simp [results, Try.results17, go_sem, C3c]) rfl ⟨rfl, ?_⟩
  go_grown

set_option maxHeartbeats 4000000 in
theorem implMulP_any (n pa ax az pb bx bz : Int) (w : World) :
    Calls Try.prog 18 #[.int .i64 n, pv pa ax az, pv pb bx bz] w fun e w' => e = .returned (pmRes n pa ax az pb bx bz) ∧ Below w.heap.size w w' := by
  rcases h1 : pauliB n pa ax az with _ | _
  · have Hr : Hid (pmRes n pa ax az pb bx bz = .tuple #[pv 0 0 0, .bool false]) := by show pmRes _ _ _ _ _ _ _ = _; simp [pmRes, pmOk, h1, rI_f]
    go_enter Try.func18, Try.ntmps18
    go_wp2_with fail
    refine (implValidPauli_any _ _ _ _ _).mono ?_
    rintro e w1 ⟨rfl, b1⟩
    obtain ⟨b1c, b1f⟩ := bcell b1
    have z1 := b1.size
    try simp only [World.size_alloc] at z1
    have B1 : Below w.heap.size w w1 := Below.chain (Below.refl _ _) (by go_grown) b1 (by go_size)
    have y10 : w.heap.size < w1.heap.size := by omega
    have y11 : w.heap.size + 1 < w1.heap.size := by omega
    have y12 : w.heap.size + 2 < w1.heap.size := by omega
    rw [h1]
    go_wp2
    rw [Hr.out]
    refine bodyPost_ret (by simp [results, Try.results18, go_sem, b1c]) rfl ⟨rfl, ?_⟩
    go_grown
  rcases h2 : pauliB n pb bx bz with _ | _
  · have Hr : Hid (pmRes n pa ax az pb bx bz = .tuple #[pv 0 0 0, .bool false]) := by show pmRes _ _ _ _ _ _ _ = _; simp [pmRes, pmOk, h2, rI_f]
    go_enter Try.func18, Try.ntmps18
    go_wp2_with fail
    refine (implValidPauli_any _ _ _ _ _).mono ?_
    rintro e w1 ⟨rfl, b1⟩
    obtain ⟨b1c, b1f⟩ := bcell b1
    have z1 := b1.size
    try simp only [World.size_alloc] at z1
    have B1 : Below w.heap.size w w1 := Below.chain (Below.refl _ _) (by go_grown) b1 (by go_size)
    have y10 : w.heap.size < w1.heap.size := by omega
    have y11 : w.heap.size + 1 < w1.heap.size := by omega
    have y12 : w.heap.size + 2 < w1.heap.size := by omega
    rw [h1]
    go_wp2_with fail
    refine (implValidPauli_any _ _ _ _ _).mono ?_
    rintro e w2 ⟨rfl, b2⟩
    have z2 := b2.size
    try simp only [World.size_alloc] at z2
    have C2 := Below.chain b1 (by go_grown) b2 (by go_size)
    have B2 : Below w.heap.size w w2 := Below.chain B1 (by go_grown) b2 (by go_size)
    obtain ⟨b2c, b2f⟩ := bcell b2
    obtain ⟨C2c, C2f⟩ := bcellB C2
    have y20 : w.heap.size < w2.heap.size := by omega
    have y21 : w.heap.size + 1 < w2.heap.size := by omega
    have y22 : w.heap.size + 2 < w2.heap.size := by omega
    try (have v21 : w1.heap.size < w2.heap.size := by omega)
    rw [h2]
    go_wp2
    rw [Hr.out]
    refine bodyPost_ret (by simp [results, Try.results18, go_sem, C2c]) rfl ⟨rfl, ?_⟩
    go_grown
  obtain ⟨P, X, Z, rfl, rfl, rfl, hP, hX, hZ⟩ := pauli_nat h1
  obtain ⟨P', X', Z', rfl, rfl, rfl, hP', hX', hZ'⟩ := pauli_nat h2
  have Hr : Hid (pmRes n P X Z P' X' Z' = .tuple #[pv ((phM P P' X Z X' Z' : Nat) : Int) ((X ^^^ X' : Nat) : Int) ((Z ^^^ Z' : Nat) : Int), .bool true]) := by show pmRes _ _ _ _ _ _ _ = _; simp only [pmRes, pmOk, h1, h2, Bool.and_self, rI_t, Int.toNat_natCast]
  have H := Lib.hid (fun W => times_any P P' X Z X' Z' W hP hP' hX hZ hX' hZ')
  have H1 := Lib.hid h1
  have H2 := Lib.hid h2
  obtain ⟨F, hF⟩ : ∃ F, F = phM P P' X Z X' Z' := ⟨_, rfl⟩
  obtain ⟨U, hU⟩ : ∃ U, U = X ^^^ X' := ⟨_, rfl⟩
  obtain ⟨V, hV⟩ : ∃ V, V = Z ^^^ Z' := ⟨_, rfl⟩
  rw [← hF, ← hU, ← hV] at H Hr
  clear h1 h2 hP hX hZ hP' hX' hZ' hF hU hV
  go_enter Try.func18, Try.ntmps18
  go_wp2_with fail
  refine (implValidPauli_any _ _ _ _ _).mono ?_
  rintro e w1 ⟨rfl, b1⟩
  obtain ⟨b1c, b1f⟩ := bcell b1
  have z1 := b1.size
  try simp only [World.size_alloc] at z1
  have B1 : Below w.heap.size w w1 := Below.chain (Below.refl _ _) (by go_grown) b1 (by go_size)
  have y10 : w.heap.size < w1.heap.size := by omega
  have y11 : w.heap.size + 1 < w1.heap.size := by omega
  have y12 : w.heap.size + 2 < w1.heap.size := by omega
  rw [H1.out]
  go_wp2_with fail
  refine (implValidPauli_any _ _ _ _ _).mono ?_
  rintro e w2 ⟨rfl, b2⟩
  have z2 := b2.size
  try simp only [World.size_alloc] at z2
  have C2 := Below.chain b1 (by go_grown) b2 (by go_size)
  have B2 : Below w.heap.size w w2 := Below.chain B1 (by go_grown) b2 (by go_size)
  obtain ⟨b2c, b2f⟩ := bcell b2
  obtain ⟨C2c, C2f⟩ := bcellB C2
  have y20 : w.heap.size < w2.heap.size := by omega
  have y21 : w.heap.size + 1 < w2.heap.size := by omega
  have y22 : w.heap.size + 2 < w2.heap.size := by omega
  try (have v21 : w1.heap.size < w2.heap.size := by omega)
  rw [H2.out]
  go_wp2_with fail
  refine (H.out _).mono ?_
  rintro e w3 ⟨rfl, b3⟩
  have z3 := b3.size
  try simp only [World.size_alloc] at z3
  have C3 := Below.chain C2 (by go_grown) b3 (by go_size)
  have B3 : Below w.heap.size w w3 := Below.chain B2 (by go_grown) b3 (by go_size)
  obtain ⟨b3c, b3f⟩ := bcell b3
  obtain ⟨C3c, C3f⟩ := bcellB C3
  have y30 : w.heap.size < w3.heap.size := by omega
  have y31 : w.heap.size + 1 < w3.heap.size := by omega
  have y32 : w.heap.size + 2 < w3.heap.size := by omega
  try (have v31 : w1.heap.size < w3.heap.size := by omega)
  try (have v32 : w2.heap.size < w3.heap.size := by omega)
  go_wp2
  rw [Hr.out]
  refine bodyPost_ret (by simp [results, Try.results18, go_sem, C3c]) rfl ⟨rfl, ?_⟩
  go_grown
end Go.Proofs.Ytcmkkjdleihjfaa
