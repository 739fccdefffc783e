/- MulDyadic, of the reference and of the program. -/
import Derived.Test.YtcmkkjdleihjfaaL2C
namespace Go.Proofs.Ytcmkkjdleihjfaa
open Go.RowKit

theorem dOk_e {a b c d e : Int} (h : dOk a b c d e = true) : 0 ≤ e ∧ e ≤ 60 := by
  simp only [dOk, Bool.and_eq_true] at h
  exact inB_t.1 h.1.2
def mulRes (x y : D5) : Value := dyRes (dOkD x && dOkD y && mulOk x y) (mulC x y)
theorem mulRes_f1 {x y : D5} (h : dOkD x = false) : mulRes x y = .tuple #[dv 0 0 0 0 0, .bool false] := by simp [mulRes, dyRes, h, rI_f]
theorem mulRes_f2 {x y : D5} (h : dOkD y = false) : mulRes x y = .tuple #[dv 0 0 0 0 0, .bool false] := by simp [mulRes, dyRes, h, rI_f]
theorem mulRes_f3 {x y : D5} (h : mulOk x y = false) : mulRes x y = .tuple #[dv 0 0 0 0 0, .bool false] := by simp [mulRes, dyRes, h, rI_f]
theorem mulRes_t {x y : D5} (h1 : dOkD x = true) (h2 : dOkD y = true) (h3 : mulOk x y = true) : mulRes x y = .tuple #[dvD (mulC x y), .bool true] := by simp [mulRes, dyRes, h1, h2, h3, rI_t]

theorem ringRes_shape (X : Bool) (a b c d : Int) : ∃ (p0 p1 p2 p3 : Int) (o : Bool), ringRes X a b c d = .tuple #[rv p0 p1 p2 p3, .bool o] := ⟨_, _, _, _, _, rfl⟩
theorem lowRes_f {a b c d e : Int} (h : lowOk a b c d e = false) : lowRes a b c d e = .tuple #[dv 0 0 0 0 0, .bool false] := by simp [lowRes, h, rI_f]
theorem lowRes_t {a b c d e : Int} (h : lowOk a b c d e = true) : lowRes a b c d e = .tuple #[dvD (lowD e (a, b, c, d)), .bool true] := by simp [lowRes, h, rI_t, lowD]
theorem ringRes_f {X : Bool} {a b c d : Int} (h : (X && rOk a b c d) = false) : ringRes X a b c d = .tuple #[rv 0 0 0 0, .bool false] := by simp [ringRes, h, rI_f]
theorem ringRes_t {X : Bool} {a b c d : Int} (h : (X && rOk a b c d) = true) : ringRes X a b c d = .tuple #[rv a b c d, .bool true] := by simp [ringRes, h, rI_t]

set_option maxHeartbeats 4000000 in
theorem implMulD_any (a b c d e a' b' c' d' e' : Int) (w : World) :
    Calls Try.prog 101 #[dv a b c d e, dv a' b' c' d' e'] w fun r w' => r = .returned (mulRes ((a, b, c, d), e) ((a', b', c', d'), e')) ∧ Below w.heap.size w w' := by
  rcases hx : dOk a b c d e with _ | _
  · have Hr := Lib.hid (mulRes_f1 (x := ((a, b, c, d), e)) (y := ((a', b', c', d'), e')) hx)
    obtain ⟨p0, p1, p2, p3, o, hp⟩ := ringRes_shape (rOk a b c d && rOk a' b' c' d') (a * a' - b * d' - c * c' - d * b') (a * b' + b * a' - c * d' - d * c') (a * c' + b * b' + c * a' - d * d') (a * d' + b * c' + c * b' + d * a')
    have Hp := Lib.hid hp
    clear hp
    go_enter Try.func101, Try.ntmps101
    go_wp2_with fail
    refine (implMul_any _ _ _ _ _ _ _ _ _).mono ?_
    rintro e w1 ⟨rfl, b1⟩
    obtain ⟨b1c, b1f⟩ := bcell b1
    have z1 := b1.size
    try simp only [World.size_alloc] at z1
    have B1 : Below w.heap.size w w1 := Below.chain (Below.refl _ _) (by go_grown) b1 (by go_size)
    have y10 : w.heap.size < w1.heap.size := by omega
    have y11 : w.heap.size + 1 < w1.heap.size := by omega
    have y12 : w.heap.size + 2 < w1.heap.size := by omega
    rw [Hp.out]
    go_wp2_with fail
    refine (implValidDyadic_any _ _ _ _ _ _).mono ?_
    rintro e w2 ⟨rfl, b2⟩
    have z2 := b2.size
    try simp only [World.size_alloc] at z2
    have C2 := Below.chain b1 (by go_grown) b2 (by go_size)
    have B2 : Below w.heap.size w w2 := Below.chain B1 (by go_grown) b2 (by go_size)
    obtain ⟨b2c, b2f⟩ := bcell b2
    obtain ⟨C2c, C2f⟩ := bcellB C2
    have y20 : w.heap.size < w2.heap.size := by omega
    have y21 : w.heap.size + 1 < w2.heap.size := by omega
    have y22 : w.heap.size + 2 < w2.heap.size := by omega
    try (have v21 : w1.heap.size < w2.heap.size := by omega)
    go_wp2
    rw [Hr.out]
    refine bodyPost_ret (by simp [results, Try.results101, go_sem, C2c]) rfl ⟨rfl, ?_⟩
    go_grown
  rcases hy : dOk a' b' c' d' e' with _ | _
  · have Hr := Lib.hid (mulRes_f2 (x := ((a, b, c, d), e)) (y := ((a', b', c', d'), e')) hy)
    obtain ⟨p0, p1, p2, p3, o, hp⟩ := ringRes_shape (rOk a b c d && rOk a' b' c' d') (a * a' - b * d' - c * c' - d * b') (a * b' + b * a' - c * d' - d * c') (a * c' + b * b' + c * a' - d * d') (a * d' + b * c' + c * b' + d * a')
    have Hp := Lib.hid hp
    clear hp
    go_enter Try.func101, Try.ntmps101
    go_wp2_with fail
    refine (implMul_any _ _ _ _ _ _ _ _ _).mono ?_
    rintro e w1 ⟨rfl, b1⟩
    obtain ⟨b1c, b1f⟩ := bcell b1
    have z1 := b1.size
    try simp only [World.size_alloc] at z1
    have B1 : Below w.heap.size w w1 := Below.chain (Below.refl _ _) (by go_grown) b1 (by go_size)
    have y10 : w.heap.size < w1.heap.size := by omega
    have y11 : w.heap.size + 1 < w1.heap.size := by omega
    have y12 : w.heap.size + 2 < w1.heap.size := by omega
    rw [Hp.out]
    go_wp2_with fail
    refine (implValidDyadic_any _ _ _ _ _ _).mono ?_
    rintro e w2 ⟨rfl, b2⟩
    have z2 := b2.size
    try simp only [World.size_alloc] at z2
    have C2 := Below.chain b1 (by go_grown) b2 (by go_size)
    have B2 : Below w.heap.size w w2 := Below.chain B1 (by go_grown) b2 (by go_size)
    obtain ⟨b2c, b2f⟩ := bcell b2
    obtain ⟨C2c, C2f⟩ := bcellB C2
    have y20 : w.heap.size < w2.heap.size := by omega
    have y21 : w.heap.size + 1 < w2.heap.size := by omega
    have y22 : w.heap.size + 2 < w2.heap.size := by omega
    try (have v21 : w1.heap.size < w2.heap.size := by omega)
    go_wp2_with fail
    refine (implValidDyadic_any _ _ _ _ _ _).mono ?_
    rintro e w3 ⟨rfl, b3⟩
    have z3 := b3.size
    try simp only [World.size_alloc] at z3
    have C3 := Below.chain C2 (by go_grown) b3 (by go_size)
    have B3 : Below w.heap.size w w3 := Below.chain B2 (by go_grown) b3 (by go_size)
    obtain ⟨b3c, b3f⟩ := bcell b3
    obtain ⟨C3c, C3f⟩ := bcellB C3
    have y30 : w.heap.size < w3.heap.size := by omega
    have y31 : w.heap.size + 1 < w3.heap.size := by omega
    have y32 : w.heap.size + 2 < w3.heap.size := by omega
    try (have v31 : w1.heap.size < w3.heap.size := by omega)
    try (have v32 : w2.heap.size < w3.heap.size := by omega)
    go_wp2
    rw [Hr.out]
    refine bodyPost_ret (by simp [results, Try.results101, go_sem, C3c]) rfl ⟨rfl, ?_⟩
    go_grown
  have hrx := dOk_r hx
  have hry := dOk_r hy
  obtain ⟨_, _⟩ := dOk_e hx
  obtain ⟨_, _⟩ := dOk_e hy
  rcases hm : okQ (mulQ (a, b, c, d) (a', b', c', d')) with _ | _
  · have Hr := Lib.hid (mulRes_f3 (x := ((a, b, c, d), e)) (y := ((a', b', c', d'), e')) (by simp [mulOk, hm]))
    have Hp := Lib.hid (ringRes_f (X := rOk a b c d && rOk a' b' c' d') (a := a * a' - b * d' - c * c' - d * b') (b := a * b' + b * a' - c * d' - d * c') (c := a * c' + b * b' + c * a' - d * d') (d := a * d' + b * c' + c * b' + d * a') (by rw [hrx, hry]; exact hm))
    clear hrx hry hm
    go_enter Try.func101, Try.ntmps101
    go_wp2_with fail
    refine (implMul_any _ _ _ _ _ _ _ _ _).mono ?_
    rintro e w1 ⟨rfl, b1⟩
    obtain ⟨b1c, b1f⟩ := bcell b1
    have z1 := b1.size
    try simp only [World.size_alloc] at z1
    have B1 : Below w.heap.size w w1 := Below.chain (Below.refl _ _) (by go_grown) b1 (by go_size)
    have y10 : w.heap.size < w1.heap.size := by omega
    have y11 : w.heap.size + 1 < w1.heap.size := by omega
    have y12 : w.heap.size + 2 < w1.heap.size := by omega
    rw [Hp.out]
    go_wp2_with fail
    refine (implValidDyadic_any _ _ _ _ _ _).mono ?_
    rintro e w2 ⟨rfl, b2⟩
    have z2 := b2.size
    try simp only [World.size_alloc] at z2
    have C2 := Below.chain b1 (by go_grown) b2 (by go_size)
    have B2 : Below w.heap.size w w2 := Below.chain B1 (by go_grown) b2 (by go_size)
    obtain ⟨b2c, b2f⟩ := bcell b2
    obtain ⟨C2c, C2f⟩ := bcellB C2
    have y20 : w.heap.size < w2.heap.size := by omega
    have y21 : w.heap.size + 1 < w2.heap.size := by omega
    have y22 : w.heap.size + 2 < w2.heap.size := by omega
    try (have v21 : w1.heap.size < w2.heap.size := by omega)
    go_wp2_with fail
    refine (implValidDyadic_any _ _ _ _ _ _).mono ?_
    rintro e w3 ⟨rfl, b3⟩
    have z3 := b3.size
    try simp only [World.size_alloc] at z3
    have C3 := Below.chain C2 (by go_grown) b3 (by go_size)
    have B3 : Below w.heap.size w w3 := Below.chain B2 (by go_grown) b3 (by go_size)
    obtain ⟨b3c, b3f⟩ := bcell b3
    obtain ⟨C3c, C3f⟩ := bcellB C3
    have y30 : w.heap.size < w3.heap.size := by omega
    have y31 : w.heap.size + 1 < w3.heap.size := by omega
    have y32 : w.heap.size + 2 < w3.heap.size := by omega
    try (have v31 : w1.heap.size < w3.heap.size := by omega)
    try (have v32 : w2.heap.size < w3.heap.size := by omega)
    go_wp2
    rw [Hr.out]
    refine bodyPost_ret (by simp [results, Try.results101, go_sem, C3c]) rfl ⟨rfl, ?_⟩
    go_grown
  · have Hp := Lib.hid (ringRes_t (X := rOk a b c d && rOk a' b' c' d') (a := a * a' - b * d' - c * c' - d * b') (b := a * b' + b * a' - c * d' - d * c') (c := a * c' + b * b' + c * a' - d * d') (d := a * d' + b * c' + c * b' + d * a') (by rw [hrx, hry]; exact hm))
    have Hl : Hid (lowRes (a * a' - b * d' - c * c' - d * b') (a * b' + b * a' - c * d' - d * c') (a * c' + b * b' + c * a' - d * d') (a * d' + b * c' + c * b' + d * a') (e + e') = mulRes ((a, b, c, d), e) ((a', b', c', d'), e')) := by
      show lowRes _ _ _ _ _ = _
      have hm' : rOk (a * a' - b * d' - c * c' - d * b') (a * b' + b * a' - c * d' - d * c') (a * c' + b * b' + c * a' - d * d') (a * d' + b * c' + c * b' + d * a') = true := hm
      rcases hs : inB (e + e') 0 60 with _ | _
      · rw [lowRes_f (by simp [lowOk, hs]), mulRes_f3 (by simp [mulOk, hs])]
      · have hk : mulOk ((a, b, c, d), e) ((a', b', c', d'), e') = true := by simp [mulOk, hs, hm]
        rw [lowRes_t (by simp [lowOk, hs, hm']), mulRes_t (x := ((a, b, c, d), e)) (y := ((a', b', c', d'), e')) hx hy hk, mulC_t hk]
        rfl
    clear hrx hry hm
    go_enter Try.func101, Try.ntmps101
    go_wp2_with fail
    refine (implMul_any _ _ _ _ _ _ _ _ _).mono ?_
    rintro e w1 ⟨rfl, b1⟩
    obtain ⟨b1c, b1f⟩ := bcell b1
    have z1 := b1.size
    try simp only [World.size_alloc] at z1
    have B1 : Below w.heap.size w w1 := Below.chain (Below.refl _ _) (by go_grown) b1 (by go_size)
    have y10 : w.heap.size < w1.heap.size := by omega
    have y11 : w.heap.size + 1 < w1.heap.size := by omega
    have y12 : w.heap.size + 2 < w1.heap.size := by omega
    rw [Hp.out]
    go_wp2_with fail
    refine (implValidDyadic_any _ _ _ _ _ _).mono ?_
    rintro e w2 ⟨rfl, b2⟩
    have z2 := b2.size
    try simp only [World.size_alloc] at z2
    have C2 := Below.chain b1 (by go_grown) b2 (by go_size)
    have B2 : Below w.heap.size w w2 := Below.chain B1 (by go_grown) b2 (by go_size)
    obtain ⟨b2c, b2f⟩ := bcell b2
    obtain ⟨C2c, C2f⟩ := bcellB C2
    have y20 : w.heap.size < w2.heap.size := by omega
    have y21 : w.heap.size + 1 < w2.heap.size := by omega
    have y22 : w.heap.size + 2 < w2.heap.size := by omega
    try (have v21 : w1.heap.size < w2.heap.size := by omega)
    go_wp2_with fail
    refine (implValidDyadic_any _ _ _ _ _ _).mono ?_
    rintro e w3 ⟨rfl, b3⟩
    have z3 := b3.size
    try simp only [World.size_alloc] at z3
    have C3 := Below.chain C2 (by go_grown) b3 (by go_size)
    have B3 : Below w.heap.size w w3 := Below.chain B2 (by go_grown) b3 (by go_size)
    obtain ⟨b3c, b3f⟩ := bcell b3
    obtain ⟨C3c, C3f⟩ := bcellB C3
    have y30 : w.heap.size < w3.heap.size := by omega
    have y31 : w.heap.size + 1 < w3.heap.size := by omega
    have y32 : w.heap.size + 2 < w3.heap.size := by omega
    try (have v31 : w1.heap.size < w3.heap.size := by omega)
    try (have v32 : w2.heap.size < w3.heap.size := by omega)
    go_wp2_with fail
    refine (implDyadicOf_any _ _ _ _ _ _).mono ?_
    rintro e w4 ⟨rfl, b4⟩
    have z4 := b4.size
    try simp only [World.size_alloc] at z4
    have C4 := Below.chain C3 (by go_grown) b4 (by go_size)
    have B4 : Below w.heap.size w w4 := Below.chain B3 (by go_grown) b4 (by go_size)
    obtain ⟨b4c, b4f⟩ := bcell b4
    obtain ⟨C4c, C4f⟩ := bcellB C4
    have y40 : w.heap.size < w4.heap.size := by omega
    have y41 : w.heap.size + 1 < w4.heap.size := by omega
    have y42 : w.heap.size + 2 < w4.heap.size := by omega
    try (have v41 : w1.heap.size < w4.heap.size := by omega)
    try (have v42 : w2.heap.size < w4.heap.size := by omega)
    try (have v43 : w3.heap.size < w4.heap.size := by omega)
    rw [Hl.out]
    unfold mulRes dyRes
    go_wp2
    refine bodyPost_ret (by simp [results, Try.results101, go_sem, C4c, mulRes, dyRes]) rfl ⟨rfl, ?_⟩
    go_grown

theorem tmod2_iff (n : Int) : n.tmod 2 = 0 ↔ n % 2 = 0 := by
  rw [← Int.dvd_iff_tmod_eq_zero]
  omega
theorem conj_dOk {a b c d e : Int} (h : dOk a b c d e = true) : dOk a (-d) (-c) (-b) e = true := by
  have hr := dOk_r h
  have h4 := rOk_iff.1 hr
  simp only [dOk, Bool.and_eq_true] at h ⊢
  refine ⟨⟨by rw [rOk_iff]; omega, h.1.2⟩, ?_⟩
  have h2 := h.2
  have he : evenB a (-d) (-c) (-b) = evenB a b c d := by
    unfold evenB
    have e1 : ∀ x y : Int, ((x - y).tmod 2 == 0) = ((x + y).tmod 2 == 0) := by
      intro x y
      rw [Bool.eq_iff_iff, beq_iff_eq, beq_iff_eq, tmod2_iff, tmod2_iff]
      omega
    have e2 : ((-d + -b).tmod 2 == 0) = ((b + d).tmod 2 == 0) := by
      rw [Bool.eq_iff_iff, beq_iff_eq, beq_iff_eq, tmod2_iff, tmod2_iff]
      omega
    rw [show a + -c = a - c from rfl, e1, e2]
  rw [he]
  exact h2
def conjD (x : D5) : D5 := (conjQ x.1, x.2)
def normSqRes (x : D5) : Value := mulRes x (conjD x)

set_option maxHeartbeats 4000000 in
theorem implNormSq_any (a b c d e : Int) (w : World) :
    Calls Try.prog 84 #[dv a b c d e] w fun r w' => r = .returned (normSqRes ((a, b, c, d), e)) ∧ Below w.heap.size w w' := by
  rcases hx : dOk a b c d e with _ | _
  · have Hr : Hid (normSqRes ((a, b, c, d), e) = .tuple #[dv 0 0 0 0 0, .bool false]) := mulRes_f1 (x := ((a, b, c, d), e)) hx
    have Hc : Hid (conjRes a b c d e = .tuple #[dv 0 0 0 0 0, .bool false]) := by show conjRes a b c d e = _; simp [conjRes, hx, rI_f]
    go_enter Try.func84, Try.ntmps84
    go_wp2_with fail
    refine (implConjD_any _ _ _ _ _ _).mono ?_
    rintro e w1 ⟨rfl, b1⟩
    obtain ⟨b1c, b1f⟩ := bcell b1
    have z1 := b1.size
    try simp only [World.size_alloc] at z1
    have B1 : Below w.heap.size w w1 := Below.chain (Below.refl _ _) (by go_grown) b1 (by go_size)
    have y10 : w.heap.size < w1.heap.size := by omega
    have y11 : w.heap.size + 1 < w1.heap.size := by omega
    rw [Hc.out]
    go_wp2
    rw [Hr.out]
    refine bodyPost_ret (by simp [results, Try.results84, go_sem, b1c, y11]) rfl ⟨rfl, ?_⟩
    go_grown
  · have Hc : Hid (conjRes a b c d e = .tuple #[dv a (-d) (-c) (-b) e, .bool true]) := by show conjRes a b c d e = _; simp [conjRes, hx, rI_t]
    have Hn : Hid (mulRes ((a, b, c, d), e) ((a, -d, -c, -b), e) = normSqRes ((a, b, c, d), e)) := rfl
    go_enter Try.func84, Try.ntmps84
    go_wp2_with fail
    refine (implConjD_any _ _ _ _ _ _).mono ?_
    rintro e w1 ⟨rfl, b1⟩
    obtain ⟨b1c, b1f⟩ := bcell b1
    have z1 := b1.size
    try simp only [World.size_alloc] at z1
    have B1 : Below w.heap.size w w1 := Below.chain (Below.refl _ _) (by go_grown) b1 (by go_size)
    have y10 : w.heap.size < w1.heap.size := by omega
    have y11 : w.heap.size + 1 < w1.heap.size := by omega
    rw [Hc.out]
    go_wp2_with fail
    refine (implMulD_any _ _ _ _ _ _ _ _ _ _ _).mono ?_
    rintro e w2 ⟨rfl, b2⟩
    have z2 := b2.size
    try simp only [World.size_alloc] at z2
    have C2 := Below.chain b1 (by go_grown) b2 (by go_size)
    have B2 : Below w.heap.size w w2 := Below.chain B1 (by go_grown) b2 (by go_size)
    obtain ⟨b2c, b2f⟩ := bcell b2
    obtain ⟨C2c, C2f⟩ := bcellB C2
    have y20 : w.heap.size < w2.heap.size := by omega
    have y21 : w.heap.size + 1 < w2.heap.size := by omega
    try (have v21 : w1.heap.size < w2.heap.size := by omega)
    rw [Hn.out]
    unfold normSqRes mulRes dyRes
    go_wp2
    refine bodyPost_ret (by simp [results, Try.results84, go_sem, C2c, normSqRes, mulRes, dyRes]) rfl ⟨rfl, ?_⟩
    go_grown
end Go.Proofs.Ytcmkkjdleihjfaa
