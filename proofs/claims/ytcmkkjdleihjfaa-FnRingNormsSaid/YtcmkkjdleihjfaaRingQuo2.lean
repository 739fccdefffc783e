/- DivRing's two walks. -/
import Derived.Test.YtcmkkjdleihjfaaRingQuo
namespace Go.Proofs.Ytcmkkjdleihjfaa
open Go.RowKit

theorem quoOk_f1 {x y : Q4} (h : absOkQ y = false) : quoOk x y = false := by simp [quoOk, h]
theorem quoOk_f2 {x y : Q4} (h : (okQ x && okQ (firstQ x y)) = false) : quoOk x y = false := by simp [quoOk, h]
theorem quoOk_f3 {x y : Q4} (h : okQ (secondQ x y) = false) : quoOk x y = false := by simp [quoOk, h]
theorem quoOk_f4 {x y : Q4} (h : (uQ y == 0) = true) : quoOk x y = false := by simp [quoOk, h]
theorem quoOk_t {x y : Q4} (h1 : absOkQ y = true) (h2 : (okQ x && okQ (firstQ x y)) = true) (h3 : okQ (secondQ x y) = true) (h4 : (uQ y == 0) = false) : quoOk x y = dvdQ (secondQ x y) (nQ y) := by simp [quoOk, h1, h2, h3, h4]

theorem ringRes_form (X : Bool) (a b c d : Int) : ∃ (p0 p1 p2 p3 : Int) (o : Bool), ringRes X a b c d = .tuple #[rv p0 p1 p2 p3, .bool o] := ⟨_, _, _, _, _, rfl⟩

set_option maxHeartbeats 4000000 in
theorem implQuo_any (a b c d a' b' c' d' : Int) (w : World) :
    Calls Try.prog 30 #[rv a b c d, rv a' b' c' d'] w fun r w' => r = .returned (optRes (quoOk (a, b, c, d) (a', b', c', d')) (quoQ (secondQ (a, b, c, d) (a', b', c', d')) (nQ (a', b', c', d')))) ∧ Below w.heap.size w w' := by
  have heq := fun (a b c d : Int) (W : World) => run_eqR0 a b c d W
  have hgd := fun (x y : Operand) (xs ys : Array Value) (W : World) => run_gdR .eql 38 x y xs ys W rfl
  rcases hok : absOkQ (a', b', c', d') with _ | _
  · have Hq := Lib.hid (quoOk_f1 (x := (a, b, c, d)) hok)
    have Ha := Lib.hid (absRes_of hok)
    go_enter Try.func30, Try.ntmps30
    go_wp2_with fail
    refine (implAbs_any _ _ _ _ _).mono ?_
    rintro e w1 ⟨rfl, b1⟩
    obtain ⟨b1c, b1f⟩ := bcell b1
    have z1 := b1.size
    try simp only [World.size_alloc] at z1
    have B1 : Below w.heap.size w w1 := Below.chain (Below.refl _ _) (by go_grown) b1 (by go_size)
    have y10 : w.heap.size < w1.heap.size := by omega
    have y11 : w.heap.size + 1 < w1.heap.size := by omega
    have y12 : w.heap.size + 2 < w1.heap.size := by omega
    rw [Ha.out]
    go_wp2_with fail
    refine (implConj_any _ _ _ _ _).mono ?_
    rintro e w2 ⟨rfl, b2⟩
    have z2 := b2.size
    try simp only [World.size_alloc] at z2
    have C2 := Below.chain b1 (by go_grown) b2 (by go_size)
    have B2 : Below w.heap.size w w2 := Below.chain B1 (by go_grown) b2 (by go_size)
    obtain ⟨b2c, b2f⟩ := bcell b2
    obtain ⟨C2c, C2f⟩ := bcellB C2
    have y20 : w.heap.size < w2.heap.size := by omega
    have y21 : w.heap.size + 1 < w2.heap.size := by omega
    have y22 : w.heap.size + 2 < w2.heap.size := by omega
    try (have v21 : w1.heap.size < w2.heap.size := by omega)
    obtain ⟨p0, p1, p2, p3, po, hp⟩ := ringRes_form (rOk a' b' c' d') a' (-d') (-c') (-b')
    rw [hp]
    clear hp
    go_wp2_with fail
    refine (implMul_any _ _ _ _ _ _ _ _ _).mono ?_
    rintro e w3 ⟨rfl, b3⟩
    have z3 := b3.size
    try simp only [World.size_alloc] at z3
    have C3 := Below.chain C2 (by go_grown) b3 (by go_size)
    have B3 : Below w.heap.size w w3 := Below.chain B2 (by go_grown) b3 (by go_size)
    obtain ⟨b3c, b3f⟩ := bcell b3
    obtain ⟨C3c, C3f⟩ := bcellB C3
    have y30 : w.heap.size < w3.heap.size := by omega
    have y31 : w.heap.size + 1 < w3.heap.size := by omega
    have y32 : w.heap.size + 2 < w3.heap.size := by omega
    try (have v31 : w1.heap.size < w3.heap.size := by omega)
    try (have v32 : w2.heap.size < w3.heap.size := by omega)
    generalize hm : ringRes _ _ _ _ _ = m
    obtain ⟨q0, q1, q2, q3, qo, hq⟩ : ∃ (q0 q1 q2 q3 : Int) (o : Bool), m = .tuple #[rv q0 q1 q2 q3, .bool o] := by rw [← hm]; exact ringRes_form _ _ _ _ _
    subst hq
    clear hm
    go_wp2_with fail
    refine (implMul_any _ _ _ _ _ _ _ _ _).mono ?_
    rintro e w4 ⟨rfl, b4⟩
    have z4 := b4.size
    try simp only [World.size_alloc] at z4
    have C4 := Below.chain C3 (by go_grown) b4 (by go_size)
    have B4 : Below w.heap.size w w4 := Below.chain B3 (by go_grown) b4 (by go_size)
    obtain ⟨b4c, b4f⟩ := bcell b4
    obtain ⟨C4c, C4f⟩ := bcellB C4
    have y40 : w.heap.size < w4.heap.size := by omega
    have y41 : w.heap.size + 1 < w4.heap.size := by omega
    have y42 : w.heap.size + 2 < w4.heap.size := by omega
    try (have v41 : w1.heap.size < w4.heap.size := by omega)
    try (have v42 : w2.heap.size < w4.heap.size := by omega)
    try (have v43 : w3.heap.size < w4.heap.size := by omega)
    generalize hm : ringRes _ _ _ _ _ = m
    obtain ⟨r0, r1, r2, r3, ro, hr⟩ : ∃ (q0 q1 q2 q3 : Int) (o : Bool), m = .tuple #[rv q0 q1 q2 q3, .bool o] := by rw [← hm]; exact ringRes_form _ _ _ _ _
    subst hr
    clear hm
    go_wp2
    rw [Hq.out]
    refine bodyPost_ret (by simp [results, Try.results30, go_sem, optRes, rI_f, C4c, y42]) rfl ⟨rfl, ?_⟩
    go_grown
  have Hy := Lib.hid (absOk_r hok)
  have Ha := Lib.hid (absRes_of hok)
  have Hc := Lib.hid (conj_of (absOk_r hok))
  have hconj : okQ (a', -d', -c', -b') = true := conjOk (absOk_r hok)
  rcases h1 : (okQ (a, b, c, d) && okQ (firstQ (a, b, c, d) (a', b', c', d'))) with _ | _
  · have Hq := Lib.hid (quoOk_f2 h1)
    have Hm := Lib.hid (mul_of hconj h1)
    clear hconj
    go_enter Try.func30, Try.ntmps30
    go_wp2_with fail
    refine (implAbs_any _ _ _ _ _).mono ?_
    rintro e w1 ⟨rfl, b1⟩
    obtain ⟨b1c, b1f⟩ := bcell b1
    have z1 := b1.size
    try simp only [World.size_alloc] at z1
    have B1 : Below w.heap.size w w1 := Below.chain (Below.refl _ _) (by go_grown) b1 (by go_size)
    have y10 : w.heap.size < w1.heap.size := by omega
    have y11 : w.heap.size + 1 < w1.heap.size := by omega
    have y12 : w.heap.size + 2 < w1.heap.size := by omega
    rw [Ha.out]
    go_wp2_with fail
    refine (implConj_any _ _ _ _ _).mono ?_
    rintro e w2 ⟨rfl, b2⟩
    have z2 := b2.size
    try simp only [World.size_alloc] at z2
    have C2 := Below.chain b1 (by go_grown) b2 (by go_size)
    have B2 : Below w.heap.size w w2 := Below.chain B1 (by go_grown) b2 (by go_size)
    obtain ⟨b2c, b2f⟩ := bcell b2
    obtain ⟨C2c, C2f⟩ := bcellB C2
    have y20 : w.heap.size < w2.heap.size := by omega
    have y21 : w.heap.size + 1 < w2.heap.size := by omega
    have y22 : w.heap.size + 2 < w2.heap.size := by omega
    try (have v21 : w1.heap.size < w2.heap.size := by omega)
    rw [Hc.out]
    go_wp2_with fail
    refine (implMul_any _ _ _ _ _ _ _ _ _).mono ?_
    rintro e w3 ⟨rfl, b3⟩
    have z3 := b3.size
    try simp only [World.size_alloc] at z3
    have C3 := Below.chain C2 (by go_grown) b3 (by go_size)
    have B3 : Below w.heap.size w w3 := Below.chain B2 (by go_grown) b3 (by go_size)
    obtain ⟨b3c, b3f⟩ := bcell b3
    obtain ⟨C3c, C3f⟩ := bcellB C3
    have y30 : w.heap.size < w3.heap.size := by omega
    have y31 : w.heap.size + 1 < w3.heap.size := by omega
    have y32 : w.heap.size + 2 < w3.heap.size := by omega
    try (have v31 : w1.heap.size < w3.heap.size := by omega)
    try (have v32 : w2.heap.size < w3.heap.size := by omega)
    rw [Hm.out]
    unfold optRes
    go_wp2_with fail
    refine (implMul_any _ _ _ _ _ _ _ _ _).mono ?_
    rintro e w4 ⟨rfl, b4⟩
    have z4 := b4.size
    try simp only [World.size_alloc] at z4
    have C4 := Below.chain C3 (by go_grown) b4 (by go_size)
    have B4 : Below w.heap.size w w4 := Below.chain B3 (by go_grown) b4 (by go_size)
    obtain ⟨b4c, b4f⟩ := bcell b4
    obtain ⟨C4c, C4f⟩ := bcellB C4
    have y40 : w.heap.size < w4.heap.size := by omega
    have y41 : w.heap.size + 1 < w4.heap.size := by omega
    have y42 : w.heap.size + 2 < w4.heap.size := by omega
    try (have v41 : w1.heap.size < w4.heap.size := by omega)
    try (have v42 : w2.heap.size < w4.heap.size := by omega)
    try (have v43 : w3.heap.size < w4.heap.size := by omega)
    generalize hm : ringRes _ _ _ _ _ = m
    obtain ⟨r0, r1, r2, r3, ro, hr⟩ : ∃ (q0 q1 q2 q3 : Int) (o : Bool), m = .tuple #[rv q0 q1 q2 q3, .bool o] := by rw [← hm]; exact ringRes_form _ _ _ _ _
    subst hr
    clear hm
    go_wp2
    rw [Hq.out]
    refine bodyPost_ret (by simp [results, Try.results30, go_sem, optRes, rI_f, C4c, y42]) rfl ⟨rfl, ?_⟩
    go_grown
  have Ha2 : Hid (absRes a' b' c' d' = .tuple #[.int .i64 (uQ (a', b', c', d')), .int .i64 (vQ (a', b', c', d')), .bool true]) := by
    have h := Ha.out
    simp only [rI_t] at h
    exact h
  have hm := mul_of hconj h1
  have Hm := Lib.hid hm
  have huv : okQ (uQ (a', b', c', d'), -vQ (a', b', c', d'), 0, vQ (a', b', c', d')) = true := uvOk hok
  have h1f : okQ (firstQ (a, b, c, d) (a', b', c', d')) = true := (okAnd h1).2
  have hbd := absOk_bd hok
  have hb1 : -1000000000 ≤ uQ (a', b', c', d') ∧ uQ (a', b', c', d') ≤ 1000000000 := hbd.1
  have hb2 : -1000000000 ≤ vQ (a', b', c', d') ∧ vQ (a', b', c', d') ≤ 1000000000 := hbd.2
  obtain ⟨_, _⟩ := hb1
  obtain ⟨_, _⟩ := hb2
  clear hconj hm hbd
  have ef : (mulQ (a, b, c, d) (a', -d', -c', -b')) = firstQ (a, b, c, d) (a', b', c', d') := rfl
  rcases h2 : okQ (secondQ (a, b, c, d) (a', b', c', d')) with _ | _
  · have Hq := Lib.hid (quoOk_f3 h2)
    have Hm2 := Lib.hid (mul_of (a := (firstQ (a, b, c, d) (a', b', c', d')).1) (b := (firstQ (a, b, c, d) (a', b', c', d')).2.1) (c := (firstQ (a, b, c, d) (a', b', c', d')).2.2.1) (d := (firstQ (a, b, c, d) (a', b', c', d')).2.2.2) (ok := false) huv (by show (okQ (firstQ (a, b, c, d) (a', b', c', d')) && okQ (secondQ (a, b, c, d) (a', b', c', d'))) = false; rw [h2]; simp))
    rw [ef] at Hm
    clear huv ef
    go_enter Try.func30, Try.ntmps30
    go_wp2_with fail
    refine (implAbs_any _ _ _ _ _).mono ?_
    rintro e w1 ⟨rfl, b1⟩
    obtain ⟨b1c, b1f⟩ := bcell b1
    have z1 := b1.size
    try simp only [World.size_alloc] at z1
    have B1 : Below w.heap.size w w1 := Below.chain (Below.refl _ _) (by go_grown) b1 (by go_size)
    have y10 : w.heap.size < w1.heap.size := by omega
    have y11 : w.heap.size + 1 < w1.heap.size := by omega
    have y12 : w.heap.size + 2 < w1.heap.size := by omega
    rw [Ha2.out]
    go_wp2_with fail
    refine (implConj_any _ _ _ _ _).mono ?_
    rintro e w2 ⟨rfl, b2⟩
    have z2 := b2.size
    try simp only [World.size_alloc] at z2
    have C2 := Below.chain b1 (by go_grown) b2 (by go_size)
    have B2 : Below w.heap.size w w2 := Below.chain B1 (by go_grown) b2 (by go_size)
    obtain ⟨b2c, b2f⟩ := bcell b2
    obtain ⟨C2c, C2f⟩ := bcellB C2
    have y20 : w.heap.size < w2.heap.size := by omega
    have y21 : w.heap.size + 1 < w2.heap.size := by omega
    have y22 : w.heap.size + 2 < w2.heap.size := by omega
    try (have v21 : w1.heap.size < w2.heap.size := by omega)
    rw [Hc.out]
    go_wp2_with fail
    refine (implMul_any _ _ _ _ _ _ _ _ _).mono ?_
    rintro e w3 ⟨rfl, b3⟩
    have z3 := b3.size
    try simp only [World.size_alloc] at z3
    have C3 := Below.chain C2 (by go_grown) b3 (by go_size)
    have B3 : Below w.heap.size w w3 := Below.chain B2 (by go_grown) b3 (by go_size)
    obtain ⟨b3c, b3f⟩ := bcell b3
    obtain ⟨C3c, C3f⟩ := bcellB C3
    have y30 : w.heap.size < w3.heap.size := by omega
    have y31 : w.heap.size + 1 < w3.heap.size := by omega
    have y32 : w.heap.size + 2 < w3.heap.size := by omega
    try (have v31 : w1.heap.size < w3.heap.size := by omega)
    try (have v32 : w2.heap.size < w3.heap.size := by omega)
    rw [Hm.out]
    unfold optRes
    rw [rI_t, rI_t, rI_t, rI_t]
    go_wp2_with fail
    refine (implMul_any _ _ _ _ _ _ _ _ _).mono ?_
    rintro e w4 ⟨rfl, b4⟩
    have z4 := b4.size
    try simp only [World.size_alloc] at z4
    have C4 := Below.chain C3 (by go_grown) b4 (by go_size)
    have B4 : Below w.heap.size w w4 := Below.chain B3 (by go_grown) b4 (by go_size)
    obtain ⟨b4c, b4f⟩ := bcell b4
    obtain ⟨C4c, C4f⟩ := bcellB C4
    have y40 : w.heap.size < w4.heap.size := by omega
    have y41 : w.heap.size + 1 < w4.heap.size := by omega
    have y42 : w.heap.size + 2 < w4.heap.size := by omega
    try (have v41 : w1.heap.size < w4.heap.size := by omega)
    try (have v42 : w2.heap.size < w4.heap.size := by omega)
    try (have v43 : w3.heap.size < w4.heap.size := by omega)
    rw [Hm2.out]
    unfold optRes
    go_wp2
    rw [Hq.out]
    refine bodyPost_ret (by simp [results, Try.results30, go_sem, optRes, rI_f, C4c, y42]) rfl ⟨rfl, ?_⟩
    go_grown
  have hm2 := mul_of (a := (firstQ (a, b, c, d) (a', b', c', d')).1) (b := (firstQ (a, b, c, d) (a', b', c', d')).2.1) (c := (firstQ (a, b, c, d) (a', b', c', d')).2.2.1) (d := (firstQ (a, b, c, d) (a', b', c', d')).2.2.2) (ok := true) huv (by show (okQ (firstQ (a, b, c, d) (a', b', c', d')) && okQ (secondQ (a, b, c, d) (a', b', c', d'))) = true; rw [h1f, h2]; rfl)
  have e2 : mulQ ((firstQ (a, b, c, d) (a', b', c', d')).1, (firstQ (a, b, c, d) (a', b', c', d')).2.1, (firstQ (a, b, c, d) (a', b', c', d')).2.2.1, (firstQ (a, b, c, d) (a', b', c', d')).2.2.2) (uQ (a', b', c', d'), -vQ (a', b', c', d'), 0, vQ (a', b', c', d')) = secondQ (a, b, c, d) (a', b', c', d') := rfl
  rw [e2] at hm2
  have Hm2 := Lib.hid hm2
  rw [ef] at Hm
  clear huv ef hm2 e2
  rcases (Bool.eq_false_or_eq_true (uQ (a', b', c', d') == 0)) with h3 | h3
  · have Hq := Lib.hid (quoOk_f4 (x := (a, b, c, d)) h3)
    go_enter Try.func30, Try.ntmps30
    go_wp2_with fail
    refine (implAbs_any _ _ _ _ _).mono ?_
    rintro e w1 ⟨rfl, b1⟩
    obtain ⟨b1c, b1f⟩ := bcell b1
    have z1 := b1.size
    try simp only [World.size_alloc] at z1
    have B1 : Below w.heap.size w w1 := Below.chain (Below.refl _ _) (by go_grown) b1 (by go_size)
    have y10 : w.heap.size < w1.heap.size := by omega
    have y11 : w.heap.size + 1 < w1.heap.size := by omega
    have y12 : w.heap.size + 2 < w1.heap.size := by omega
    rw [Ha2.out]
    go_wp2_with fail
    refine (implConj_any _ _ _ _ _).mono ?_
    rintro e w2 ⟨rfl, b2⟩
    have z2 := b2.size
    try simp only [World.size_alloc] at z2
    have C2 := Below.chain b1 (by go_grown) b2 (by go_size)
    have B2 : Below w.heap.size w w2 := Below.chain B1 (by go_grown) b2 (by go_size)
    obtain ⟨b2c, b2f⟩ := bcell b2
    obtain ⟨C2c, C2f⟩ := bcellB C2
    have y20 : w.heap.size < w2.heap.size := by omega
    have y21 : w.heap.size + 1 < w2.heap.size := by omega
    have y22 : w.heap.size + 2 < w2.heap.size := by omega
    try (have v21 : w1.heap.size < w2.heap.size := by omega)
    rw [Hc.out]
    go_wp2_with fail
    refine (implMul_any _ _ _ _ _ _ _ _ _).mono ?_
    rintro e w3 ⟨rfl, b3⟩
    have z3 := b3.size
    try simp only [World.size_alloc] at z3
    have C3 := Below.chain C2 (by go_grown) b3 (by go_size)
    have B3 : Below w.heap.size w w3 := Below.chain B2 (by go_grown) b3 (by go_size)
    obtain ⟨b3c, b3f⟩ := bcell b3
    obtain ⟨C3c, C3f⟩ := bcellB C3
    have y30 : w.heap.size < w3.heap.size := by omega
    have y31 : w.heap.size + 1 < w3.heap.size := by omega
    have y32 : w.heap.size + 2 < w3.heap.size := by omega
    try (have v31 : w1.heap.size < w3.heap.size := by omega)
    try (have v32 : w2.heap.size < w3.heap.size := by omega)
    rw [Hm.out]
    unfold optRes
    rw [rI_t, rI_t, rI_t, rI_t]
    go_wp2_with fail
    refine (implMul_any _ _ _ _ _ _ _ _ _).mono ?_
    rintro e w4 ⟨rfl, b4⟩
    have z4 := b4.size
    try simp only [World.size_alloc] at z4
    have C4 := Below.chain C3 (by go_grown) b4 (by go_size)
    have B4 : Below w.heap.size w w4 := Below.chain B3 (by go_grown) b4 (by go_size)
    obtain ⟨b4c, b4f⟩ := bcell b4
    obtain ⟨C4c, C4f⟩ := bcellB C4
    have y40 : w.heap.size < w4.heap.size := by omega
    have y41 : w.heap.size + 1 < w4.heap.size := by omega
    have y42 : w.heap.size + 2 < w4.heap.size := by omega
    try (have v41 : w1.heap.size < w4.heap.size := by omega)
    try (have v42 : w2.heap.size < w4.heap.size := by omega)
    try (have v43 : w3.heap.size < w4.heap.size := by omega)
    rw [Hm2.out]
    unfold optRes
    go_wp2
    rw [Hq.out]
    refine bodyPost_ret (by simp [results, Try.results30, go_sem, optRes, rI_f, C4c, y42]) rfl ⟨rfl, ?_⟩
    go_grown
  · have Hq := Lib.hid (quoOk_t hok h1 h2 h3)
    have H2 : Hid (rOk (secondQ (a, b, c, d) (a', b', c', d')).1 (secondQ (a, b, c, d) (a', b', c', d')).2.1 (secondQ (a, b, c, d) (a', b', c', d')).2.2.1 (secondQ (a, b, c, d) (a', b', c', d')).2.2.2 = true) := h2
    have Hn0 : Hid ((nQ (a', b', c', d') == 0) = false) := by
      have h4 : uQ (a', b', c', d') ≠ 0 := by simpa using h3
      show (nQ (a', b', c', d') == 0) = false
      simpa using nQ_ne h4
    have HN : Hid (wrap64 (wrap64 (uQ (a', b', c', d') * uQ (a', b', c', d')) - wrap64 (2 * vQ (a', b', c', d') * vQ (a', b', c', d'))) = nQ (a', b', c', d')) := by
      have h5 := norm_bd (u := uQ (a', b', c', d')) (v := vQ (a', b', c', d')) ⟨by omega, by omega⟩ ⟨by omega, by omega⟩
      rw [IntWalk.wrap64_in (2 * vQ (a', b', c', d')) (by omega)] at h5
      exact h5
    go_enter Try.func30, Try.ntmps30
    go_wp2_with fail
    refine (implAbs_any _ _ _ _ _).mono ?_
    rintro e w1 ⟨rfl, b1⟩
    obtain ⟨b1c, b1f⟩ := bcell b1
    have z1 := b1.size
    try simp only [World.size_alloc] at z1
    have B1 : Below w.heap.size w w1 := Below.chain (Below.refl _ _) (by go_grown) b1 (by go_size)
    have y10 : w.heap.size < w1.heap.size := by omega
    have y11 : w.heap.size + 1 < w1.heap.size := by omega
    have y12 : w.heap.size + 2 < w1.heap.size := by omega
    rw [Ha2.out]
    go_wp2_with fail
    refine (implConj_any _ _ _ _ _).mono ?_
    rintro e w2 ⟨rfl, b2⟩
    have z2 := b2.size
    try simp only [World.size_alloc] at z2
    have C2 := Below.chain b1 (by go_grown) b2 (by go_size)
    have B2 : Below w.heap.size w w2 := Below.chain B1 (by go_grown) b2 (by go_size)
    obtain ⟨b2c, b2f⟩ := bcell b2
    obtain ⟨C2c, C2f⟩ := bcellB C2
    have y20 : w.heap.size < w2.heap.size := by omega
    have y21 : w.heap.size + 1 < w2.heap.size := by omega
    have y22 : w.heap.size + 2 < w2.heap.size := by omega
    try (have v21 : w1.heap.size < w2.heap.size := by omega)
    rw [Hc.out]
    go_wp2_with fail
    refine (implMul_any _ _ _ _ _ _ _ _ _).mono ?_
    rintro e w3 ⟨rfl, b3⟩
    have z3 := b3.size
    try simp only [World.size_alloc] at z3
    have C3 := Below.chain C2 (by go_grown) b3 (by go_size)
    have B3 : Below w.heap.size w w3 := Below.chain B2 (by go_grown) b3 (by go_size)
    obtain ⟨b3c, b3f⟩ := bcell b3
    obtain ⟨C3c, C3f⟩ := bcellB C3
    have y30 : w.heap.size < w3.heap.size := by omega
    have y31 : w.heap.size + 1 < w3.heap.size := by omega
    have y32 : w.heap.size + 2 < w3.heap.size := by omega
    try (have v31 : w1.heap.size < w3.heap.size := by omega)
    try (have v32 : w2.heap.size < w3.heap.size := by omega)
    rw [Hm.out]
    unfold optRes
    rw [rI_t, rI_t, rI_t, rI_t]
    go_wp2_with fail
    refine (implMul_any _ _ _ _ _ _ _ _ _).mono ?_
    rintro e w4 ⟨rfl, b4⟩
    have z4 := b4.size
    try simp only [World.size_alloc] at z4
    have C4 := Below.chain C3 (by go_grown) b4 (by go_size)
    have B4 : Below w.heap.size w w4 := Below.chain B3 (by go_grown) b4 (by go_size)
    obtain ⟨b4c, b4f⟩ := bcell b4
    obtain ⟨C4c, C4f⟩ := bcellB C4
    have y40 : w.heap.size < w4.heap.size := by omega
    have y41 : w.heap.size + 1 < w4.heap.size := by omega
    have y42 : w.heap.size + 2 < w4.heap.size := by omega
    try (have v41 : w1.heap.size < w4.heap.size := by omega)
    try (have v42 : w2.heap.size < w4.heap.size := by omega)
    try (have v43 : w3.heap.size < w4.heap.size := by omega)
    rw [Hm2.out]
    unfold optRes
    rw [rI_t, rI_t, rI_t, rI_t]
    go_wp2_with fail
    rw [HN.out]
    refine (divided_any _ _ _ _ _ _ H2.out Hn0.out).mono ?_
    rintro e w5 ⟨rfl, b5⟩
    have z5 := b5.size
    try simp only [World.size_alloc] at z5
    have C5 := Below.chain C4 (by go_grown) b5 (by go_size)
    have B5 : Below w.heap.size w w5 := Below.chain B4 (by go_grown) b5 (by go_size)
    obtain ⟨C5c, C5f⟩ := bcellB C5
    have y52 : w.heap.size + 2 < w5.heap.size := by omega
    unfold optRes
    go_wp2
    rw [Hq.out]
    refine bodyPost_ret (by simp [results, Try.results30, go_sem, optRes, C5c]) rfl ⟨rfl, ?_⟩
    go_grown
end Go.Proofs.Ytcmkkjdleihjfaa
