/- Differences of dyadic numbers of the program; CompareAbs. -/
import Derived.Test.YtcmkkjdleihjfaaRais
namespace Go.Proofs.Ytcmkkjdleihjfaa
open Go.RowKit

def subQ (x y : Q4) : Q4 := (x.1 - y.1, x.2.1 - y.2.1, x.2.2.1 - y.2.2.1, x.2.2.2 - y.2.2.2)
def subN (x y : D5) : Nat := Nat.max x.2.toNat y.2.toNat
def raN (x : D5) (n : Nat) : Q4 × Bool := raiseN (n - x.2.toNat) x.1
def subD3 (x y : Q4) : Bool := okQ x && okQ y && okQ (subQ x y)
def subOk (x y : D5) : Bool := dOkD x && dOkD y && ((raN x (subN x y)).2 && ((raN y (subN x y)).2 && subD3 (raN x (subN x y)).1 (raN y (subN x y)).1))
def subV (x y : D5) : D5 := lowD (subN x y : Int) (subQ (raN x (subN x y)).1 (raN y (subN x y)).1)
theorem dyRes_f {ok : Bool} {x : D5} (h : ok = false) : dyRes ok x = .tuple #[dv 0 0 0 0 0, .bool false] := by simp [dyRes, h, rI_f]
theorem dyRes_t {ok : Bool} {x : D5} (h : ok = true) : dyRes ok x = .tuple #[dvD x, .bool true] := by simp [dyRes, h, rI_t]
theorem raised_at {a b c d : Int} {e n : Nat} {A0 A1 A2 A3 : Int} {o : Bool} (w : World) (hx : rOk a b c d = true) (he : e ≤ n) (hn : n ≤ 1000) (hm : ((A0, A1, A2, A3), o) = raiseN (n - e) (a, b, c, d)) :
    Calls Try.prog 134 #[dv a b c d (e : Int), .int .i64 (n : Int)] w fun r w' => r = .returned (.tuple #[rv A0 A1 A2 A3, .bool o]) ∧ Below w.heap.size w w' :=
  (raised_any a b c d e n w hx he hn).mono fun _ _ ⟨o', p0, p1, p2, p3, h1, h2, h3⟩ => by
    rw [← hm] at h2
    simp only [Prod.mk.injEq] at h2
    obtain ⟨⟨rfl, rfl, rfl, rfl⟩, rfl⟩ := h2
    exact ⟨h1, h3⟩

set_option maxRecDepth 100000 in
set_option maxHeartbeats 8000000 in
theorem combinedSub_any (a b c d e a' b' c' d' e' : Int) (w : World) :
    Calls Try.prog 118 #[dv a b c d e, dv a' b' c' d' e', .func (Fn.func 119) #[] #[]] w fun r w' => r = .returned (dyRes (subOk ((a, b, c, d), e) ((a', b', c', d'), e')) (subV ((a, b, c, d), e) ((a', b', c', d'), e'))) ∧ Below w.heap.size w w' := by
  rcases hx : dOk a b c d e with _ | _
  · have Hr := Lib.hid (dyRes_f (ok := subOk ((a, b, c, d), e) ((a', b', c', d'), e')) (x := subV ((a, b, c, d), e) ((a', b', c', d'), e')) (by simp [subOk, dOkD, hx]))
    go_enter Try.func118, Try.ntmps118
    go_wp2_with fail
    refine (implValidDyadic_any _ _ _ _ _ _).mono ?_
    rintro e w1 ⟨rfl, b1⟩
    obtain ⟨b1c, b1f⟩ := bcell b1
    have z1 := b1.size
    try simp only [World.size_alloc] at z1
    have B1 : Below w.heap.size w w1 := Below.chain (Below.refl _ _) (by go_grown) b1 (by go_size)
    have y10 : w.heap.size < w1.heap.size := by omega
    have y11 : w.heap.size + 1 < w1.heap.size := by omega
    have y12 : w.heap.size + 2 < w1.heap.size := by omega
    rw [hx]
    go_wp2
    rw [Hr.out]
    refine bodyPost_ret (by simp [results, Try.results118, go_sem, b1c]) rfl ⟨rfl, ?_⟩
    go_grown
  rcases hy : dOk a' b' c' d' e' with _ | _
  · have Hr := Lib.hid (dyRes_f (ok := subOk ((a, b, c, d), e) ((a', b', c', d'), e')) (x := subV ((a, b, c, d), e) ((a', b', c', d'), e')) (by simp [subOk, dOkD, hy]))
    go_enter Try.func118, Try.ntmps118
    go_wp2_with fail
    refine (implValidDyadic_any _ _ _ _ _ _).mono ?_
    rintro e w1 ⟨rfl, b1⟩
    obtain ⟨b1c, b1f⟩ := bcell b1
    have z1 := b1.size
    try simp only [World.size_alloc] at z1
    have B1 : Below w.heap.size w w1 := Below.chain (Below.refl _ _) (by go_grown) b1 (by go_size)
    have y10 : w.heap.size < w1.heap.size := by omega
    have y11 : w.heap.size + 1 < w1.heap.size := by omega
    have y12 : w.heap.size + 2 < w1.heap.size := by omega
    rw [hx]
    go_wp2_with fail
    refine (implValidDyadic_any _ _ _ _ _ _).mono ?_
    rintro e w2 ⟨rfl, b2⟩
    have z2 := b2.size
    try simp only [World.size_alloc] at z2
    have C2 := Below.chain b1 (by go_grown) b2 (by go_size)
    have B2 : Below w.heap.size w w2 := Below.chain B1 (by go_grown) b2 (by go_size)
    obtain ⟨b2c, b2f⟩ := bcell b2
    obtain ⟨C2c, C2f⟩ := bcellB C2
    have y20 : w.heap.size < w2.heap.size := by omega
    have y21 : w.heap.size + 1 < w2.heap.size := by omega
    have y22 : w.heap.size + 2 < w2.heap.size := by omega
    try (have v21 : w1.heap.size < w2.heap.size := by omega)
    rw [hy]
    go_wp2
    rw [Hr.out]
    refine bodyPost_ret (by simp [results, Try.results118, go_sem, C2c]) rfl ⟨rfl, ?_⟩
    go_grown
  have hrx := dOk_r hx
  have hry := dOk_r hy
  obtain ⟨he0, he1⟩ := dOk_e hx
  obtain ⟨he0', he1'⟩ := dOk_e hy
  obtain ⟨E, rfl⟩ := Int.eq_ofNat_of_zero_le he0
  obtain ⟨E', rfl⟩ := Int.eq_ofNat_of_zero_le he0'
  obtain ⟨n, hn⟩ : ∃ n, n = subN ((a, b, c, d), (E : Int)) ((a', b', c', d'), (E' : Int)) := ⟨_, rfl⟩
  have hnm : n = Nat.max E E' := hn
  have hn1 : E ≤ n := by rw [hnm]; exact Nat.le_max_left _ _
  have hn2 : E' ≤ n := by rw [hnm]; exact Nat.le_max_right _ _
  have hn3 : n ≤ 60 := by rw [hnm]; exact Nat.max_le.2 ⟨by omega, by omega⟩
  obtain ⟨⟨⟨A0, A1, A2, A3⟩, o1⟩, hA⟩ : ∃ m, m = raiseN (n - E) (a, b, c, d) := ⟨_, rfl⟩
  obtain ⟨⟨⟨D0, D1, D2, D3⟩, o2⟩, hB⟩ : ∃ m, m = raiseN (n - E') (a', b', c', d') := ⟨_, rfl⟩
  have HA := Lib.hid hA
  have HB := Lib.hid hB
  have Hsub : Hid (subOk ((a, b, c, d), (E : Int)) ((a', b', c', d'), (E' : Int)) = (o1 && (o2 && subD3 (A0, A1, A2, A3) (D0, D1, D2, D3)))) := by
    show _ = _
    have e1 : raN ((a, b, c, d), (E : Int)) n = ((A0, A1, A2, A3), o1) := hA.symm
    have e2 : raN ((a', b', c', d'), (E' : Int)) n = ((D0, D1, D2, D3), o2) := hB.symm
    unfold subOk
    rw [← hn, e1, e2]
    simp [dOkD, hx, hy]
  have Hval : Hid (subV ((a, b, c, d), (E : Int)) ((a', b', c', d'), (E' : Int)) = lowD (n : Int) (subQ (A0, A1, A2, A3) (D0, D1, D2, D3))) := by
    show _ = _
    have e1 : raN ((a, b, c, d), (E : Int)) n = ((A0, A1, A2, A3), o1) := hA.symm
    have e2 : raN ((a', b', c', d'), (E' : Int)) n = ((D0, D1, D2, D3), o2) := hB.symm
    unfold subV
    rw [← hn, e1, e2]
  have Hx := Lib.hid hx
  have Hy := Lib.hid hy
  have Hrx := Lib.hid hrx
  have Hry := Lib.hid hry
  have hcase : (E < E' ∧ n = E') ∨ (E' ≤ E ∧ n = E) := by
    rcases Nat.lt_or_ge E E' with h | h
    · exact .inl ⟨h, by rw [hnm]; exact Nat.max_eq_right (Nat.le_of_lt h)⟩
    · exact .inr ⟨h, by rw [hnm]; exact Nat.max_eq_left h⟩
  clear hA hB hx hy hrx hry hn hnm
  obtain ⟨p0, p1, p2, p3, o3, hp⟩ := ringRes_shape (rOk A0 A1 A2 A3 && rOk D0 D1 D2 D3) (A0 - D0) (A1 - D1) (A2 - D2) (A3 - D3)
  have ho3 : o3 = subD3 (A0, A1, A2, A3) (D0, D1, D2, D3) := by
    unfold ringRes at hp
    simp only [Value.tuple.injEq, Array.mk.injEq, List.cons.injEq, Value.bool.injEq] at hp
    exact hp.2.1.symm
  have Hp := Lib.hid hp
  have Ho3 := Lib.hid ho3
  clear hp ho3
  rcases hcase with ⟨hle, rfl⟩ | ⟨hle, rfl⟩
  · cases o1
    · have Hr := Lib.hid (dyRes_f (ok := subOk ((a, b, c, d), (E : Int)) ((a', b', c', d'), (n : Int))) (x := subV ((a, b, c, d), (E : Int)) ((a', b', c', d'), (n : Int))) (by rw [Hsub.out, ← Ho3.out]; simp))
      go_enter Try.func118, Try.ntmps118
      go_wp2_with fail
      refine (implValidDyadic_any _ _ _ _ _ _).mono ?_
      rintro e w1 ⟨rfl, b1⟩
      obtain ⟨b1c, b1f⟩ := bcell b1
      have z1 := b1.size
      try simp only [World.size_alloc] at z1
      have B1 : Below w.heap.size w w1 := Below.chain (Below.refl _ _) (by go_grown) b1 (by go_size)
      have y10 : w.heap.size < w1.heap.size := by omega
      have y11 : w.heap.size + 1 < w1.heap.size := by omega
      have y12 : w.heap.size + 2 < w1.heap.size := by omega
      rw [Hx.out]
      go_wp2_with fail
      refine (implValidDyadic_any _ _ _ _ _ _).mono ?_
      rintro e w2 ⟨rfl, b2⟩
      have z2 := b2.size
      try simp only [World.size_alloc] at z2
      have C2 := Below.chain b1 (by go_grown) b2 (by go_size)
      have B2 : Below w.heap.size w w2 := Below.chain B1 (by go_grown) b2 (by go_size)
      obtain ⟨b2c, b2f⟩ := bcell b2
      obtain ⟨C2c, C2f⟩ := bcellB C2
      have y20 : w.heap.size < w2.heap.size := by omega
      have y21 : w.heap.size + 1 < w2.heap.size := by omega
      have y22 : w.heap.size + 2 < w2.heap.size := by omega
      try (have v21 : w1.heap.size < w2.heap.size := by omega)
      rw [Hy.out]
      go_wp2_with fail
      refine (raised_at _ Hrx.out hn1 (by omega) HA.out).mono ?_
      rintro e w3 ⟨rfl, b3⟩
      have z3 := b3.size
      try simp only [World.size_alloc] at z3
      have C3 := Below.chain C2 (by go_grown) b3 (by go_size)
      have B3 : Below w.heap.size w w3 := Below.chain B2 (by go_grown) b3 (by go_size)
      obtain ⟨b3c, b3f⟩ := bcell b3
      obtain ⟨C3c, C3f⟩ := bcellB C3
      have y30 : w.heap.size < w3.heap.size := by omega
      have y31 : w.heap.size + 1 < w3.heap.size := by omega
      have y32 : w.heap.size + 2 < w3.heap.size := by omega
      try (have v31 : w1.heap.size < w3.heap.size := by omega)
      try (have v32 : w2.heap.size < w3.heap.size := by omega)
      go_wp2_with fail
      refine (raised_at _ Hry.out hn2 (by omega) HB.out).mono ?_
      rintro e w4 ⟨rfl, b4⟩
      have z4 := b4.size
      try simp only [World.size_alloc] at z4
      have C4 := Below.chain C3 (by go_grown) b4 (by go_size)
      have B4 : Below w.heap.size w w4 := Below.chain B3 (by go_grown) b4 (by go_size)
      obtain ⟨b4c, b4f⟩ := bcell b4
      obtain ⟨C4c, C4f⟩ := bcellB C4
      have y40 : w.heap.size < w4.heap.size := by omega
      have y41 : w.heap.size + 1 < w4.heap.size := by omega
      have y42 : w.heap.size + 2 < w4.heap.size := by omega
      try (have v41 : w1.heap.size < w4.heap.size := by omega)
      try (have v42 : w2.heap.size < w4.heap.size := by omega)
      try (have v43 : w3.heap.size < w4.heap.size := by omega)
      go_wp2_with fail
      refine (implSub_any _ _ _ _ _ _ _ _ _).mono ?_
      rintro e w5 ⟨rfl, b5⟩
      have z5 := b5.size
      try simp only [World.size_alloc] at z5
      have C5 := Below.chain C4 (by go_grown) b5 (by go_size)
      have B5 : Below w.heap.size w w5 := Below.chain B4 (by go_grown) b5 (by go_size)
      obtain ⟨b5c, b5f⟩ := bcell b5
      obtain ⟨C5c, C5f⟩ := bcellB C5
      have y50 : w.heap.size < w5.heap.size := by omega
      have y51 : w.heap.size + 1 < w5.heap.size := by omega
      have y52 : w.heap.size + 2 < w5.heap.size := by omega
      try (have v51 : w1.heap.size < w5.heap.size := by omega)
      try (have v52 : w2.heap.size < w5.heap.size := by omega)
      try (have v53 : w3.heap.size < w5.heap.size := by omega)
      try (have v54 : w4.heap.size < w5.heap.size := by omega)
      rw [Hp.out]
      go_wp2
      rw [Hr.out]
      refine bodyPost_ret (by simp [results, Try.results118, go_sem, C5c, (by omega : w.heap.size + 1 + 1 < w5.heap.size)]) rfl ⟨rfl, ?_⟩
      go_grown
    cases o2
    · have Hr := Lib.hid (dyRes_f (ok := subOk ((a, b, c, d), (E : Int)) ((a', b', c', d'), (n : Int))) (x := subV ((a, b, c, d), (E : Int)) ((a', b', c', d'), (n : Int))) (by rw [Hsub.out, ← Ho3.out]; simp))
      go_enter Try.func118, Try.ntmps118
      go_wp2_with fail
      refine (implValidDyadic_any _ _ _ _ _ _).mono ?_
      rintro e w1 ⟨rfl, b1⟩
      obtain ⟨b1c, b1f⟩ := bcell b1
      have z1 := b1.size
      try simp only [World.size_alloc] at z1
      have B1 : Below w.heap.size w w1 := Below.chain (Below.refl _ _) (by go_grown) b1 (by go_size)
      have y10 : w.heap.size < w1.heap.size := by omega
      have y11 : w.heap.size + 1 < w1.heap.size := by omega
      have y12 : w.heap.size + 2 < w1.heap.size := by omega
      rw [Hx.out]
      go_wp2_with fail
      refine (implValidDyadic_any _ _ _ _ _ _).mono ?_
      rintro e w2 ⟨rfl, b2⟩
      have z2 := b2.size
      try simp only [World.size_alloc] at z2
      have C2 := Below.chain b1 (by go_grown) b2 (by go_size)
      have B2 : Below w.heap.size w w2 := Below.chain B1 (by go_grown) b2 (by go_size)
      obtain ⟨b2c, b2f⟩ := bcell b2
      obtain ⟨C2c, C2f⟩ := bcellB C2
      have y20 : w.heap.size < w2.heap.size := by omega
      have y21 : w.heap.size + 1 < w2.heap.size := by omega
      have y22 : w.heap.size + 2 < w2.heap.size := by omega
      try (have v21 : w1.heap.size < w2.heap.size := by omega)
      rw [Hy.out]
      go_wp2_with fail
      refine (raised_at _ Hrx.out hn1 (by omega) HA.out).mono ?_
      rintro e w3 ⟨rfl, b3⟩
      have z3 := b3.size
      try simp only [World.size_alloc] at z3
      have C3 := Below.chain C2 (by go_grown) b3 (by go_size)
      have B3 : Below w.heap.size w w3 := Below.chain B2 (by go_grown) b3 (by go_size)
      obtain ⟨b3c, b3f⟩ := bcell b3
      obtain ⟨C3c, C3f⟩ := bcellB C3
      have y30 : w.heap.size < w3.heap.size := by omega
      have y31 : w.heap.size + 1 < w3.heap.size := by omega
      have y32 : w.heap.size + 2 < w3.heap.size := by omega
      try (have v31 : w1.heap.size < w3.heap.size := by omega)
      try (have v32 : w2.heap.size < w3.heap.size := by omega)
      go_wp2_with fail
      refine (raised_at _ Hry.out hn2 (by omega) HB.out).mono ?_
      rintro e w4 ⟨rfl, b4⟩
      have z4 := b4.size
      try simp only [World.size_alloc] at z4
      have C4 := Below.chain C3 (by go_grown) b4 (by go_size)
      have B4 : Below w.heap.size w w4 := Below.chain B3 (by go_grown) b4 (by go_size)
      obtain ⟨b4c, b4f⟩ := bcell b4
      obtain ⟨C4c, C4f⟩ := bcellB C4
      have y40 : w.heap.size < w4.heap.size := by omega
      have y41 : w.heap.size + 1 < w4.heap.size := by omega
      have y42 : w.heap.size + 2 < w4.heap.size := by omega
      try (have v41 : w1.heap.size < w4.heap.size := by omega)
      try (have v42 : w2.heap.size < w4.heap.size := by omega)
      try (have v43 : w3.heap.size < w4.heap.size := by omega)
      go_wp2_with fail
      refine (implSub_any _ _ _ _ _ _ _ _ _).mono ?_
      rintro e w5 ⟨rfl, b5⟩
      have z5 := b5.size
      try simp only [World.size_alloc] at z5
      have C5 := Below.chain C4 (by go_grown) b5 (by go_size)
      have B5 : Below w.heap.size w w5 := Below.chain B4 (by go_grown) b5 (by go_size)
      obtain ⟨b5c, b5f⟩ := bcell b5
      obtain ⟨C5c, C5f⟩ := bcellB C5
      have y50 : w.heap.size < w5.heap.size := by omega
      have y51 : w.heap.size + 1 < w5.heap.size := by omega
      have y52 : w.heap.size + 2 < w5.heap.size := by omega
      try (have v51 : w1.heap.size < w5.heap.size := by omega)
      try (have v52 : w2.heap.size < w5.heap.size := by omega)
      try (have v53 : w3.heap.size < w5.heap.size := by omega)
      try (have v54 : w4.heap.size < w5.heap.size := by omega)
      rw [Hp.out]
      go_wp2
      rw [Hr.out]
      refine bodyPost_ret (by simp [results, Try.results118, go_sem, C5c, (by omega : w.heap.size + 1 + 1 < w5.heap.size)]) rfl ⟨rfl, ?_⟩
      go_grown
    cases o3
    · have Hr := Lib.hid (dyRes_f (ok := subOk ((a, b, c, d), (E : Int)) ((a', b', c', d'), (n : Int))) (x := subV ((a, b, c, d), (E : Int)) ((a', b', c', d'), (n : Int))) (by rw [Hsub.out, ← Ho3.out]; simp))
      go_enter Try.func118, Try.ntmps118
      go_wp2_with fail
      refine (implValidDyadic_any _ _ _ _ _ _).mono ?_
      rintro e w1 ⟨rfl, b1⟩
      obtain ⟨b1c, b1f⟩ := bcell b1
      have z1 := b1.size
      try simp only [World.size_alloc] at z1
      have B1 : Below w.heap.size w w1 := Below.chain (Below.refl _ _) (by go_grown) b1 (by go_size)
      have y10 : w.heap.size < w1.heap.size := by omega
      have y11 : w.heap.size + 1 < w1.heap.size := by omega
      have y12 : w.heap.size + 2 < w1.heap.size := by omega
      rw [Hx.out]
      go_wp2_with fail
      refine (implValidDyadic_any _ _ _ _ _ _).mono ?_
      rintro e w2 ⟨rfl, b2⟩
      have z2 := b2.size
      try simp only [World.size_alloc] at z2
      have C2 := Below.chain b1 (by go_grown) b2 (by go_size)
      have B2 : Below w.heap.size w w2 := Below.chain B1 (by go_grown) b2 (by go_size)
      obtain ⟨b2c, b2f⟩ := bcell b2
      obtain ⟨C2c, C2f⟩ := bcellB C2
      have y20 : w.heap.size < w2.heap.size := by omega
      have y21 : w.heap.size + 1 < w2.heap.size := by omega
      have y22 : w.heap.size + 2 < w2.heap.size := by omega
      try (have v21 : w1.heap.size < w2.heap.size := by omega)
      rw [Hy.out]
      go_wp2_with fail
      refine (raised_at _ Hrx.out hn1 (by omega) HA.out).mono ?_
      rintro e w3 ⟨rfl, b3⟩
      have z3 := b3.size
      try simp only [World.size_alloc] at z3
      have C3 := Below.chain C2 (by go_grown) b3 (by go_size)
      have B3 : Below w.heap.size w w3 := Below.chain B2 (by go_grown) b3 (by go_size)
      obtain ⟨b3c, b3f⟩ := bcell b3
      obtain ⟨C3c, C3f⟩ := bcellB C3
      have y30 : w.heap.size < w3.heap.size := by omega
      have y31 : w.heap.size + 1 < w3.heap.size := by omega
      have y32 : w.heap.size + 2 < w3.heap.size := by omega
      try (have v31 : w1.heap.size < w3.heap.size := by omega)
      try (have v32 : w2.heap.size < w3.heap.size := by omega)
      go_wp2_with fail
      refine (raised_at _ Hry.out hn2 (by omega) HB.out).mono ?_
      rintro e w4 ⟨rfl, b4⟩
      have z4 := b4.size
      try simp only [World.size_alloc] at z4
      have C4 := Below.chain C3 (by go_grown) b4 (by go_size)
      have B4 : Below w.heap.size w w4 := Below.chain B3 (by go_grown) b4 (by go_size)
      obtain ⟨b4c, b4f⟩ := bcell b4
      obtain ⟨C4c, C4f⟩ := bcellB C4
      have y40 : w.heap.size < w4.heap.size := by omega
      have y41 : w.heap.size + 1 < w4.heap.size := by omega
      have y42 : w.heap.size + 2 < w4.heap.size := by omega
      try (have v41 : w1.heap.size < w4.heap.size := by omega)
      try (have v42 : w2.heap.size < w4.heap.size := by omega)
      try (have v43 : w3.heap.size < w4.heap.size := by omega)
      go_wp2_with fail
      refine (implSub_any _ _ _ _ _ _ _ _ _).mono ?_
      rintro e w5 ⟨rfl, b5⟩
      have z5 := b5.size
      try simp only [World.size_alloc] at z5
      have C5 := Below.chain C4 (by go_grown) b5 (by go_size)
      have B5 : Below w.heap.size w w5 := Below.chain B4 (by go_grown) b5 (by go_size)
      obtain ⟨b5c, b5f⟩ := bcell b5
      obtain ⟨C5c, C5f⟩ := bcellB C5
      have y50 : w.heap.size < w5.heap.size := by omega
      have y51 : w.heap.size + 1 < w5.heap.size := by omega
      have y52 : w.heap.size + 2 < w5.heap.size := by omega
      try (have v51 : w1.heap.size < w5.heap.size := by omega)
      try (have v52 : w2.heap.size < w5.heap.size := by omega)
      try (have v53 : w3.heap.size < w5.heap.size := by omega)
      try (have v54 : w4.heap.size < w5.heap.size := by omega)
      rw [Hp.out]
      go_wp2
      rw [Hr.out]
      refine bodyPost_ret (by simp [results, Try.results118, go_sem, C5c, (by omega : w.heap.size + 1 + 1 < w5.heap.size)]) rfl ⟨rfl, ?_⟩
      go_grown
    have hs := Ho3.out.symm
    have Hq := Lib.hid (ringRes_t (X := rOk A0 A1 A2 A3 && rOk D0 D1 D2 D3) (a := A0 - D0) (b := A1 - D1) (c := A2 - D2) (d := A3 - D3) hs)
    have Hlow : Hid (lowRes (A0 - D0) (A1 - D1) (A2 - D2) (A3 - D3) (n : Int) = .tuple #[dvD (subV ((a, b, c, d), (E : Int)) ((a', b', c', d'), (n : Int))), .bool true]) := by
      show _ = _
      rw [Hval.out]
      refine lowRes_t ?_
      have h3 : rOk (A0 - D0) (A1 - D1) (A2 - D2) (A3 - D3) = true := by
        unfold subD3 at hs
        rw [Bool.and_eq_true] at hs
        exact hs.2
      unfold lowOk
      rw [h3, inB_yes (by omega) (by omega)]
      rfl
    have Hr := Lib.hid (dyRes_t (ok := subOk ((a, b, c, d), (E : Int)) ((a', b', c', d'), (n : Int))) (x := subV ((a, b, c, d), (E : Int)) ((a', b', c', d'), (n : Int))) (by rw [Hsub.out, ← Ho3.out]; rfl))
    clear hs
    go_enter Try.func118, Try.ntmps118
    go_wp2_with fail
    refine (implValidDyadic_any _ _ _ _ _ _).mono ?_
    rintro e w1 ⟨rfl, b1⟩
    obtain ⟨b1c, b1f⟩ := bcell b1
    have z1 := b1.size
    try simp only [World.size_alloc] at z1
    have B1 : Below w.heap.size w w1 := Below.chain (Below.refl _ _) (by go_grown) b1 (by go_size)
    have y10 : w.heap.size < w1.heap.size := by omega
    have y11 : w.heap.size + 1 < w1.heap.size := by omega
    have y12 : w.heap.size + 2 < w1.heap.size := by omega
    rw [Hx.out]
    go_wp2_with fail
    refine (implValidDyadic_any _ _ _ _ _ _).mono ?_
    rintro e w2 ⟨rfl, b2⟩
    have z2 := b2.size
    try simp only [World.size_alloc] at z2
    have C2 := Below.chain b1 (by go_grown) b2 (by go_size)
    have B2 : Below w.heap.size w w2 := Below.chain B1 (by go_grown) b2 (by go_size)
    obtain ⟨b2c, b2f⟩ := bcell b2
    obtain ⟨C2c, C2f⟩ := bcellB C2
    have y20 : w.heap.size < w2.heap.size := by omega
    have y21 : w.heap.size + 1 < w2.heap.size := by omega
    have y22 : w.heap.size + 2 < w2.heap.size := by omega
    try (have v21 : w1.heap.size < w2.heap.size := by omega)
    rw [Hy.out]
    go_wp2_with fail
    refine (raised_at _ Hrx.out hn1 (by omega) HA.out).mono ?_
    rintro e w3 ⟨rfl, b3⟩
    have z3 := b3.size
    try simp only [World.size_alloc] at z3
    have C3 := Below.chain C2 (by go_grown) b3 (by go_size)
    have B3 : Below w.heap.size w w3 := Below.chain B2 (by go_grown) b3 (by go_size)
    obtain ⟨b3c, b3f⟩ := bcell b3
    obtain ⟨C3c, C3f⟩ := bcellB C3
    have y30 : w.heap.size < w3.heap.size := by omega
    have y31 : w.heap.size + 1 < w3.heap.size := by omega
    have y32 : w.heap.size + 2 < w3.heap.size := by omega
    try (have v31 : w1.heap.size < w3.heap.size := by omega)
    try (have v32 : w2.heap.size < w3.heap.size := by omega)
    go_wp2_with fail
    refine (raised_at _ Hry.out hn2 (by omega) HB.out).mono ?_
    rintro e w4 ⟨rfl, b4⟩
    have z4 := b4.size
    try simp only [World.size_alloc] at z4
    have C4 := Below.chain C3 (by go_grown) b4 (by go_size)
    have B4 : Below w.heap.size w w4 := Below.chain B3 (by go_grown) b4 (by go_size)
    obtain ⟨b4c, b4f⟩ := bcell b4
    obtain ⟨C4c, C4f⟩ := bcellB C4
    have y40 : w.heap.size < w4.heap.size := by omega
    have y41 : w.heap.size + 1 < w4.heap.size := by omega
    have y42 : w.heap.size + 2 < w4.heap.size := by omega
    try (have v41 : w1.heap.size < w4.heap.size := by omega)
    try (have v42 : w2.heap.size < w4.heap.size := by omega)
    try (have v43 : w3.heap.size < w4.heap.size := by omega)
    go_wp2_with fail
    refine (implSub_any _ _ _ _ _ _ _ _ _).mono ?_
    rintro e w5 ⟨rfl, b5⟩
    have z5 := b5.size
    try simp only [World.size_alloc] at z5
    have C5 := Below.chain C4 (by go_grown) b5 (by go_size)
    have B5 : Below w.heap.size w w5 := Below.chain B4 (by go_grown) b5 (by go_size)
    obtain ⟨b5c, b5f⟩ := bcell b5
    obtain ⟨C5c, C5f⟩ := bcellB C5
    have y50 : w.heap.size < w5.heap.size := by omega
    have y51 : w.heap.size + 1 < w5.heap.size := by omega
    have y52 : w.heap.size + 2 < w5.heap.size := by omega
    try (have v51 : w1.heap.size < w5.heap.size := by omega)
    try (have v52 : w2.heap.size < w5.heap.size := by omega)
    try (have v53 : w3.heap.size < w5.heap.size := by omega)
    try (have v54 : w4.heap.size < w5.heap.size := by omega)
    rw [Hq.out]
    go_wp2_with fail
    refine (implDyadicOf_any _ _ _ _ _ _).mono ?_
    rintro e w6 ⟨rfl, b6⟩
    have z6 := b6.size
    try simp only [World.size_alloc] at z6
    have C6 := Below.chain C5 (by go_grown) b6 (by go_size)
    have B6 : Below w.heap.size w w6 := Below.chain B5 (by go_grown) b6 (by go_size)
    obtain ⟨b6c, b6f⟩ := bcell b6
    obtain ⟨C6c, C6f⟩ := bcellB C6
    have y60 : w.heap.size < w6.heap.size := by omega
    have y61 : w.heap.size + 1 < w6.heap.size := by omega
    have y62 : w.heap.size + 2 < w6.heap.size := by omega
    try (have v61 : w1.heap.size < w6.heap.size := by omega)
    try (have v62 : w2.heap.size < w6.heap.size := by omega)
    try (have v63 : w3.heap.size < w6.heap.size := by omega)
    try (have v64 : w4.heap.size < w6.heap.size := by omega)
    try (have v65 : w5.heap.size < w6.heap.size := by omega)
    rw [Hlow.out]
    go_wp2
    rw [Hr.out]
    refine bodyPost_ret (by simp [results, Try.results118, go_sem, C6c]) rfl ⟨rfl, ?_⟩
    go_grown
  · cases o1
    · have Hr := Lib.hid (dyRes_f (ok := subOk ((a, b, c, d), (n : Int)) ((a', b', c', d'), (E' : Int))) (x := subV ((a, b, c, d), (n : Int)) ((a', b', c', d'), (E' : Int))) (by rw [Hsub.out, ← Ho3.out]; simp))
      go_enter Try.func118, Try.ntmps118
      go_wp2_with fail
      refine (implValidDyadic_any _ _ _ _ _ _).mono ?_
      rintro e w1 ⟨rfl, b1⟩
      obtain ⟨b1c, b1f⟩ := bcell b1
      have z1 := b1.size
      try simp only [World.size_alloc] at z1
      have B1 : Below w.heap.size w w1 := Below.chain (Below.refl _ _) (by go_grown) b1 (by go_size)
      have y10 : w.heap.size < w1.heap.size := by omega
      have y11 : w.heap.size + 1 < w1.heap.size := by omega
      have y12 : w.heap.size + 2 < w1.heap.size := by omega
      rw [Hx.out]
      go_wp2_with fail
      refine (implValidDyadic_any _ _ _ _ _ _).mono ?_
      rintro e w2 ⟨rfl, b2⟩
      have z2 := b2.size
      try simp only [World.size_alloc] at z2
      have C2 := Below.chain b1 (by go_grown) b2 (by go_size)
      have B2 : Below w.heap.size w w2 := Below.chain B1 (by go_grown) b2 (by go_size)
      obtain ⟨b2c, b2f⟩ := bcell b2
      obtain ⟨C2c, C2f⟩ := bcellB C2
      have y20 : w.heap.size < w2.heap.size := by omega
      have y21 : w.heap.size + 1 < w2.heap.size := by omega
      have y22 : w.heap.size + 2 < w2.heap.size := by omega
      try (have v21 : w1.heap.size < w2.heap.size := by omega)
      rw [Hy.out]
      go_wp2_with fail
      refine (raised_at _ Hrx.out hn1 (by omega) HA.out).mono ?_
      rintro e w3 ⟨rfl, b3⟩
      have z3 := b3.size
      try simp only [World.size_alloc] at z3
      have C3 := Below.chain C2 (by go_grown) b3 (by go_size)
      have B3 : Below w.heap.size w w3 := Below.chain B2 (by go_grown) b3 (by go_size)
      obtain ⟨b3c, b3f⟩ := bcell b3
      obtain ⟨C3c, C3f⟩ := bcellB C3
      have y30 : w.heap.size < w3.heap.size := by omega
      have y31 : w.heap.size + 1 < w3.heap.size := by omega
      have y32 : w.heap.size + 2 < w3.heap.size := by omega
      try (have v31 : w1.heap.size < w3.heap.size := by omega)
      try (have v32 : w2.heap.size < w3.heap.size := by omega)
      go_wp2_with fail
      refine (raised_at _ Hry.out hn2 (by omega) HB.out).mono ?_
      rintro e w4 ⟨rfl, b4⟩
      have z4 := b4.size
      try simp only [World.size_alloc] at z4
      have C4 := Below.chain C3 (by go_grown) b4 (by go_size)
      have B4 : Below w.heap.size w w4 := Below.chain B3 (by go_grown) b4 (by go_size)
      obtain ⟨b4c, b4f⟩ := bcell b4
      obtain ⟨C4c, C4f⟩ := bcellB C4
      have y40 : w.heap.size < w4.heap.size := by omega
      have y41 : w.heap.size + 1 < w4.heap.size := by omega
      have y42 : w.heap.size + 2 < w4.heap.size := by omega
      try (have v41 : w1.heap.size < w4.heap.size := by omega)
      try (have v42 : w2.heap.size < w4.heap.size := by omega)
      try (have v43 : w3.heap.size < w4.heap.size := by omega)
      go_wp2_with fail
      refine (implSub_any _ _ _ _ _ _ _ _ _).mono ?_
      rintro e w5 ⟨rfl, b5⟩
      have z5 := b5.size
      try simp only [World.size_alloc] at z5
      have C5 := Below.chain C4 (by go_grown) b5 (by go_size)
      have B5 : Below w.heap.size w w5 := Below.chain B4 (by go_grown) b5 (by go_size)
      obtain ⟨b5c, b5f⟩ := bcell b5
      obtain ⟨C5c, C5f⟩ := bcellB C5
      have y50 : w.heap.size < w5.heap.size := by omega
      have y51 : w.heap.size + 1 < w5.heap.size := by omega
      have y52 : w.heap.size + 2 < w5.heap.size := by omega
      try (have v51 : w1.heap.size < w5.heap.size := by omega)
      try (have v52 : w2.heap.size < w5.heap.size := by omega)
      try (have v53 : w3.heap.size < w5.heap.size := by omega)
      try (have v54 : w4.heap.size < w5.heap.size := by omega)
      rw [Hp.out]
      go_wp2
      rw [Hr.out]
      refine bodyPost_ret (by simp [results, Try.results118, go_sem, C5c, (by omega : w.heap.size + 1 + 1 < w5.heap.size)]) rfl ⟨rfl, ?_⟩
      go_grown
    cases o2
    · have Hr := Lib.hid (dyRes_f (ok := subOk ((a, b, c, d), (n : Int)) ((a', b', c', d'), (E' : Int))) (x := subV ((a, b, c, d), (n : Int)) ((a', b', c', d'), (E' : Int))) (by rw [Hsub.out, ← Ho3.out]; simp))
      go_enter Try.func118, Try.ntmps118
      go_wp2_with fail
      refine (implValidDyadic_any _ _ _ _ _ _).mono ?_
      rintro e w1 ⟨rfl, b1⟩
      obtain ⟨b1c, b1f⟩ := bcell b1
      have z1 := b1.size
      try simp only [World.size_alloc] at z1
      have B1 : Below w.heap.size w w1 := Below.chain (Below.refl _ _) (by go_grown) b1 (by go_size)
      have y10 : w.heap.size < w1.heap.size := by omega
      have y11 : w.heap.size + 1 < w1.heap.size := by omega
      have y12 : w.heap.size + 2 < w1.heap.size := by omega
      rw [Hx.out]
      go_wp2_with fail
      refine (implValidDyadic_any _ _ _ _ _ _).mono ?_
      rintro e w2 ⟨rfl, b2⟩
      have z2 := b2.size
      try simp only [World.size_alloc] at z2
      have C2 := Below.chain b1 (by go_grown) b2 (by go_size)
      have B2 : Below w.heap.size w w2 := Below.chain B1 (by go_grown) b2 (by go_size)
      obtain ⟨b2c, b2f⟩ := bcell b2
      obtain ⟨C2c, C2f⟩ := bcellB C2
      have y20 : w.heap.size < w2.heap.size := by omega
      have y21 : w.heap.size + 1 < w2.heap.size := by omega
      have y22 : w.heap.size + 2 < w2.heap.size := by omega
      try (have v21 : w1.heap.size < w2.heap.size := by omega)
      rw [Hy.out]
      go_wp2_with fail
      refine (raised_at _ Hrx.out hn1 (by omega) HA.out).mono ?_
      rintro e w3 ⟨rfl, b3⟩
      have z3 := b3.size
      try simp only [World.size_alloc] at z3
      have C3 := Below.chain C2 (by go_grown) b3 (by go_size)
      have B3 : Below w.heap.size w w3 := Below.chain B2 (by go_grown) b3 (by go_size)
      obtain ⟨b3c, b3f⟩ := bcell b3
      obtain ⟨C3c, C3f⟩ := bcellB C3
      have y30 : w.heap.size < w3.heap.size := by omega
      have y31 : w.heap.size + 1 < w3.heap.size := by omega
      have y32 : w.heap.size + 2 < w3.heap.size := by omega
      try (have v31 : w1.heap.size < w3.heap.size := by omega)
      try (have v32 : w2.heap.size < w3.heap.size := by omega)
      go_wp2_with fail
      refine (raised_at _ Hry.out hn2 (by omega) HB.out).mono ?_
      rintro e w4 ⟨rfl, b4⟩
      have z4 := b4.size
      try simp only [World.size_alloc] at z4
      have C4 := Below.chain C3 (by go_grown) b4 (by go_size)
      have B4 : Below w.heap.size w w4 := Below.chain B3 (by go_grown) b4 (by go_size)
      obtain ⟨b4c, b4f⟩ := bcell b4
      obtain ⟨C4c, C4f⟩ := bcellB C4
      have y40 : w.heap.size < w4.heap.size := by omega
      have y41 : w.heap.size + 1 < w4.heap.size := by omega
      have y42 : w.heap.size + 2 < w4.heap.size := by omega
      try (have v41 : w1.heap.size < w4.heap.size := by omega)
      try (have v42 : w2.heap.size < w4.heap.size := by omega)
      try (have v43 : w3.heap.size < w4.heap.size := by omega)
      go_wp2_with fail
      refine (implSub_any _ _ _ _ _ _ _ _ _).mono ?_
      rintro e w5 ⟨rfl, b5⟩
      have z5 := b5.size
      try simp only [World.size_alloc] at z5
      have C5 := Below.chain C4 (by go_grown) b5 (by go_size)
      have B5 : Below w.heap.size w w5 := Below.chain B4 (by go_grown) b5 (by go_size)
      obtain ⟨b5c, b5f⟩ := bcell b5
      obtain ⟨C5c, C5f⟩ := bcellB C5
      have y50 : w.heap.size < w5.heap.size := by omega
      have y51 : w.heap.size + 1 < w5.heap.size := by omega
      have y52 : w.heap.size + 2 < w5.heap.size := by omega
      try (have v51 : w1.heap.size < w5.heap.size := by omega)
      try (have v52 : w2.heap.size < w5.heap.size := by omega)
      try (have v53 : w3.heap.size < w5.heap.size := by omega)
      try (have v54 : w4.heap.size < w5.heap.size := by omega)
      rw [Hp.out]
      go_wp2
      rw [Hr.out]
      refine bodyPost_ret (by simp [results, Try.results118, go_sem, C5c, (by omega : w.heap.size + 1 + 1 < w5.heap.size)]) rfl ⟨rfl, ?_⟩
      go_grown
    cases o3
    · have Hr := Lib.hid (dyRes_f (ok := subOk ((a, b, c, d), (n : Int)) ((a', b', c', d'), (E' : Int))) (x := subV ((a, b, c, d), (n : Int)) ((a', b', c', d'), (E' : Int))) (by rw [Hsub.out, ← Ho3.out]; simp))
      go_enter Try.func118, Try.ntmps118
      go_wp2_with fail
      refine (implValidDyadic_any _ _ _ _ _ _).mono ?_
      rintro e w1 ⟨rfl, b1⟩
      obtain ⟨b1c, b1f⟩ := bcell b1
      have z1 := b1.size
      try simp only [World.size_alloc] at z1
      have B1 : Below w.heap.size w w1 := Below.chain (Below.refl _ _) (by go_grown) b1 (by go_size)
      have y10 : w.heap.size < w1.heap.size := by omega
      have y11 : w.heap.size + 1 < w1.heap.size := by omega
      have y12 : w.heap.size + 2 < w1.heap.size := by omega
      rw [Hx.out]
      go_wp2_with fail
      refine (implValidDyadic_any _ _ _ _ _ _).mono ?_
      rintro e w2 ⟨rfl, b2⟩
      have z2 := b2.size
      try simp only [World.size_alloc] at z2
      have C2 := Below.chain b1 (by go_grown) b2 (by go_size)
      have B2 : Below w.heap.size w w2 := Below.chain B1 (by go_grown) b2 (by go_size)
      obtain ⟨b2c, b2f⟩ := bcell b2
      obtain ⟨C2c, C2f⟩ := bcellB C2
      have y20 : w.heap.size < w2.heap.size := by omega
      have y21 : w.heap.size + 1 < w2.heap.size := by omega
      have y22 : w.heap.size + 2 < w2.heap.size := by omega
      try (have v21 : w1.heap.size < w2.heap.size := by omega)
      rw [Hy.out]
      go_wp2_with fail
      refine (raised_at _ Hrx.out hn1 (by omega) HA.out).mono ?_
      rintro e w3 ⟨rfl, b3⟩
      have z3 := b3.size
      try simp only [World.size_alloc] at z3
      have C3 := Below.chain C2 (by go_grown) b3 (by go_size)
      have B3 : Below w.heap.size w w3 := Below.chain B2 (by go_grown) b3 (by go_size)
      obtain ⟨b3c, b3f⟩ := bcell b3
      obtain ⟨C3c, C3f⟩ := bcellB C3
      have y30 : w.heap.size < w3.heap.size := by omega
      have y31 : w.heap.size + 1 < w3.heap.size := by omega
      have y32 : w.heap.size + 2 < w3.heap.size := by omega
      try (have v31 : w1.heap.size < w3.heap.size := by omega)
      try (have v32 : w2.heap.size < w3.heap.size := by omega)
      go_wp2_with fail
      refine (raised_at _ Hry.out hn2 (by omega) HB.out).mono ?_
      rintro e w4 ⟨rfl, b4⟩
      have z4 := b4.size
      try simp only [World.size_alloc] at z4
      have C4 := Below.chain C3 (by go_grown) b4 (by go_size)
      have B4 : Below w.heap.size w w4 := Below.chain B3 (by go_grown) b4 (by go_size)
      obtain ⟨b4c, b4f⟩ := bcell b4
      obtain ⟨C4c, C4f⟩ := bcellB C4
      have y40 : w.heap.size < w4.heap.size := by omega
      have y41 : w.heap.size + 1 < w4.heap.size := by omega
      have y42 : w.heap.size + 2 < w4.heap.size := by omega
      try (have v41 : w1.heap.size < w4.heap.size := by omega)
      try (have v42 : w2.heap.size < w4.heap.size := by omega)
      try (have v43 : w3.heap.size < w4.heap.size := by omega)
      go_wp2_with fail
      refine (implSub_any _ _ _ _ _ _ _ _ _).mono ?_
      rintro e w5 ⟨rfl, b5⟩
      have z5 := b5.size
      try simp only [World.size_alloc] at z5
      have C5 := Below.chain C4 (by go_grown) b5 (by go_size)
      have B5 : Below w.heap.size w w5 := Below.chain B4 (by go_grown) b5 (by go_size)
      obtain ⟨b5c, b5f⟩ := bcell b5
      obtain ⟨C5c, C5f⟩ := bcellB C5
      have y50 : w.heap.size < w5.heap.size := by omega
      have y51 : w.heap.size + 1 < w5.heap.size := by omega
      have y52 : w.heap.size + 2 < w5.heap.size := by omega
      try (have v51 : w1.heap.size < w5.heap.size := by omega)
      try (have v52 : w2.heap.size < w5.heap.size := by omega)
      try (have v53 : w3.heap.size < w5.heap.size := by omega)
      try (have v54 : w4.heap.size < w5.heap.size := by omega)
      rw [Hp.out]
      go_wp2
      rw [Hr.out]
      refine bodyPost_ret (by simp [results, Try.results118, go_sem, C5c, (by omega : w.heap.size + 1 + 1 < w5.heap.size)]) rfl ⟨rfl, ?_⟩
      go_grown
    have hs := Ho3.out.symm
    have Hq := Lib.hid (ringRes_t (X := rOk A0 A1 A2 A3 && rOk D0 D1 D2 D3) (a := A0 - D0) (b := A1 - D1) (c := A2 - D2) (d := A3 - D3) hs)
    have Hlow : Hid (lowRes (A0 - D0) (A1 - D1) (A2 - D2) (A3 - D3) (n : Int) = .tuple #[dvD (subV ((a, b, c, d), (n : Int)) ((a', b', c', d'), (E' : Int))), .bool true]) := by
      show _ = _
      rw [Hval.out]
      refine lowRes_t ?_
      have h3 : rOk (A0 - D0) (A1 - D1) (A2 - D2) (A3 - D3) = true := by
        unfold subD3 at hs
        rw [Bool.and_eq_true] at hs
        exact hs.2
      unfold lowOk
      rw [h3, inB_yes (by omega) (by omega)]
      rfl
    have Hr := Lib.hid (dyRes_t (ok := subOk ((a, b, c, d), (n : Int)) ((a', b', c', d'), (E' : Int))) (x := subV ((a, b, c, d), (n : Int)) ((a', b', c', d'), (E' : Int))) (by rw [Hsub.out, ← Ho3.out]; rfl))
    clear hs
    go_enter Try.func118, Try.ntmps118
    go_wp2_with fail
    refine (implValidDyadic_any _ _ _ _ _ _).mono ?_
    rintro e w1 ⟨rfl, b1⟩
    obtain ⟨b1c, b1f⟩ := bcell b1
    have z1 := b1.size
    try simp only [World.size_alloc] at z1
    have B1 : Below w.heap.size w w1 := Below.chain (Below.refl _ _) (by go_grown) b1 (by go_size)
    have y10 : w.heap.size < w1.heap.size := by omega
    have y11 : w.heap.size + 1 < w1.heap.size := by omega
    have y12 : w.heap.size + 2 < w1.heap.size := by omega
    rw [Hx.out]
    go_wp2_with fail
    refine (implValidDyadic_any _ _ _ _ _ _).mono ?_
    rintro e w2 ⟨rfl, b2⟩
    have z2 := b2.size
    try simp only [World.size_alloc] at z2
    have C2 := Below.chain b1 (by go_grown) b2 (by go_size)
    have B2 : Below w.heap.size w w2 := Below.chain B1 (by go_grown) b2 (by go_size)
    obtain ⟨b2c, b2f⟩ := bcell b2
    obtain ⟨C2c, C2f⟩ := bcellB C2
    have y20 : w.heap.size < w2.heap.size := by omega
    have y21 : w.heap.size + 1 < w2.heap.size := by omega
    have y22 : w.heap.size + 2 < w2.heap.size := by omega
    try (have v21 : w1.heap.size < w2.heap.size := by omega)
    rw [Hy.out]
    go_wp2_with fail
    refine (raised_at _ Hrx.out hn1 (by omega) HA.out).mono ?_
    rintro e w3 ⟨rfl, b3⟩
    have z3 := b3.size
    try simp only [World.size_alloc] at z3
    have C3 := Below.chain C2 (by go_grown) b3 (by go_size)
    have B3 : Below w.heap.size w w3 := Below.chain B2 (by go_grown) b3 (by go_size)
    obtain ⟨b3c, b3f⟩ := bcell b3
    obtain ⟨C3c, C3f⟩ := bcellB C3
    have y30 : w.heap.size < w3.heap.size := by omega
    have y31 : w.heap.size + 1 < w3.heap.size := by omega
    have y32 : w.heap.size + 2 < w3.heap.size := by omega
    try (have v31 : w1.heap.size < w3.heap.size := by omega)
    try (have v32 : w2.heap.size < w3.heap.size := by omega)
    go_wp2_with fail
    refine (raised_at _ Hry.out hn2 (by omega) HB.out).mono ?_
    rintro e w4 ⟨rfl, b4⟩
    have z4 := b4.size
    try simp only [World.size_alloc] at z4
    have C4 := Below.chain C3 (by go_grown) b4 (by go_size)
    have B4 : Below w.heap.size w w4 := Below.chain B3 (by go_grown) b4 (by go_size)
    obtain ⟨b4c, b4f⟩ := bcell b4
    obtain ⟨C4c, C4f⟩ := bcellB C4
    have y40 : w.heap.size < w4.heap.size := by omega
    have y41 : w.heap.size + 1 < w4.heap.size := by omega
    have y42 : w.heap.size + 2 < w4.heap.size := by omega
    try (have v41 : w1.heap.size < w4.heap.size := by omega)
    try (have v42 : w2.heap.size < w4.heap.size := by omega)
    try (have v43 : w3.heap.size < w4.heap.size := by omega)
    go_wp2_with fail
    refine (implSub_any _ _ _ _ _ _ _ _ _).mono ?_
    rintro e w5 ⟨rfl, b5⟩
    have z5 := b5.size
    try simp only [World.size_alloc] at z5
    have C5 := Below.chain C4 (by go_grown) b5 (by go_size)
    have B5 : Below w.heap.size w w5 := Below.chain B4 (by go_grown) b5 (by go_size)
    obtain ⟨b5c, b5f⟩ := bcell b5
    obtain ⟨C5c, C5f⟩ := bcellB C5
    have y50 : w.heap.size < w5.heap.size := by omega
    have y51 : w.heap.size + 1 < w5.heap.size := by omega
    have y52 : w.heap.size + 2 < w5.heap.size := by omega
    try (have v51 : w1.heap.size < w5.heap.size := by omega)
    try (have v52 : w2.heap.size < w5.heap.size := by omega)
    try (have v53 : w3.heap.size < w5.heap.size := by omega)
    try (have v54 : w4.heap.size < w5.heap.size := by omega)
    rw [Hq.out]
    go_wp2_with fail
    refine (implDyadicOf_any _ _ _ _ _ _).mono ?_
    rintro e w6 ⟨rfl, b6⟩
    have z6 := b6.size
    try simp only [World.size_alloc] at z6
    have C6 := Below.chain C5 (by go_grown) b6 (by go_size)
    have B6 : Below w.heap.size w w6 := Below.chain B5 (by go_grown) b6 (by go_size)
    obtain ⟨b6c, b6f⟩ := bcell b6
    obtain ⟨C6c, C6f⟩ := bcellB C6
    have y60 : w.heap.size < w6.heap.size := by omega
    have y61 : w.heap.size + 1 < w6.heap.size := by omega
    have y62 : w.heap.size + 2 < w6.heap.size := by omega
    try (have v61 : w1.heap.size < w6.heap.size := by omega)
    try (have v62 : w2.heap.size < w6.heap.size := by omega)
    try (have v63 : w3.heap.size < w6.heap.size := by omega)
    try (have v64 : w4.heap.size < w6.heap.size := by omega)
    try (have v65 : w5.heap.size < w6.heap.size := by omega)
    rw [Hlow.out]
    go_wp2
    rw [Hr.out]
    refine bodyPost_ret (by simp [results, Try.results118, go_sem, C6c]) rfl ⟨rfl, ?_⟩
    go_grown
end Go.Proofs.Ytcmkkjdleihjfaa
