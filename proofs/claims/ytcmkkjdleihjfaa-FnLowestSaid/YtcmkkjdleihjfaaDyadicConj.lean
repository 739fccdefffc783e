/- ConjDyadic, of the program and of the reference; eqDyadic. -/
import Derived.Test.YtcmkkjdleihjfaaDyadic
import Derived.Test.YtcmkkjdleihjfaaRingOps
import Derived.Deep.DeepCutAuto
namespace Go.Proofs.Ytcmkkjdleihjfaa
open Go.RowKit

def conjRes (a b c d e : Int) : Value := .tuple #[dv (rI (dOk a b c d e) a) (rI (dOk a b c d e) (-d)) (rI (dOk a b c d e) (-c)) (rI (dOk a b c d e) (-b)) (rI (dOk a b c d e) e), .bool (dOk a b c d e)]
theorem dOk_r {a b c d e : Int} (h : dOk a b c d e = true) : rOk a b c d = true := by
  simp only [dOk, Bool.and_eq_true] at h
  exact h.1.1

set_option maxHeartbeats 1000000 in
theorem eqDyadic_any (a b c d e a' b' c' d' e' : Int) (w : World) :
    Calls Try.prog 128 #[dv a b c d e, dv a' b' c' d' e'] w fun r w' => r = .returned (.bool ((a == a' && b == b' && c == c' && d == d') && e == e')) ∧ Below w.heap.size w w' := by
  rcases h : (a == a' && b == b' && c == c' && d == d') with _ | _
  · go_enter Try.func128, Try.ntmps128
    go_wp2_with fail
    refine (eqRing_any _ _ _ _ _ _ _ _ _).mono ?_
    rintro e w1 ⟨rfl, b1⟩
    obtain ⟨b1c, b1f⟩ := bcell b1
    have z1 := b1.size
    try simp only [World.size_alloc] at z1
    have B1 : Below w.heap.size w w1 := Below.chain (Below.refl _ _) (by go_grown) b1 (by go_size)
    have y10 : w.heap.size < w1.heap.size := by omega
    go_wp2
    go_ret
    refine ⟨rfl, ?_⟩
    go_grown
  · by_cases he : e = e'
    · subst he
      go_enter Try.func128, Try.ntmps128
      go_wp2_with fail
      refine (eqRing_any _ _ _ _ _ _ _ _ _).mono ?_
      rintro e w1 ⟨rfl, b1⟩
      obtain ⟨b1c, b1f⟩ := bcell b1
      have z1 := b1.size
      try simp only [World.size_alloc] at z1
      have B1 : Below w.heap.size w w1 := Below.chain (Below.refl _ _) (by go_grown) b1 (by go_size)
      have y10 : w.heap.size < w1.heap.size := by omega
      go_wp2
      go_ret
      refine ⟨ret_bool (by simp), ?_⟩
      go_grown
    · go_enter Try.func128, Try.ntmps128
      go_wp2_with fail
      refine (eqRing_any _ _ _ _ _ _ _ _ _).mono ?_
      rintro e w1 ⟨rfl, b1⟩
      obtain ⟨b1c, b1f⟩ := bcell b1
      have z1 := b1.size
      try simp only [World.size_alloc] at z1
      have B1 : Below w.heap.size w w1 := Below.chain (Below.refl _ _) (by go_grown) b1 (by go_size)
      have y10 : w.heap.size < w1.heap.size := by omega
      go_wp2
      go_ret
      refine ⟨ret_bool (by simp [he]), ?_⟩
      go_grown

set_option maxHeartbeats 1000000 in
theorem implConjD_any (a b c d e : Int) (w : World) :
    Calls Try.prog 117 #[dv a b c d e] w fun r w' => r = .returned (conjRes a b c d e) ∧ Below w.heap.size w w' := by
  rcases hx : dOk a b c d e with _ | _
  · go_enter Try.func117, Try.ntmps117
    go_wp2_with fail
    refine (implValidDyadic_any _ _ _ _ _ _).mono ?_
    rintro e w1 ⟨rfl, b1⟩
    obtain ⟨b1c, b1f⟩ := bcell b1
    have z1 := b1.size
    try simp only [World.size_alloc] at z1
    have B1 : Below w.heap.size w w1 := Below.chain (Below.refl _ _) (by go_grown) b1 (by go_size)
    have y10 : w.heap.size < w1.heap.size := by omega
    have y11 : w.heap.size + 1 < w1.heap.size := by omega
    go_wp2
    refine bodyPost_ret (by simp [results, Try.results117, go_sem, b1c, conjRes, hx, rI_f]) rfl ⟨rfl, ?_⟩
    go_grown
  · have hr := dOk_r hx
    have Hc : Hid (ringRes (rOk a b c d) a (-d) (-c) (-b) = .tuple #[rv a (-d) (-c) (-b), .bool true]) := by
      have : rOk a (-d) (-c) (-b) = true := by
        have := rOk_iff.1 hr
        rw [rOk_iff]
        omega
      show ringRes (rOk a b c d) a (-d) (-c) (-b) = _
      simp [ringRes, hr, this, rI_t]
    clear hr
    go_enter Try.func117, Try.ntmps117
    go_wp2_with fail
    refine (implValidDyadic_any _ _ _ _ _ _).mono ?_
    rintro e w1 ⟨rfl, b1⟩
    obtain ⟨b1c, b1f⟩ := bcell b1
    have z1 := b1.size
    try simp only [World.size_alloc] at z1
    have B1 : Below w.heap.size w w1 := Below.chain (Below.refl _ _) (by go_grown) b1 (by go_size)
    have y10 : w.heap.size < w1.heap.size := by omega
    have y11 : w.heap.size + 1 < w1.heap.size := by omega
    go_wp2_with fail
    refine (implConj_any _ _ _ _ _).mono ?_
    rintro e w2 ⟨rfl, b2⟩
    have z2 := b2.size
    try simp only [World.size_alloc] at z2
    have C2 := Below.chain b1 (by go_grown) b2 (by go_size)
    have B2 : Below w.heap.size w w2 := Below.chain B1 (by go_grown) b2 (by go_size)
    obtain ⟨b2c, b2f⟩ := bcell b2
    obtain ⟨C2c, C2f⟩ := bcellB C2
    have y20 : w.heap.size < w2.heap.size := by omega
    have y21 : w.heap.size + 1 < w2.heap.size := by omega
    try (have v21 : w1.heap.size < w2.heap.size := by omega)
    rw [Hc.out]
    go_wp2
    refine bodyPost_ret (by simp [results, Try.results117, go_sem, C2c, y21, conjRes, hx, rI_t]) rfl ⟨rfl, ?_⟩
    go_grown
end Go.Proofs.Ytcmkkjdleihjfaa
