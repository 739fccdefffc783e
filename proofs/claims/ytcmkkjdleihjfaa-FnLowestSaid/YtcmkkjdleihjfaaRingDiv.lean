/- Divisibility by the square root of 2, and DivRootTwo, of the program and of the reference. -/
import Derived.Test.YtcmkkjdleihjfaaRingSpec
namespace Go.Proofs.Ytcmkkjdleihjfaa
open Go.RowKit

def evenB (a b c d : Int) : Bool := ((a + c).tmod 2 == 0) && ((b + d).tmod 2 == 0)
def divOk (a b c d : Int) : Bool := rOk a b c d && evenB a b c d
def divRes (a b c d : Int) : Value := .tuple #[rv (rI (divOk a b c d) ((b - d).tdiv 2)) (rI (divOk a b c d) ((a + c).tdiv 2)) (rI (divOk a b c d) ((b + d).tdiv 2)) (rI (divOk a b c d) ((c - a).tdiv 2)), .bool (divOk a b c d)]

set_option maxHeartbeats 1000000 in
theorem isEven_any (a b c d : Int) (w : World) (hx : rOk a b c d = true) :
    Calls Try.prog 75 #[rv a b c d] w fun e w' => e = .returned (.bool (evenB a b c d)) ∧ Below w.heap.size w w' := by
  obtain ⟨⟨_, _⟩, ⟨_, _⟩, ⟨_, _⟩, ⟨_, _⟩⟩ := rOk_iff.1 hx
  clear hx
  rcases h1 : ((a + c).tmod 2 == 0) with _ | _
  · go_enter Try.func75, Try.ntmps75
    go_wp2
    go_ret
    refine ⟨ret_bool (by simp only [evenB, h1, Bool.false_and]), ?_⟩
    go_grown
  rcases h2 : ((b + d).tmod 2 == 0) with _ | _
  all_goals
    go_enter Try.func75, Try.ntmps75
    go_wp2
    go_ret
    refine ⟨ret_bool (by simp only [evenB, h1, h2, Bool.and_false, Bool.and_true]), ?_⟩
    go_grown

set_option maxHeartbeats 1000000 in
theorem l1Even_any (a b c d : Int) (w : World) (hx : rOk a b c d = true) :
    Calls Try.prog 114 #[rv a b c d] w fun e w' => e = .returned (.bool (evenB a b c d)) ∧ Below w.heap.size w w' := by
  obtain ⟨⟨_, _⟩, ⟨_, _⟩, ⟨_, _⟩, ⟨_, _⟩⟩ := rOk_iff.1 hx
  clear hx
  rcases h1 : ((a + c).tmod 2 == 0) with _ | _
  · go_enter Try.func114, Try.ntmps114
    go_wp2
    go_ret
    refine ⟨ret_bool (by simp only [evenB, h1, Bool.false_and]), ?_⟩
    go_grown
  rcases h2 : ((b + d).tmod 2 == 0) with _ | _
  all_goals
    go_enter Try.func114, Try.ntmps114
    go_wp2
    go_ret
    refine ⟨ret_bool (by simp only [evenB, h1, h2, Bool.and_false, Bool.and_true]), ?_⟩
    go_grown

set_option maxHeartbeats 1000000 in
theorem l1Half_any (a b c d : Int) (w : World) (hx : rOk a b c d = true) :
    Calls Try.prog 115 #[rv a b c d] w fun e w' => e = .returned (rv ((b - d).tdiv 2) ((a + c).tdiv 2) ((b + d).tdiv 2) ((c - a).tdiv 2)) ∧ Below w.heap.size w w' := by
  have Hx := Lib.hid hx
  obtain ⟨⟨_, _⟩, ⟨_, _⟩, ⟨_, _⟩, ⟨_, _⟩⟩ := rOk_iff.1 hx
  clear hx
  go_enter Try.func115, Try.ntmps115
  go_wp2_with fail
  refine (l1Root_any _ _ _ _ _ Hx.out).mono ?_
  rintro e w1 ⟨rfl, b1⟩
  obtain ⟨b1c, b1f⟩ := bcell b1
  have z1 := b1.size
  try simp only [World.size_alloc] at z1
  have B1 : Below w.heap.size w w1 := Below.chain (Below.refl _ _) (by go_grown) b1 (by go_size)
  have y10 : w.heap.size < w1.heap.size := by omega
  have y11 : w.heap.size + 1 < w1.heap.size := by omega
  go_wp2
  refine bodyPost_ret (by simp [results, Try.results115, go_sem, b1c, y11]) rfl ⟨rfl, ?_⟩
  go_grown

theorem tdiv2_bd {n : Int} (h1 : -2000000000 ≤ n) (h2 : n ≤ 2000000000) : -1000000000 ≤ n.tdiv 2 ∧ n.tdiv 2 ≤ 1000000000 := by
  rcases Int.le_total 0 n with h | h
  · rw [Int.tdiv_eq_ediv_of_nonneg h]
    omega
  · have e : n.tdiv 2 = -((-n) / 2) := by
      rw [← Int.tdiv_eq_ediv_of_nonneg (by omega : 0 ≤ -n), Int.neg_tdiv, Int.neg_neg]
    rw [e]
    omega

theorem half_ok {a b c d : Int} (hx : rOk a b c d = true) : rOk ((b - d).tdiv 2) ((a + c).tdiv 2) ((b + d).tdiv 2) ((c - a).tdiv 2) = true := by
  have := rOk_iff.1 hx
  rw [rOk_iff]
  exact ⟨tdiv2_bd (by omega) (by omega), tdiv2_bd (by omega) (by omega), tdiv2_bd (by omega) (by omega), tdiv2_bd (by omega) (by omega)⟩

set_option maxHeartbeats 1000000 in
theorem implDiv2_any (a b c d : Int) (w : World) :
    Calls Try.prog 33 #[rv a b c d] w fun e w' => e = .returned (divRes a b c d) ∧ Below w.heap.size w w' := by
  rcases hx : rOk a b c d with _ | _
  · go_enter Try.func33, Try.ntmps33
    go_wp2_with fail
    refine (IsValidRing_any _ _ _ _ _).mono ?_
    rintro e w1 ⟨rfl, b1⟩
    obtain ⟨b1c, b1f⟩ := bcell b1
    have z1 := b1.size
    try simp only [World.size_alloc] at z1
    have B1 : Below w.heap.size w w1 := Below.chain (Below.refl _ _) (by go_grown) b1 (by go_size)
    have y10 : w.heap.size < w1.heap.size := by omega
    have y11 : w.heap.size + 1 < w1.heap.size := by omega
    go_wp2
    refine bodyPost_ret (by simp [results, Try.results33, go_sem, b1c, divRes, divOk, hx, rI_f]) rfl ⟨rfl, ?_⟩
    go_grown
  have Hx := Lib.hid hx
  rcases he : evenB a b c d with _ | _
  · go_enter Try.func33, Try.ntmps33
    go_wp2_with fail
    refine (IsValidRing_any _ _ _ _ _).mono ?_
    rintro e w1 ⟨rfl, b1⟩
    obtain ⟨b1c, b1f⟩ := bcell b1
    have z1 := b1.size
    try simp only [World.size_alloc] at z1
    have B1 : Below w.heap.size w w1 := Below.chain (Below.refl _ _) (by go_grown) b1 (by go_size)
    have y10 : w.heap.size < w1.heap.size := by omega
    have y11 : w.heap.size + 1 < w1.heap.size := by omega
    go_wp2_with fail
    refine (isEven_any _ _ _ _ _ Hx.out).mono ?_
    rintro e w2 ⟨rfl, b2⟩
    have z2 := b2.size
    try simp only [World.size_alloc] at z2
    have C2 := Below.chain b1 (by go_grown) b2 (by go_size)
    have B2 : Below w.heap.size w w2 := Below.chain B1 (by go_grown) b2 (by go_size)
    obtain ⟨b2c, b2f⟩ := bcell b2
    obtain ⟨C2c, C2f⟩ := bcellB C2
    have y20 : w.heap.size < w2.heap.size := by omega
    have y21 : w.heap.size + 1 < w2.heap.size := by omega
    try (have v21 : w1.heap.size < w2.heap.size := by omega)
    go_wp2
    refine bodyPost_ret (by simp [results, Try.results33, go_sem, C2c, divRes, divOk, hx, he, rI_f]) rfl ⟨rfl, ?_⟩
    go_grown
  · have Hh := Lib.hid (half_ok hx)
    obtain ⟨⟨_, _⟩, ⟨_, _⟩, ⟨_, _⟩, ⟨_, _⟩⟩ := rOk_iff.1 hx
    go_enter Try.func33, Try.ntmps33
    go_wp2_with fail
    refine (IsValidRing_any _ _ _ _ _).mono ?_
    rintro e w1 ⟨rfl, b1⟩
    obtain ⟨b1c, b1f⟩ := bcell b1
    have z1 := b1.size
    try simp only [World.size_alloc] at z1
    have B1 : Below w.heap.size w w1 := Below.chain (Below.refl _ _) (by go_grown) b1 (by go_size)
    have y10 : w.heap.size < w1.heap.size := by omega
    have y11 : w.heap.size + 1 < w1.heap.size := by omega
    go_wp2_with fail
    refine (isEven_any _ _ _ _ _ Hx.out).mono ?_
    rintro e w2 ⟨rfl, b2⟩
    have z2 := b2.size
    try simp only [World.size_alloc] at z2
    have C2 := Below.chain b1 (by go_grown) b2 (by go_size)
    have B2 : Below w.heap.size w w2 := Below.chain B1 (by go_grown) b2 (by go_size)
    obtain ⟨b2c, b2f⟩ := bcell b2
    obtain ⟨C2c, C2f⟩ := bcellB C2
    have y20 : w.heap.size < w2.heap.size := by omega
    have y21 : w.heap.size + 1 < w2.heap.size := by omega
    try (have v21 : w1.heap.size < w2.heap.size := by omega)
    go_wp2_with fail
    refine (ringIf1 _ a b c d _ _ _ _ _ (heap_top _ _ (by simp))).mono ?_
    rintro e w3 ⟨rfl, b3⟩
    obtain ⟨b3c, b3f⟩ := bcellB b3
    have B3 : Below w.heap.size w w3 := Below.trans (by go_grown) (b3.mono (by go_size))
    unfold ringRes
    go_wp2
    refine bodyPost_ret (by simp [results, Try.results33, go_sem, b3c, y21, C2c, divRes, divOk, hx, he, Hh.out, rI_t]) rfl ⟨rfl, ?_⟩
    go_grown
end Go.Proofs.Ytcmkkjdleihjfaa
