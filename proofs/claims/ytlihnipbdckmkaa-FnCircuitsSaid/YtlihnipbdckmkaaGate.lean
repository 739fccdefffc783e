/- Gates: validity, the laws' conversions, InverseGate. -/
import Derived.Test.YtlihnipbdckmkaaNum
namespace Go.Proofs.Ytlihnipbdckmkaa
open Go.RowKit

abbrev tv (a b c : Int) : Value := .agg #[.int .i64 a, .int .i64 b, .int .i64 c]
/-- a gate for n qubits, by its kind -/
def gateB (n k a b : Int) : Bool :=
  if inB k 1 8 then inB a 0 (n - 1) && b == 0
  else if inB k 9 11 then inB a 0 (n - 1) && inB b 0 (n - 1) && a != b
  else k == 12 && a == 0 && b == 0

set_option maxHeartbeats 400000 in
theorem toGate_any (a b c : Int) (w : World) :
    Calls Try.prog 6 #[tv a b c] w fun e w' => e = .returned (tv a b c) ∧ Below w.heap.size w w' := by
  go_enter Try.func6, Try.ntmps6
  go_wp2
  go_returns
  refine ⟨rfl, ?_⟩
  go_grown

set_option maxHeartbeats 400000 in
theorem isTwo_any (k : Int) (w : World) :
    Calls Try.prog 31 #[.int .i64 k] w fun e w' => e = .returned (.bool (inB k 9 11)) ∧ w = w' := by
  go_enter Try.func31, Try.ntmps31
  go_wp2_with (go_at_call 56; refine (within_any _ _ _ _).mono ?_; rintro e w' ⟨rfl, rfl⟩)
  go_ret
  exact ⟨rfl, rfl⟩

theorem i12a : inB 12 1 8 = false := rfl
theorem i12b : inB 12 9 11 = false := rfl

set_option maxHeartbeats 2000000 in
theorem l4Gate_any (n k a b : Int) (w : World) (hn1 : 1 ≤ n) (hn2 : n ≤ 5) :
    Calls Try.prog 25 #[.int .i64 n, tv k a b] w fun e w' => e = .returned (.bool (gateB n k a b)) ∧ Below w.heap.size w w' := by
  go_enter Try.func25, Try.ntmps25
  go_wp2_with (go_at_call 24; refine (l1In_any _ _ _ _).mono ?_; rintro e w' ⟨rfl, rfl⟩)
  all_goals
    go_ret
    refine ⟨ret_bool ?_, ?_⟩
    · simp [gateB, i12a, i12b, *]
    · go_grown

def validB (n k a b : Int) : Bool := inB n 1 5 && gateB n k a b

set_option maxHeartbeats 2000000 in
theorem implValidGate_any (n k a b : Int) (w : World) :
    Calls Try.prog 27 #[.int .i64 n, tv k a b] w fun e w' => e = .returned (.bool (validB n k a b)) ∧ Below w.heap.size w w' := by
  rcases hn : inB n 1 5 with _ | _
  · go_enter Try.func27, Try.ntmps27
    go_wp2_with fail
    refine (within_any _ _ _ _).mono ?_
    rintro e w' ⟨rfl, rfl⟩
    go_wp2
    go_ret
    refine ⟨ret_bool (by simp [validB, hn]), ?_⟩
    go_grown
  rcases hk : inB k 1 12 with _ | _
  · have hg : gateB n k a b = false := by
      have := inB_f.1 hk
      have h1 : inB k 1 8 = false := inB_f.2 (by omega)
      have h2 : inB k 9 11 = false := inB_f.2 (by omega)
      simp [gateB, h1, h2]
      omega
    have Hg := Lib.hid hg
    clear hg
    go_enter Try.func27, Try.ntmps27
    go_wp2_with fail
    refine (within_any _ _ _ _).mono ?_
    rintro e w' ⟨rfl, rfl⟩
    go_wp2_with fail
    refine (within_any _ _ _ _).mono ?_
    rintro e w' ⟨rfl, rfl⟩
    go_wp2
    go_ret
    refine ⟨ret_bool (by simp [validB, Hg.out]), ?_⟩
    go_grown
  obtain ⟨hn1, hn2⟩ := inB_t.1 hn
  have Hk := Lib.hid (inB_t.1 hk)
  by_cases h12 : k = 12
  · subst h12
    go_enter Try.func27, Try.ntmps27
    go_wp2_with fail
    refine (within_any _ _ _ _).mono ?_
    rintro e w' ⟨rfl, rfl⟩
    go_wp2_with fail
    refine (within_any _ _ _ _).mono ?_
    rintro e w' ⟨rfl, rfl⟩
    go_wp2
    all_goals
      go_ret
      refine ⟨ret_bool (by simp [validB, gateB, i12a, i12b, *]), ?_⟩
      go_grown
  · have h12b : (k == 12) = false := by simpa using h12
    clear h12
    rcases h2 : inB k 9 11 with _ | _
    · have hg : gateB n k a b = (inB a 0 (n - 1) && b == 0) := by
        have h1 : inB k 1 8 = true := inB_t.2 (by have := Hk.out; have := inB_f.1 h2; simp at h12b; omega)
        simp [gateB, h1]
      have Hg := Lib.hid hg
      clear hg
      go_enter Try.func27, Try.ntmps27
      go_wp2_with (first | (go_at_call 56; refine (within_any _ _ _ _).mono ?_; rintro e w' ⟨rfl, rfl⟩) | (go_at_call 31; refine (isTwo_any _ _).mono ?_; rintro e w' ⟨rfl, rfl⟩))
      all_goals
        go_ret
        refine ⟨ret_bool (by simp [validB, Hg.out, *]), ?_⟩
        go_grown
    · have hg : gateB n k a b = (inB a 0 (n - 1) && inB b 0 (n - 1) && a != b) := by
        have h1 : inB k 1 8 = false := inB_f.2 (by have := inB_t.1 h2; omega)
        simp [gateB, h1, h2]
      have Hg := Lib.hid hg
      clear hg
      go_enter Try.func27, Try.ntmps27
      go_wp2_with (first | (go_at_call 56; refine (within_any _ _ _ _).mono ?_; rintro e w' ⟨rfl, rfl⟩) | (go_at_call 31; refine (isTwo_any _ _).mono ?_; rintro e w' ⟨rfl, rfl⟩))
      all_goals
        go_ret
        refine ⟨ret_bool (by simp [validB, Hg.out, *]), ?_⟩
        go_grown

def invK (k : Int) : Int := if k = 5 then 6 else if k = 6 then 5 else if k = 7 then 8 else if k = 8 then 7 else k
def invN (k : Int) : Int := if k = 12 then 7 else 1
def invRes (k a b : Int) : Value := .tuple #[tv (rI (gateB 5 k a b) (invK k)) (rI (gateB 5 k a b) a) (rI (gateB 5 k a b) b), .int .i64 (rI (gateB 5 k a b) (invN k)), .bool (gateB 5 k a b)]

set_option maxHeartbeats 2000000 in
theorem implInv_any (k a b : Int) (w : World) :
    Calls Try.prog 53 #[tv k a b] w fun e w' => e = .returned (invRes k a b) ∧ Below w.heap.size w w' := by
  have hv : validB 5 k a b = gateB 5 k a b := by simp [validB, inB]
  rcases hg : gateB 5 k a b with _ | _
  · rw [hg] at hv
    go_enter Try.func53, Try.ntmps53
    go_wp2_with fail
    refine (implValidGate_any _ _ _ _ _).mono ?_
    rintro e w1 ⟨rfl, b1⟩
    obtain ⟨b1c, b1f⟩ := bcell b1
    have z1 := b1.size
    try simp only [World.size_alloc] at z1
    have B1 : Below w.heap.size w w1 := Below.chain (Below.refl _ _) (by go_grown) b1 (by go_size)
    have y10 : w.heap.size < w1.heap.size := by omega
    have y11 : w.heap.size + 1 < w1.heap.size := by omega
    go_wp2
    refine bodyPost_ret (by simp [results, Try.results53, go_sem, b1c, invRes, hg, rI_f]) rfl ⟨rfl, ?_⟩
    go_grown
  rw [hg] at hv
  by_cases h5 : k = 5
  · subst h5
    go_enter Try.func53, Try.ntmps53
    go_wp2_with fail
    refine (implValidGate_any _ _ _ _ _).mono ?_
    rintro e w1 ⟨rfl, b1⟩
    obtain ⟨b1c, b1f⟩ := bcell b1
    have z1 := b1.size
    try simp only [World.size_alloc] at z1
    have B1 : Below w.heap.size w w1 := Below.chain (Below.refl _ _) (by go_grown) b1 (by go_size)
    have y10 : w.heap.size < w1.heap.size := by omega
    have y11 : w.heap.size + 1 < w1.heap.size := by omega
    have c0 : w1.cell? ⟨w.heap.size, 0, none⟩ = some (.int .i64 5) := by go_simp
    go_wp2
    refine bodyPost_ret (by simp [results, Try.results53, go_sem, b1c, invRes, invK, invN, hg, rI_t]) rfl ⟨rfl, ?_⟩
    go_grown
  by_cases h6 : k = 6
  · subst h6
    go_enter Try.func53, Try.ntmps53
    go_wp2_with fail
    refine (implValidGate_any _ _ _ _ _).mono ?_
    rintro e w1 ⟨rfl, b1⟩
    obtain ⟨b1c, b1f⟩ := bcell b1
    have z1 := b1.size
    try simp only [World.size_alloc] at z1
    have B1 : Below w.heap.size w w1 := Below.chain (Below.refl _ _) (by go_grown) b1 (by go_size)
    have y10 : w.heap.size < w1.heap.size := by omega
    have y11 : w.heap.size + 1 < w1.heap.size := by omega
    have c0 : w1.cell? ⟨w.heap.size, 0, none⟩ = some (.int .i64 6) := by go_simp
    go_wp2
    refine bodyPost_ret (by simp [results, Try.results53, go_sem, b1c, invRes, invK, invN, hg, rI_t]) rfl ⟨rfl, ?_⟩
    go_grown
  by_cases h7 : k = 7
  · subst h7
    go_enter Try.func53, Try.ntmps53
    go_wp2_with fail
    refine (implValidGate_any _ _ _ _ _).mono ?_
    rintro e w1 ⟨rfl, b1⟩
    obtain ⟨b1c, b1f⟩ := bcell b1
    have z1 := b1.size
    try simp only [World.size_alloc] at z1
    have B1 : Below w.heap.size w w1 := Below.chain (Below.refl _ _) (by go_grown) b1 (by go_size)
    have y10 : w.heap.size < w1.heap.size := by omega
    have y11 : w.heap.size + 1 < w1.heap.size := by omega
    have c0 : w1.cell? ⟨w.heap.size, 0, none⟩ = some (.int .i64 7) := by go_simp
    go_wp2
    refine bodyPost_ret (by simp [results, Try.results53, go_sem, b1c, invRes, invK, invN, hg, rI_t]) rfl ⟨rfl, ?_⟩
    go_grown
  by_cases h8 : k = 8
  · subst h8
    go_enter Try.func53, Try.ntmps53
    go_wp2_with fail
    refine (implValidGate_any _ _ _ _ _).mono ?_
    rintro e w1 ⟨rfl, b1⟩
    obtain ⟨b1c, b1f⟩ := bcell b1
    have z1 := b1.size
    try simp only [World.size_alloc] at z1
    have B1 : Below w.heap.size w w1 := Below.chain (Below.refl _ _) (by go_grown) b1 (by go_size)
    have y10 : w.heap.size < w1.heap.size := by omega
    have y11 : w.heap.size + 1 < w1.heap.size := by omega
    have c0 : w1.cell? ⟨w.heap.size, 0, none⟩ = some (.int .i64 8) := by go_simp
    go_wp2
    refine bodyPost_ret (by simp [results, Try.results53, go_sem, b1c, invRes, invK, invN, hg, rI_t]) rfl ⟨rfl, ?_⟩
    go_grown
  by_cases h12 : k = 12
  · subst h12
    go_enter Try.func53, Try.ntmps53
    go_wp2_with fail
    refine (implValidGate_any _ _ _ _ _).mono ?_
    rintro e w1 ⟨rfl, b1⟩
    obtain ⟨b1c, b1f⟩ := bcell b1
    have z1 := b1.size
    try simp only [World.size_alloc] at z1
    have B1 : Below w.heap.size w w1 := Below.chain (Below.refl _ _) (by go_grown) b1 (by go_size)
    have y10 : w.heap.size < w1.heap.size := by omega
    have y11 : w.heap.size + 1 < w1.heap.size := by omega
    go_wp2
    refine bodyPost_ret (by simp [results, Try.results53, go_sem, b1c, invRes, invK, invN, hg, rI_t]) rfl ⟨rfl, ?_⟩
    go_grown
  · have e1 : invK k = k := by simp [invK, h5, h6, h7, h8]
    have e2 : invN k = 1 := by simp [invN, h12]
    have E1 := Lib.hid e1
    have E2 := Lib.hid e2
    clear e1 e2
    have f5 : (k == 5) = false := by simpa using h5
    have f6 : (k == 6) = false := by simpa using h6
    have f7 : (k == 7) = false := by simpa using h7
    have f8 : (k == 8) = false := by simpa using h8
    have f12 : (k == 12) = false := by simpa using h12
    clear h5 h6 h7 h8 h12
    go_enter Try.func53, Try.ntmps53
    go_wp2_with fail
    refine (implValidGate_any _ _ _ _ _).mono ?_
    rintro e w1 ⟨rfl, b1⟩
    obtain ⟨b1c, b1f⟩ := bcell b1
    have z1 := b1.size
    try simp only [World.size_alloc] at z1
    have B1 : Below w.heap.size w w1 := Below.chain (Below.refl _ _) (by go_grown) b1 (by go_size)
    have y10 : w.heap.size < w1.heap.size := by omega
    have y11 : w.heap.size + 1 < w1.heap.size := by omega
    go_wp2
    refine bodyPost_ret (by simp [results, Try.results53, go_sem, b1c, invRes, E1.out, E2.out, hg, rI_t]) rfl ⟨rfl, ?_⟩
    go_grown
end Go.Proofs.Ytlihnipbdckmkaa
