/- Gates: validity, the laws' conversions, InverseGate. -/
import Derived.Test.YtgpocbhlcmohmaaDoorNum
namespace Go.Proofs.YtgpocbhlcmohmaaDoor
open Go.RowKit

abbrev tv (a b c : Int) : Value := .agg #[.int .i64 a, .int .i64 b, .int .i64 c]
/-- a gate for n qubits, by its kind -/
def gateB (n k a b : Int) : Bool :=
  if inB k 1 8 then inB a 0 (n - 1) && b == 0
  else if inB k 9 11 then inB a 0 (n - 1) && inB b 0 (n - 1) && a != b
  else k == 12 && a == 0 && b == 0

set_option maxHeartbeats 400000 in
theorem toGate_any (a b c : Int) (w : World) :
    Calls Tryd.prog 21 #[tv a b c] w fun e w' => e = .returned (tv a b c) ∧ Below w.heap.size w w' := by
  go_enter Tryd.func21, Tryd.ntmps21
  go_wp2
  go_returns
  refine ⟨rfl, ?_⟩
  go_grown

set_option maxHeartbeats 1000000 in
theorem eqGate_any (a b c a' b' c' : Int) (w : World) :
    Calls Tryd.prog 88 #[tv a b c, tv a' b' c'] w fun e w' => e = .returned (.bool (a == a' && b == b' && c == c')) ∧ Below w.heap.size w w' := by
  by_cases h1 : a = a'
  · by_cases h2 : b = b'
    · by_cases h3 : c = c'
      · subst h1 h2 h3
        go_enter Tryd.func88, Tryd.ntmps88
        go_wp2
        go_returns
        refine ⟨ret_bool (by simp), ?_⟩
        go_grown
      · subst h1 h2
        go_enter Tryd.func88, Tryd.ntmps88
        go_wp2
        go_returns
        refine ⟨ret_bool (by simp [h3]), ?_⟩
        go_grown
    · subst h1
      go_enter Tryd.func88, Tryd.ntmps88
      go_wp2
      go_returns
      refine ⟨ret_bool (by simp [h2]), ?_⟩
      go_grown
  · go_enter Tryd.func88, Tryd.ntmps88
    go_wp2
    go_returns
    refine ⟨ret_bool (by simp [h1]), ?_⟩
    go_grown

set_option maxHeartbeats 400000 in
theorem isTwo_any (k : Int) (w : World) :
    Calls Tryd.prog 57 #[.int .i64 k] w fun e w' => e = .returned (.bool (inB k 9 11)) ∧ w = w' := by
  go_enter Tryd.func57, Tryd.ntmps57
  go_wp2_with (go_at_call 74; refine (within_any _ _ _ _).mono ?_; rintro e w' ⟨rfl, rfl⟩)
  go_ret
  exact ⟨rfl, rfl⟩

theorem i12a : inB 12 1 8 = false := rfl
theorem i12b : inB 12 9 11 = false := rfl

set_option maxHeartbeats 2000000 in
theorem l4Gate_any (n k a b : Int) (w : World) (hn1 : 1 ≤ n) (hn2 : n ≤ 5) :
    Calls Tryd.prog 53 #[.int .i64 n, tv k a b] w fun e w' => e = .returned (.bool (gateB n k a b)) ∧ Below w.heap.size w w' := by
  go_enter Tryd.func53, Tryd.ntmps53
  go_wp2_with (go_at_call 70; refine (l1In_any _ _ _ _).mono ?_; rintro e w' ⟨rfl, rfl⟩)
  all_goals
    go_ret
    refine ⟨ret_bool ?_, ?_⟩
    · simp [gateB, i12a, i12b, *]
    · go_grown

def validB (n k a b : Int) : Bool := inB n 1 5 && gateB n k a b

set_option maxHeartbeats 2000000 in
theorem implValidGate_any (n k a b : Int) (w : World) :
    Calls Tryd.prog 55 #[.int .i64 n, tv k a b] w fun e w' => e = .returned (.bool (validB n k a b)) ∧ Below w.heap.size w w' := by
  rcases hn : inB n 1 5 with _ | _
  · go_enter Tryd.func55, Tryd.ntmps55
    go_wp2_with fail
    refine (within_any _ _ _ _).mono ?_
    rintro e w' ⟨rfl, rfl⟩
    go_wp2
    go_ret
    refine ⟨ret_bool (by simp [validB, hn]), ?_⟩
    go_grown
  rcases hk : inB k 1 12 with _ | _
  · have hg : gateB n k a b = false := by
      have := inB_f.1 hk
      have h1 : inB k 1 8 = false := inB_f.2 (by omega)
      have h2 : inB k 9 11 = false := inB_f.2 (by omega)
      simp [gateB, h1, h2]
      omega
    have Hg := Lib.hid hg
    clear hg
    go_enter Tryd.func55, Tryd.ntmps55
    go_wp2_with fail
    refine (within_any _ _ _ _).mono ?_
    rintro e w' ⟨rfl, rfl⟩
    go_wp2_with fail
    refine (within_any _ _ _ _).mono ?_
    rintro e w' ⟨rfl, rfl⟩
    go_wp2
    go_ret
    refine ⟨ret_bool (by simp [validB, Hg.out]), ?_⟩
    go_grown
  obtain ⟨hn1, hn2⟩ := inB_t.1 hn
  have Hk := Lib.hid (inB_t.1 hk)
  by_cases h12 : k = 12
  · subst h12
    go_enter Tryd.func55, Tryd.ntmps55
    go_wp2_with fail
    refine (within_any _ _ _ _).mono ?_
    rintro e w' ⟨rfl, rfl⟩
    go_wp2_with fail
    refine (within_any _ _ _ _).mono ?_
    rintro e w' ⟨rfl, rfl⟩
    go_wp2
    all_goals
      go_ret
      refine ⟨ret_bool (by simp [validB, gateB, i12a, i12b, *]), ?_⟩
      go_grown
  · have h12b : (k == 12) = false := by simpa using h12
    clear h12
    rcases h2 : inB k 9 11 with _ | _
    · have hg : gateB n k a b = (inB a 0 (n - 1) && b == 0) := by
        have h1 : inB k 1 8 = true := inB_t.2 (by have := Hk.out; have := inB_f.1 h2; simp at h12b; omega)
        simp [gateB, h1]
      have Hg := Lib.hid hg
      clear hg
      go_enter Tryd.func55, Tryd.ntmps55
      go_wp2_with (first | (go_at_call 74; refine (within_any _ _ _ _).mono ?_; rintro e w' ⟨rfl, rfl⟩) | (go_at_call 57; refine (isTwo_any _ _).mono ?_; rintro e w' ⟨rfl, rfl⟩))
      all_goals
        go_ret
        refine ⟨ret_bool (by simp [validB, Hg.out, *]), ?_⟩
        go_grown
    · have hg : gateB n k a b = (inB a 0 (n - 1) && inB b 0 (n - 1) && a != b) := by
        have h1 : inB k 1 8 = false := inB_f.2 (by have := inB_t.1 h2; omega)
        simp [gateB, h1, h2]
      have Hg := Lib.hid hg
      clear hg
      go_enter Tryd.func55, Tryd.ntmps55
      go_wp2_with (first | (go_at_call 74; refine (within_any _ _ _ _).mono ?_; rintro e w' ⟨rfl, rfl⟩) | (go_at_call 57; refine (isTwo_any _ _).mono ?_; rintro e w' ⟨rfl, rfl⟩))
      all_goals
        go_ret
        refine ⟨ret_bool (by simp [validB, Hg.out, *]), ?_⟩
        go_grown

def invK (k : Int) : Int := if k = 5 then 6 else if k = 6 then 5 else if k = 7 then 8 else if k = 8 then 7 else k
def invN (k : Int) : Int := if k = 12 then 7 else 1
def invRes (k a b : Int) : Value := .tuple #[tv (rI (gateB 5 k a b) (invK k)) (rI (gateB 5 k a b) a) (rI (gateB 5 k a b) b), .int .i64 (rI (gateB 5 k a b) (invN k)), .bool (gateB 5 k a b)]

end Go.Proofs.YtgpocbhlcmohmaaDoor
