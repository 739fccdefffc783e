/- The ring's pure functions of the reference; the laws' conversions. -/
import Derived.Test.YtlihnipbdckmkaaAll
namespace Go.Proofs.Ytlihnipbdckmkaa
open Go.RowKit

abbrev rv (a b c d : Int) : Value := .agg #[.int .i64 a, .int .i64 b, .int .i64 c, .int .i64 d]

theorem rOk_iff {a b c d : Int} : rOk a b c d = true ↔ (-1000000000 ≤ a ∧ a ≤ 1000000000) ∧ (-1000000000 ≤ b ∧ b ≤ 1000000000) ∧ (-1000000000 ≤ c ∧ c ≤ 1000000000) ∧ (-1000000000 ≤ d ∧ d ≤ 1000000000) := by
  simp [rOk, coefB_iff, and_assoc]

theorem ret_rv {a b c d a' b' c' d' : Int} (h1 : a = a') (h2 : b = b') (h3 : c = c') (h4 : d = d') : Ending.returned (rv a b c d) = .returned (rv a' b' c' d') := by rw [h1, h2, h3, h4]

set_option maxHeartbeats 400000 in
theorem eqRing_any (a b c d a' b' c' d' : Int) (w : World) :
    Calls Try.prog 76 #[rv a b c d, rv a' b' c' d'] w fun e w' => e = .returned (.bool (a == a' && b == b' && c == c' && d == d')) ∧ Below w.heap.size w w' := by
  by_cases h1 : a = a'
  · by_cases h2 : b = b'
    · by_cases h3 : c = c'
      · by_cases h4 : d = d'
        · subst h1 h2 h3 h4
          go_enter Try.func76, Try.ntmps76
          go_wp2
          go_returns
          refine ⟨ret_bool (by simp), ?_⟩
          go_grown
        · subst h1 h2 h3
          go_enter Try.func76, Try.ntmps76
          go_wp2
          go_returns
          refine ⟨ret_bool (by simp [h4]), ?_⟩
          go_grown
      · subst h1 h2
        go_enter Try.func76, Try.ntmps76
        go_wp2
        go_returns
        refine ⟨ret_bool (by simp [h3]), ?_⟩
        go_grown
    · subst h1
      go_enter Try.func76, Try.ntmps76
      go_wp2
      go_returns
      refine ⟨ret_bool (by simp [h2]), ?_⟩
      go_grown
  · go_enter Try.func76, Try.ntmps76
    go_wp2
    go_returns
    refine ⟨ret_bool (by simp [h1]), ?_⟩
    go_grown

set_option maxHeartbeats 400000 in
theorem l1Neg_any (a b c d : Int) (w : World) (hx : rOk a b c d = true) :
    Calls Try.prog 81 #[rv a b c d] w fun e w' => e = .returned (rv (-a) (-b) (-c) (-d)) ∧ Below w.heap.size w w' := by
  obtain ⟨⟨_, _⟩, ⟨_, _⟩, ⟨_, _⟩, ⟨_, _⟩⟩ := rOk_iff.1 hx
  clear hx
  go_enter Try.func81, Try.ntmps81
  go_wp2
  go_returns
  refine ⟨rfl, ?_⟩
  go_grown

end Go.Proofs.Ytlihnipbdckmkaa
