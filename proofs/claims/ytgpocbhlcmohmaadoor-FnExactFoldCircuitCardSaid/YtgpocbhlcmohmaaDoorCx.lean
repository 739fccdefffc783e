/- Circuits by value: the laws' conversions, comparison of equals, marks. -/
import Derived.Test.YtgpocbhlcmohmaaDoorGs
namespace Go.Proofs.YtgpocbhlcmohmaaDoor
open Go.RowKit

abbrev cv (q : Int) (A : Option Addr) (n cap : Nat) : Value := .agg #[.int .i64 q, .slice A n cap]

set_option maxHeartbeats 1000000 in
theorem szCircuit_any (q : Int) (A : Option Addr) (n cap : Nat) (left : Int) (w : World) (hl : 0 ≤ left ∧ left ≤ 1048576) (hn : n ≤ 9223372036854775807) :
    Calls Tryd.prog 28 #[cv q A n cap, .int .i64 left] w fun e w' => e = .returned (.int .i64 (if left < n then -1 else left - n)) ∧ Below w.heap.size w w' := by
  by_cases h : left < n
  · rw [if_pos h]
    go_enter Tryd.func28, Tryd.ntmps28
    go_wp2_with fail
    refine (szGateS_any _ _ _ _ _ hl hn).mono ?_
    rintro e w1 ⟨rfl, rfl⟩
    rw [if_pos h]
    go_wp2
    go_ret
    refine ⟨rfl, ?_⟩
    go_grown
  · rw [if_neg h]
    go_enter Tryd.func28, Tryd.ntmps28
    go_wp2_with fail
    refine (szGateS_any _ _ _ _ _ hl hn).mono ?_
    rintro e w1 ⟨rfl, rfl⟩
    rw [if_neg (by omega)]
    go_wp2
    go_ret
    refine ⟨rfl, ?_⟩
    go_grown

set_option maxHeartbeats 1000000 in
theorem toCircuit_any (q : Int) (A : Option Addr) (cap : Nat) (xs : List G3) (w : World) (hn : xs.length ≤ 1048576) (hx : Hid (FlatAt w A (flatG xs))) :
    Calls Tryd.prog 30 #[cv q A xs.length cap] w fun e w' => ∃ g, e = .returned (cv q (some ⟨g, 0, none⟩) xs.length xs.length) ∧ FlatIn w' (some ⟨g, 0, none⟩) (flatG xs) w.heap.size w'.heap.size ∧ Below w.heap.size w w' := by
  go_enter Tryd.func30, Tryd.ntmps30
  go_wp2_with fail
  refine (toGateS_any _ _ _ _ hn (by refine hx.out.below ?_; go_grown)).mono ?_
  rintro e w1 ⟨g, rfl, hf, b1⟩
  obtain ⟨b1c, b1f⟩ := bcell b1
  have z1 := b1.size
  try simp only [World.size_alloc] at z1
  have B1 : Below w.heap.size w w1 := Below.chain (Below.refl _ _) (by go_grown) b1 (by go_size)
  have y10 : w.heap.size < w1.heap.size := by omega
  have y11 : w.heap.size + 1 < w1.heap.size := by omega
  have y12 : w.heap.size + 2 < w1.heap.size := by omega
  have Hf := Lib.hid hf
  clear hf
  go_wp2
  refine bodyPost_ret (by simp [results, Tryd.results30, go_sem, b1c]) rfl ⟨g, rfl, ?_, ?_⟩
  · refine FlatIn.mono (lo := w.heap.size + 1 + 1 + 1) (hi := w1.heap.size) ?_ (by omega) (by go_size) (Nat.le_refl _)
    repeat (refine FlatIn.setFar ?_ (by dsimp only; omega) _)
    have h := Hf.out
    simp only [World.size_alloc] at h
    exact h
  · go_grown

set_option maxHeartbeats 1000000 in
theorem eqCircuit_same (q : Int) (A A' : Option Addr) (cap cap' : Nat) (xs : List G3) (w : World) (hn : xs.length ≤ 9223372036854775807) (hx : Hid (FlatAt w A (flatG xs))) (hy : Hid (FlatAt w A' (flatG xs))) :
    Calls Tryd.prog 32 #[cv q A xs.length cap, cv q A' xs.length cap'] w fun e w' => e = .returned (.bool true) ∧ Below w.heap.size w w' := by
  go_enter Tryd.func32, Tryd.ntmps32
  go_wp2_with fail
  refine (eqGateS_same _ _ _ _ xs _ hn (by refine hx.out.below ?_; go_grown) (by refine hy.out.below ?_; go_grown)).mono ?_
  rintro e w1 ⟨rfl, b1⟩
  have B1 : Below w.heap.size w w1 := Below.chain (Below.refl _ _) (by go_grown) b1 (by go_size)
  go_wp2
  go_ret
  refine ⟨rfl, ?_⟩
  go_grown

end Go.Proofs.YtgpocbhlcmohmaaDoor
