/- Divisibility by the square root of 2, and DivRootTwo, of the program and of the reference. -/
import Derived.Test.YtgpocbhlcmohmaaGreatDoorRingSpec
namespace Go.Proofs.YtgpocbhlcmohmaaGreatDoor
open Go.RowKit

def evenB (a b c d : Int) : Bool := ((a + c).tmod 2 == 0) && ((b + d).tmod 2 == 0)
def divOk (a b c d : Int) : Bool := rOk a b c d && evenB a b c d
def divRes (a b c d : Int) : Value := .tuple #[rv (rI (divOk a b c d) ((b - d).tdiv 2)) (rI (divOk a b c d) ((a + c).tdiv 2)) (rI (divOk a b c d) ((b + d).tdiv 2)) (rI (divOk a b c d) ((c - a).tdiv 2)), .bool (divOk a b c d)]

set_option maxHeartbeats 1000000 in
theorem isEven_any (a b c d : Int) (w : World) (hx : rOk a b c d = true) :
    Calls Tryz.prog 33 #[rv a b c d] w fun e w' => e = .returned (.bool (evenB a b c d)) ∧ Below w.heap.size w w' := by
  obtain ⟨⟨_, _⟩, ⟨_, _⟩, ⟨_, _⟩, ⟨_, _⟩⟩ := rOk_iff.1 hx
  clear hx
  rcases h1 : ((a + c).tmod 2 == 0) with _ | _
  · go_enter Tryz.func33, Tryz.ntmps33
    go_wp2
    go_ret
    refine ⟨ret_bool (by simp only [evenB, h1, Bool.false_and]), ?_⟩
    go_grown
  rcases h2 : ((b + d).tmod 2 == 0) with _ | _
  all_goals
    go_enter Tryz.func33, Tryz.ntmps33
    go_wp2
    go_ret
    refine ⟨ret_bool (by simp only [evenB, h1, h2, Bool.and_false, Bool.and_true]), ?_⟩
    go_grown

set_option maxHeartbeats 1000000 in
theorem l1Even_any (a b c d : Int) (w : World) (hx : rOk a b c d = true) :
    Calls Tryz.prog 55 #[rv a b c d] w fun e w' => e = .returned (.bool (evenB a b c d)) ∧ Below w.heap.size w w' := by
  obtain ⟨⟨_, _⟩, ⟨_, _⟩, ⟨_, _⟩, ⟨_, _⟩⟩ := rOk_iff.1 hx
  clear hx
  rcases h1 : ((a + c).tmod 2 == 0) with _ | _
  · go_enter Tryz.func55, Tryz.ntmps55
    go_wp2
    go_ret
    refine ⟨ret_bool (by simp only [evenB, h1, Bool.false_and]), ?_⟩
    go_grown
  rcases h2 : ((b + d).tmod 2 == 0) with _ | _
  all_goals
    go_enter Tryz.func55, Tryz.ntmps55
    go_wp2
    go_ret
    refine ⟨ret_bool (by simp only [evenB, h1, h2, Bool.and_false, Bool.and_true]), ?_⟩
    go_grown

set_option maxHeartbeats 1000000 in
theorem l1Half_any (a b c d : Int) (w : World) (hx : rOk a b c d = true) :
    Calls Tryz.prog 56 #[rv a b c d] w fun e w' => e = .returned (rv ((b - d).tdiv 2) ((a + c).tdiv 2) ((b + d).tdiv 2) ((c - a).tdiv 2)) ∧ Below w.heap.size w w' := by
  have Hx := Lib.hid hx
  obtain ⟨⟨_, _⟩, ⟨_, _⟩, ⟨_, _⟩, ⟨_, _⟩⟩ := rOk_iff.1 hx
  clear hx
  go_enter Tryz.func56, Tryz.ntmps56
  go_wp2_with fail
  refine (l1Root_any _ _ _ _ _ Hx.out).mono ?_
  rintro e w1 ⟨rfl, b1⟩
  obtain ⟨b1c, b1f⟩ := bcell b1
  have z1 := b1.size
  try simp only [World.size_alloc] at z1
  have B1 : Below w.heap.size w w1 := Below.chain (Below.refl _ _) (by go_grown) b1 (by go_size)
  have y10 : w.heap.size < w1.heap.size := by omega
  have y11 : w.heap.size + 1 < w1.heap.size := by omega
  go_wp2
  refine bodyPost_ret (by simp [results, Tryz.results56, go_sem, b1c, y11]) rfl ⟨rfl, ?_⟩
  go_grown

theorem tdiv2_bd {n : Int} (h1 : -2000000000 ≤ n) (h2 : n ≤ 2000000000) : -1000000000 ≤ n.tdiv 2 ∧ n.tdiv 2 ≤ 1000000000 := by
  rcases Int.le_total 0 n with h | h
  · rw [Int.tdiv_eq_ediv_of_nonneg h]
    omega
  · have e : n.tdiv 2 = -((-n) / 2) := by
      rw [← Int.tdiv_eq_ediv_of_nonneg (by omega : 0 ≤ -n), Int.neg_tdiv, Int.neg_neg]
    rw [e]
    omega

theorem half_ok {a b c d : Int} (hx : rOk a b c d = true) : rOk ((b - d).tdiv 2) ((a + c).tdiv 2) ((b + d).tdiv 2) ((c - a).tdiv 2) = true := by
  have := rOk_iff.1 hx
  rw [rOk_iff]
  exact ⟨tdiv2_bd (by omega) (by omega), tdiv2_bd (by omega) (by omega), tdiv2_bd (by omega) (by omega), tdiv2_bd (by omega) (by omega)⟩

end Go.Proofs.YtgpocbhlcmohmaaGreatDoor
