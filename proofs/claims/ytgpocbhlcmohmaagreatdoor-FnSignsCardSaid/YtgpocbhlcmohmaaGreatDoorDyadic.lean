/- Dyadic numbers: validity, the laws' conversions. -/
import Derived.Test.YtgpocbhlcmohmaaGreatDoorRingDiv
import Derived.Test.YtgpocbhlcmohmaaGreatDoorDraw
import Derived.Test.YtgpocbhlcmohmaaGreatDoorMem
import Derived.Lib.SmallJoins
import Derived.Test.YtgpocbhlcmohmaaGreatDoorFrame
namespace Go.Proofs.YtgpocbhlcmohmaaGreatDoor
open Go.RowKit Go.WideShapes Go.ChangeShapes Go.ChangeAt Go.Joins

abbrev dv (a b c d e : Int) : Value := .agg #[.int .i64 a, .int .i64 b, .int .i64 c, .int .i64 d, .int .i64 e]
def dOk (a b c d e : Int) : Bool := rOk a b c d && inB e 0 60 && (e == 0 || !evenB a b c d)

theorem Tryz.cellsInt : Tryz.prog.cellsOf 3 = 1 := by kernel_rfl

set_option maxHeartbeats 1000000 in
theorem implValidDyadic_any (a b c d e : Int) (w : World) :
    Calls Tryz.prog 19 #[dv a b c d e] w fun r w' => r = .returned (.bool (dOk a b c d e)) ∧ Below w.heap.size w w' := by
  rcases hx : rOk a b c d with _ | _
  · go_enter Tryz.func19, Tryz.ntmps19
    go_wp2_with fail
    refine (IsValidRing_any _ _ _ _ _).mono ?_
    rintro e w1 ⟨rfl, b1⟩
    obtain ⟨b1c, b1f⟩ := bcell b1
    have z1 := b1.size
    try simp only [World.size_alloc] at z1
    have B1 : Below w.heap.size w w1 := Below.chain (Below.refl _ _) (by go_grown) b1 (by go_size)
    have y10 : w.heap.size < w1.heap.size := by omega
    go_wp2
    go_ret
    refine ⟨ret_bool (by simp [dOk, hx]), ?_⟩
    go_grown
  rcases he : inB e 0 60 with _ | _
  · go_enter Tryz.func19, Tryz.ntmps19
    go_wp2_with fail
    refine (IsValidRing_any _ _ _ _ _).mono ?_
    rintro e w1 ⟨rfl, b1⟩
    obtain ⟨b1c, b1f⟩ := bcell b1
    have z1 := b1.size
    try simp only [World.size_alloc] at z1
    have B1 : Below w.heap.size w w1 := Below.chain (Below.refl _ _) (by go_grown) b1 (by go_size)
    have y10 : w.heap.size < w1.heap.size := by omega
    go_wp2_with fail
    refine (within_any _ _ _ _).mono ?_
    rintro e w' ⟨rfl, rfl⟩
    go_wp2
    go_ret
    refine ⟨ret_bool (by simp [dOk, he]), ?_⟩
    go_grown
  rcases h0 : (e == 0) with _ | _
  · have Hx := Lib.hid hx
    rcases hev : evenB a b c d with _ | _
    all_goals
      go_enter Tryz.func19, Tryz.ntmps19
      go_wp2_with fail
      refine (IsValidRing_any _ _ _ _ _).mono ?_
      rintro e w1 ⟨rfl, b1⟩
      obtain ⟨b1c, b1f⟩ := bcell b1
      have z1 := b1.size
      try simp only [World.size_alloc] at z1
      have B1 : Below w.heap.size w w1 := Below.chain (Below.refl _ _) (by go_grown) b1 (by go_size)
      have y10 : w.heap.size < w1.heap.size := by omega
      go_wp2_with fail
      refine (within_any _ _ _ _).mono ?_
      rintro e w' ⟨rfl, rfl⟩
      go_wp2_with fail
      refine (isEven_any _ _ _ _ _ Hx.out).mono ?_
      rintro e w2 ⟨rfl, b2⟩
      have z2 := b2.size
      try simp only [World.size_alloc] at z2
      have C2 := Below.chain b1 (by go_grown) b2 (by go_size)
      have B2 : Below w.heap.size w w2 := Below.chain B1 (by go_grown) b2 (by go_size)
      obtain ⟨b2c, b2f⟩ := bcell b2
      obtain ⟨C2c, C2f⟩ := bcellB C2
      have y20 : w.heap.size < w2.heap.size := by omega
      try (have v21 : w1.heap.size < w2.heap.size := by omega)
      go_wp2
      go_ret
      refine ⟨ret_bool (by simp [dOk, hx, he, h0, hev]), ?_⟩
      go_grown
  · go_enter Tryz.func19, Tryz.ntmps19
    go_wp2_with fail
    refine (IsValidRing_any _ _ _ _ _).mono ?_
    rintro e w1 ⟨rfl, b1⟩
    obtain ⟨b1c, b1f⟩ := bcell b1
    have z1 := b1.size
    try simp only [World.size_alloc] at z1
    have B1 : Below w.heap.size w w1 := Below.chain (Below.refl _ _) (by go_grown) b1 (by go_size)
    have y10 : w.heap.size < w1.heap.size := by omega
    go_wp2_with fail
    refine (within_any _ _ _ _).mono ?_
    rintro e w' ⟨rfl, rfl⟩
    go_wp2
    go_ret
    refine ⟨ret_bool (by simp [dOk, hx, he, h0]), ?_⟩
    go_grown
end Go.Proofs.YtgpocbhlcmohmaaGreatDoor
