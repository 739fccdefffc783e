/- Dyadic numbers: validity, the laws' conversions. -/
import Derived.Test.YtgpocbhlcmohmaaDoorRingDiv
import Derived.Test.YtgpocbhlcmohmaaDoorDraw
import Derived.Test.YtgpocbhlcmohmaaDoorMem
import Derived.Lib.SmallJoins
import Derived.Test.YtgpocbhlcmohmaaDoorFrame
namespace Go.Proofs.YtgpocbhlcmohmaaDoor
open Go.RowKit Go.WideShapes Go.ChangeShapes Go.ChangeAt Go.Joins

abbrev dv (a b c d e : Int) : Value := .agg #[.int .i64 a, .int .i64 b, .int .i64 c, .int .i64 d, .int .i64 e]
def dOk (a b c d e : Int) : Bool := rOk a b c d && inB e 0 60 && (e == 0 || !evenB a b c d)

theorem Tryd.cellsLDyadic : Tryd.prog.cellsOf 48 = 5 := by kernel_rfl

theorem Tryd.cellsLDRing : Tryd.prog.cellsOf 44 = 4 := by kernel_rfl

theorem Tryd.cellsInt : Tryd.prog.cellsOf 3 = 1 := by kernel_rfl

set_option maxRecDepth 100000 in
theorem trod_ring {H : Type} {enc : TypeId × Value → H} {W : World} {base : Nat} {sp : Nat → Bool} {hd : Bool} {fuel : Nat} {c0 c1 c2 c3 : Value} {x : DataW H × List MemPlace}
    (h : DataW.trod enc Tryd.prog W base sp hd fuel 44 [c0, c1, c2, c3] = some x) : ∃ a b c d : Int, c0 = .int .i64 a ∧ c1 = .int .i64 b ∧ c2 = .int .i64 c ∧ c3 = .int .i64 d := by
  obtain ⟨xs, n, _, hx, _, hlen, hg⟩ := DataW.trod_struct Tryd.underlying44 h
  have g0 := hg 0 _ rfl
  have g1 := hg 1 _ rfl
  have g2 := hg 2 _ rfl
  have g3 := hg 3 _ rfl
  match xs, hlen with
  | [y0, y1, y2, y3], _ =>
    simp [Tryd.cellsInt] at g0 g1 g2 g3
    obtain ⟨a, e0, _, _⟩ := DataW.trod_int Tryd.underlying3 g0
    obtain ⟨b, e1, _, _⟩ := DataW.trod_int Tryd.underlying3 g1
    obtain ⟨c, e2, _, _⟩ := DataW.trod_int Tryd.underlying3 g2
    obtain ⟨d, e3, _, _⟩ := DataW.trod_int Tryd.underlying3 g3
    simp at e0 e1 e2 e3
    exact ⟨a, b, c, d, e0, e1, e2, e3⟩

set_option maxRecDepth 100000 in
theorem trod_dyadic {H : Type} {enc : TypeId × Value → H} {W : World} {base : Nat} {sp : Nat → Bool} {hd : Bool} {fuel : Nat} {c0 c1 c2 c3 c4 : Value} {x : DataW H × List MemPlace}
    (h : DataW.trod enc Tryd.prog W base sp hd fuel 48 [c0, c1, c2, c3, c4] = some x) : ∃ a b c d e : Int, c0 = .int .i64 a ∧ c1 = .int .i64 b ∧ c2 = .int .i64 c ∧ c3 = .int .i64 d ∧ c4 = .int .i64 e := by
  obtain ⟨xs, n, _, hx, _, hlen, hg⟩ := DataW.trod_struct Tryd.underlying48 h
  have g0 := hg 0 _ rfl
  have g1 := hg 1 _ rfl
  match xs, hlen with
  | [y0, y1], _ =>
    simp [Tryd.cellsLDRing, Tryd.cellsInt] at g0 g1
    obtain ⟨a, b, c, d, e0, e1, e2, e3⟩ := trod_ring g0
    obtain ⟨e, e4, _, _⟩ := DataW.trod_int Tryd.underlying3 g1
    simp at e4
    exact ⟨a, b, c, d, e, e0, e1, e2, e3, e4⟩

set_option maxRecDepth 100000 in
theorem open_dyadic {H : Type} {enc : TypeId × Value → H} {W : World} {base : Nat} {v : Value} {d : DataW H} {p : List MemPlace} (hv : Value.okWide Tryd.prog W .any base 48 v)
    (h : DataW.Trod enc Tryd.prog W 0 (fun _ => true) true 48 v d p) : ∃ a b c d e : Int, v = dv a b c d e := by
  obtain ⟨cs, rfl, hsz⟩ := okWide_struct Tryd.underlying48 hv
  obtain ⟨l⟩ := cs
  match l, hsz.trans Tryd.cellsLDyadic with
  | [c0, c1, c2, c3, c4], _ =>
    obtain ⟨fuel, hf⟩ := h
    obtain ⟨a, b, c, d, e, rfl, rfl, rfl, rfl, rfl⟩ := trod_dyadic (by simpa [Value.cells] using hf)
    exact ⟨a, b, c, d, e, rfl⟩

set_option maxHeartbeats 1000000 in
theorem toDyadic_any (a b c d e : Int) (w : World) :
    Calls Tryd.prog 26 #[dv a b c d e] w fun r w' => r = .returned (dv a b c d e) ∧ Below w.heap.size w w' := by
  go_enter Tryd.func26, Tryd.ntmps26
  go_wp2_with fail
  refine (toRing_any _ _ _ _ _).mono ?_
  rintro e w1 ⟨rfl, b1⟩
  obtain ⟨b1c, b1f⟩ := bcell b1
  have z1 := b1.size
  try simp only [World.size_alloc] at z1
  have B1 : Below w.heap.size w w1 := Below.chain (Below.refl _ _) (by go_grown) b1 (by go_size)
  have y10 : w.heap.size < w1.heap.size := by omega
  have y11 : w.heap.size + 1 < w1.heap.size := by omega
  have y12 : w.heap.size + 2 < w1.heap.size := by omega
  go_wp2
  refine bodyPost_ret (by simp [results, Tryd.results26, go_sem, b1c]) rfl ⟨rfl, ?_⟩
  go_grown

set_option maxHeartbeats 1000000 in
theorem l2Good_any (a b c d e : Int) (w : World) :
    Calls Tryd.prog 38 #[dv a b c d e] w fun r w' => r = .returned (.bool (dOk a b c d e)) ∧ Below w.heap.size w w' := by
  rcases hx : rOk a b c d with _ | _
  · go_enter Tryd.func38, Tryd.ntmps38
    go_wp2_with fail
    refine (l1Good_any _ _ _ _ _).mono ?_
    rintro e w1 ⟨rfl, b1⟩
    obtain ⟨b1c, b1f⟩ := bcell b1
    have z1 := b1.size
    try simp only [World.size_alloc] at z1
    have B1 : Below w.heap.size w w1 := Below.chain (Below.refl _ _) (by go_grown) b1 (by go_size)
    have y10 : w.heap.size < w1.heap.size := by omega
    go_wp2
    go_ret
    refine ⟨ret_bool (by simp [dOk, hx]), ?_⟩
    go_grown
  rcases he : inB e 0 60 with _ | _
  · go_enter Tryd.func38, Tryd.ntmps38
    go_wp2_with fail
    refine (l1Good_any _ _ _ _ _).mono ?_
    rintro e w1 ⟨rfl, b1⟩
    obtain ⟨b1c, b1f⟩ := bcell b1
    have z1 := b1.size
    try simp only [World.size_alloc] at z1
    have B1 : Below w.heap.size w w1 := Below.chain (Below.refl _ _) (by go_grown) b1 (by go_size)
    have y10 : w.heap.size < w1.heap.size := by omega
    go_wp2_with fail
    refine (l1In_any _ _ _ _).mono ?_
    rintro e w' ⟨rfl, rfl⟩
    go_wp2
    go_ret
    refine ⟨ret_bool (by simp [dOk, he]), ?_⟩
    go_grown
  rcases h0 : (e == 0) with _ | _
  · have Hx := Lib.hid hx
    rcases hev : evenB a b c d with _ | _
    all_goals
      go_enter Tryd.func38, Tryd.ntmps38
      go_wp2_with fail
      refine (l1Good_any _ _ _ _ _).mono ?_
      rintro e w1 ⟨rfl, b1⟩
      obtain ⟨b1c, b1f⟩ := bcell b1
      have z1 := b1.size
      try simp only [World.size_alloc] at z1
      have B1 : Below w.heap.size w w1 := Below.chain (Below.refl _ _) (by go_grown) b1 (by go_size)
      have y10 : w.heap.size < w1.heap.size := by omega
      go_wp2_with fail
      refine (l1In_any _ _ _ _).mono ?_
      rintro e w' ⟨rfl, rfl⟩
      go_wp2_with fail
      refine (l1Even_any _ _ _ _ _ Hx.out).mono ?_
      rintro e w2 ⟨rfl, b2⟩
      have z2 := b2.size
      try simp only [World.size_alloc] at z2
      have C2 := Below.chain b1 (by go_grown) b2 (by go_size)
      have B2 : Below w.heap.size w w2 := Below.chain B1 (by go_grown) b2 (by go_size)
      obtain ⟨b2c, b2f⟩ := bcell b2
      obtain ⟨C2c, C2f⟩ := bcellB C2
      have y20 : w.heap.size < w2.heap.size := by omega
      try (have v21 : w1.heap.size < w2.heap.size := by omega)
      go_wp2
      go_ret
      refine ⟨ret_bool (by simp [dOk, hx, he, h0, hev]), ?_⟩
      go_grown
  · go_enter Tryd.func38, Tryd.ntmps38
    go_wp2_with fail
    refine (l1Good_any _ _ _ _ _).mono ?_
    rintro e w1 ⟨rfl, b1⟩
    obtain ⟨b1c, b1f⟩ := bcell b1
    have z1 := b1.size
    try simp only [World.size_alloc] at z1
    have B1 : Below w.heap.size w w1 := Below.chain (Below.refl _ _) (by go_grown) b1 (by go_size)
    have y10 : w.heap.size < w1.heap.size := by omega
    go_wp2_with fail
    refine (l1In_any _ _ _ _).mono ?_
    rintro e w' ⟨rfl, rfl⟩
    go_wp2
    go_ret
    refine ⟨ret_bool (by simp [dOk, hx, he, h0]), ?_⟩
    go_grown

set_option maxHeartbeats 1000000 in
theorem implValidDyadic_any (a b c d e : Int) (w : World) :
    Calls Tryd.prog 41 #[dv a b c d e] w fun r w' => r = .returned (.bool (dOk a b c d e)) ∧ Below w.heap.size w w' := by
  rcases hx : rOk a b c d with _ | _
  · go_enter Tryd.func41, Tryd.ntmps41
    go_wp2_with fail
    refine (IsValidRing_any _ _ _ _ _).mono ?_
    rintro e w1 ⟨rfl, b1⟩
    obtain ⟨b1c, b1f⟩ := bcell b1
    have z1 := b1.size
    try simp only [World.size_alloc] at z1
    have B1 : Below w.heap.size w w1 := Below.chain (Below.refl _ _) (by go_grown) b1 (by go_size)
    have y10 : w.heap.size < w1.heap.size := by omega
    go_wp2
    go_ret
    refine ⟨ret_bool (by simp [dOk, hx]), ?_⟩
    go_grown
  rcases he : inB e 0 60 with _ | _
  · go_enter Tryd.func41, Tryd.ntmps41
    go_wp2_with fail
    refine (IsValidRing_any _ _ _ _ _).mono ?_
    rintro e w1 ⟨rfl, b1⟩
    obtain ⟨b1c, b1f⟩ := bcell b1
    have z1 := b1.size
    try simp only [World.size_alloc] at z1
    have B1 : Below w.heap.size w w1 := Below.chain (Below.refl _ _) (by go_grown) b1 (by go_size)
    have y10 : w.heap.size < w1.heap.size := by omega
    go_wp2_with fail
    refine (within_any _ _ _ _).mono ?_
    rintro e w' ⟨rfl, rfl⟩
    go_wp2
    go_ret
    refine ⟨ret_bool (by simp [dOk, he]), ?_⟩
    go_grown
  rcases h0 : (e == 0) with _ | _
  · have Hx := Lib.hid hx
    rcases hev : evenB a b c d with _ | _
    all_goals
      go_enter Tryd.func41, Tryd.ntmps41
      go_wp2_with fail
      refine (IsValidRing_any _ _ _ _ _).mono ?_
      rintro e w1 ⟨rfl, b1⟩
      obtain ⟨b1c, b1f⟩ := bcell b1
      have z1 := b1.size
      try simp only [World.size_alloc] at z1
      have B1 : Below w.heap.size w w1 := Below.chain (Below.refl _ _) (by go_grown) b1 (by go_size)
      have y10 : w.heap.size < w1.heap.size := by omega
      go_wp2_with fail
      refine (within_any _ _ _ _).mono ?_
      rintro e w' ⟨rfl, rfl⟩
      go_wp2_with fail
      refine (isEven_any _ _ _ _ _ Hx.out).mono ?_
      rintro e w2 ⟨rfl, b2⟩
      have z2 := b2.size
      try simp only [World.size_alloc] at z2
      have C2 := Below.chain b1 (by go_grown) b2 (by go_size)
      have B2 : Below w.heap.size w w2 := Below.chain B1 (by go_grown) b2 (by go_size)
      obtain ⟨b2c, b2f⟩ := bcell b2
      obtain ⟨C2c, C2f⟩ := bcellB C2
      have y20 : w.heap.size < w2.heap.size := by omega
      try (have v21 : w1.heap.size < w2.heap.size := by omega)
      go_wp2
      go_ret
      refine ⟨ret_bool (by simp [dOk, hx, he, h0, hev]), ?_⟩
      go_grown
  · go_enter Tryd.func41, Tryd.ntmps41
    go_wp2_with fail
    refine (IsValidRing_any _ _ _ _ _).mono ?_
    rintro e w1 ⟨rfl, b1⟩
    obtain ⟨b1c, b1f⟩ := bcell b1
    have z1 := b1.size
    try simp only [World.size_alloc] at z1
    have B1 : Below w.heap.size w w1 := Below.chain (Below.refl _ _) (by go_grown) b1 (by go_size)
    have y10 : w.heap.size < w1.heap.size := by omega
    go_wp2_with fail
    refine (within_any _ _ _ _).mono ?_
    rintro e w' ⟨rfl, rfl⟩
    go_wp2
    go_ret
    refine ⟨ret_bool (by simp [dOk, hx, he, h0]), ?_⟩
    go_grown
end Go.Proofs.YtgpocbhlcmohmaaDoor
