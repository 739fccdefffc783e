/- A cell of a gate's matrix: the program's closure GateMatrix$1. -/
import Derived.Test.YtlihnipbdckmkaaGmEn3
import Derived.Test.YtlihnipbdckmkaaGmEn2
import Derived.Test.YtlihnipbdckmkaaGmCome
namespace Go.Proofs.Ytlihnipbdckmkaa
open Go.RowKit

def entD (k i j : Nat) : D5 :=
  if k = 1 then (if i = 1 ∧ j = 1 then ((-1, 0, 0, 0), 1) else ((1, 0, 0, 0), 1))
  else if k = 2 then (if i = j then zeroD else ((1, 0, 0, 0), 0))
  else if k = 3 then (if i = j then zeroD else (powQ (2 + 4 * j), 0))
  else if i = j then (if i = 0 then ((1, 0, 0, 0), 0) else (powQ (if k = 4 then 4 else if k = 5 then 2 else if k = 6 then 6 else if k = 7 then 1 else 7), 0)) else zeroD

theorem ent_any (k i j : Nat) (w : World) (hk1 : 1 ≤ k) (hk8 : k ≤ 8) (hi : i < 2) (hj : j < 2) :
    Calls Try.prog 36 #[.int .i64 (k : Int), .int .i64 (i : Int), .int .i64 (j : Int)] w fun e w' => e = .returned (dvD (entD k i j)) ∧ Below w.heap.size w w' := by
  obtain rfl | rfl : i = 0 ∨ i = 1 := by omega
  · obtain rfl | rfl : j = 0 ∨ j = 1 := by omega
    · obtain rfl | rfl | rfl | rfl | rfl | rfl | rfl | rfl : k = 1 ∨ k = 2 ∨ k = 3 ∨ k = 4 ∨ k = 5 ∨ k = 6 ∨ k = 7 ∨ k = 8 := by omega
      · exact ent_1_0_0 w
      · exact ent_2_0_0 w
      · exact ent_3_0_0 w
      · exact ent_4_0_0 w
      · exact ent_5_0_0 w
      · exact ent_6_0_0 w
      · exact ent_7_0_0 w
      · exact ent_8_0_0 w
    · obtain rfl | rfl | rfl | rfl | rfl | rfl | rfl | rfl : k = 1 ∨ k = 2 ∨ k = 3 ∨ k = 4 ∨ k = 5 ∨ k = 6 ∨ k = 7 ∨ k = 8 := by omega
      · exact ent_1_0_1 w
      · exact ent_2_0_1 w
      · exact ent_3_0_1 w
      · exact ent_4_0_1 w
      · exact ent_5_0_1 w
      · exact ent_6_0_1 w
      · exact ent_7_0_1 w
      · exact ent_8_0_1 w
  · obtain rfl | rfl : j = 0 ∨ j = 1 := by omega
    · obtain rfl | rfl | rfl | rfl | rfl | rfl | rfl | rfl : k = 1 ∨ k = 2 ∨ k = 3 ∨ k = 4 ∨ k = 5 ∨ k = 6 ∨ k = 7 ∨ k = 8 := by omega
      · exact ent_1_1_0 w
      · exact ent_2_1_0 w
      · exact ent_3_1_0 w
      · exact ent_4_1_0 w
      · exact ent_5_1_0 w
      · exact ent_6_1_0 w
      · exact ent_7_1_0 w
      · exact ent_8_1_0 w
    · obtain rfl | rfl | rfl | rfl | rfl | rfl | rfl | rfl : k = 1 ∨ k = 2 ∨ k = 3 ∨ k = 4 ∨ k = 5 ∨ k = 6 ∨ k = 7 ∨ k = 8 := by omega
      · exact ent_1_1_1 w
      · exact ent_2_1_1 w
      · exact ent_3_1_1 w
      · exact ent_4_1_1 w
      · exact ent_5_1_1 w
      · exact ent_6_1_1 w
      · exact ent_7_1_1 w
      · exact ent_8_1_1 w

/-- a cell of a gate's matrix: row i, column j; sa, sb: the places of the gate's bits -/
def gmD (k sa sb i j : Nat) : D5 :=
  if k = 12 then (if i = j then (powQ 1, 0) else zeroD)
  else if 9 ≤ k then (if comQ (k : Int) i sa sb = j then (powQ (if k = 10 ∧ btq i sa = 1 ∧ btq i sb = 1 then 4 else 0), 0) else zeroD)
  else if i = j ∨ flq i sa = j then entD k (btq i sa) (btq j sa) else zeroD
theorem gmD_12 (sa sb i : Nat) : gmD 12 sa sb i i = (powQ 1, 0) := by simp [gmD]
theorem gmD_12' (sa sb : Nat) {i j : Nat} (h : ¬ i = j) : gmD 12 sa sb i j = zeroD := by simp [gmD, h]
theorem gmD_two {k sa sb i j : Nat} (h9 : 9 ≤ k) (h11 : k ≤ 11) (h : comQ (k : Int) i sa sb = j) : gmD k sa sb i j = (powQ (if k = 10 ∧ btq i sa = 1 ∧ btq i sb = 1 then 4 else 0), 0) := by
  rw [gmD, if_neg (by omega), if_pos h9, if_pos h]
theorem gmD_two' {k sa sb i j : Nat} (h9 : 9 ≤ k) (h11 : k ≤ 11) (h : ¬ comQ (k : Int) i sa sb = j) : gmD k sa sb i j = zeroD := by
  rw [gmD, if_neg (by omega), if_pos h9, if_neg h]
theorem gmD_one {k sa sb i j : Nat} (h8 : k ≤ 8) (h : i = j ∨ flq i sa = j) : gmD k sa sb i j = entD k (btq i sa) (btq j sa) := by
  rw [gmD, if_neg (by omega), if_neg (by omega), if_pos h]
theorem gmD_one' {k sa sb i j : Nat} (h8 : k ≤ 8) (h : ¬ (i = j ∨ flq i sa = j)) : gmD k sa sb i j = zeroD := by
  rw [gmD, if_neg (by omega), if_neg (by omega), if_neg h]
/-- block b holds a gate -/
def LocG (w : World) (b : Nat) (k x y : Nat) : Prop := w.heap[b]? = some (.cells #[.int .i64 (k : Int), .int .i64 (x : Int), .int .i64 (y : Int)] 29 (0, 0))

set_option maxRecDepth 100000 in
set_option maxHeartbeats 4000000 in
theorem gmW_any (k a b sa sb i j : Nat) (bg bn : Nat) (w : World) (h12 : k = 12) (hg : Hid (LocG w bg k a b)) :
    Calls Try.prog 29 #[.int .i64 (i : Int), .int .i64 (j : Int), .pointer (some ⟨bg, 0, none⟩), .pointer (some ⟨bn, 0, none⟩)] w fun e w' => e = .returned (dyRes true (gmD k sa sb i j)) ∧ Below w.heap.size w w' := by
  subst h12
  have g0 := cell_of_row w bg 0 _ _ _ hg.out
  have yg : bg < w.heap.size := (Array.getElem?_eq_some_iff.1 hg.out).1
  by_cases h : i = j
  · subst h
    have Hr : Hid (dyRes true (gmD 12 sa sb i i) = .tuple #[dv (powQ 1).1 (powQ 1).2.1 (powQ 1).2.2.1 (powQ 1).2.2.2 0, .bool true]) := by show dyRes _ _ = _; rw [gmD_12]; simp [dyRes, rI_t]
    go_enter Try.func29, Try.ntmps29
    go_wp2_with fail
    refine (phase_any 1 _ (by omega)).mono ?_
    rintro e w1 ⟨rfl, b1⟩
    obtain ⟨b1c, b1f⟩ := bcell b1
    have z1 := b1.size
    try simp only [World.size_alloc] at z1
    have B1 : Below w.heap.size w w1 := Below.chain (Below.refl _ _) (by go_grown) b1 (by go_size)
    have y10 : w.heap.size < w1.heap.size := by omega
    go_wp2
    rw [Hr.out]
    refine bodyPost_ret (by simp [results, Try.results29, go_sem, b1c]) rfl ⟨rfl, ?_⟩
    go_grown
  · have Hr : Hid (dyRes true (gmD 12 sa sb i j) = .tuple #[dv 0 0 0 0 0, .bool true]) := by show dyRes _ _ = _; rw [gmD_12' _ _ h]; simp [dyRes, zeroD, rI_t]
    have hne : ¬ (i : Int) = (j : Int) := by omega
    clear h
    go_enter Try.func29, Try.ntmps29
    go_wp2
    rw [Hr.out]
    refine bodyPost_ret (by simp [results, Try.results29, go_sem]) rfl ⟨rfl, ?_⟩
    go_grown

set_option maxRecDepth 100000 in
set_option maxHeartbeats 8000000 in
theorem gmT_any (n k a b sa sb i j : Nat) (bg bn : Nat) (w : World) (h9 : 9 ≤ k) (h11 : k ≤ 11) (hn : n ≤ 5) (hsa : sa < 5) (hsb : sb < 5) (hi : i < 32) (ha : (n : Int) - 1 - (a : Int) = (sa : Int)) (hb : (n : Int) - 1 - (b : Int) = (sb : Int))
    (hg : Hid (LocG w bg k a b)) (hbn : Hid (bn < w.heap.size ∧ w.cell? ⟨bn, 0, none⟩ = some (.int .i64 (n : Int)))) :
    Calls Try.prog 29 #[.int .i64 (i : Int), .int .i64 (j : Int), .pointer (some ⟨bg, 0, none⟩), .pointer (some ⟨bn, 0, none⟩)] w fun e w' => e = .returned (dyRes true (gmD k sa sb i j)) ∧ Below w.heap.size w w' := by
  have g0 := cell_of_row w bg 0 _ _ _ hg.out
  have g1 := cell_of_row w bg 1 _ _ _ hg.out
  have g2 := cell_of_row w bg 2 _ _ _ hg.out
  have yg : bg < w.heap.size := (Array.getElem?_eq_some_iff.1 hg.out).1
  obtain ⟨yn, n0⟩ := hbn.out
  obtain ⟨X, hX⟩ : ∃ X, X = btq i sa := ⟨_, rfl⟩
  obtain ⟨Y, hY⟩ : ∃ Y, Y = btq i sb := ⟨_, rfl⟩
  obtain ⟨Z, hZ⟩ : ∃ Z, Z = comQ (k : Int) i sa sb := ⟨_, rfl⟩
  have C0 : Hid (∀ W, Calls Try.prog 32 #[.int .i64 (n : Int), tv (k : Int) (a : Int) (b : Int), .int .i64 (i : Int)] W fun e w' => e = .returned (.int .i64 (Z : Int)) ∧ Below W.heap.size W w') := fun W => by rw [hZ]; exact comesFrom_any n i a b sa sb _ W hn hsa hsb hi ha hb
  have C1 : Hid (∀ W, Calls Try.prog 34 #[.int .i64 (n : Int), .int .i64 (i : Int), .int .i64 (a : Int)] W fun e w' => e = .returned (.int .i64 (X : Int)) ∧ W = w') := fun W => by rw [hX]; exact bitOf_any n i a sa W hn hsa hi ha
  have C2 : Hid (∀ W, Calls Try.prog 34 #[.int .i64 (n : Int), .int .i64 (i : Int), .int .i64 (b : Int)] W fun e w' => e = .returned (.int .i64 (Y : Int)) ∧ W = w') := fun W => by rw [hY]; exact bitOf_any n i b sb W hn hsb hi hb
  have Ct : Hid (∀ W, Calls Try.prog 31 #[.int .i64 (k : Int)] W fun e w' => e = .returned (.bool true) ∧ W = w') := fun W => (isTwo_any _ W).mono (by rintro e w' ⟨h, rfl⟩; exact ⟨by rw [h, inB_t.2 (by omega)], rfl⟩)
  have hk12 : ¬ (k : Int) = 12 := by omega
  clear ha hb hi hsa hsb hn
  by_cases hz : Z = j
  · have Hr : Hid (dyRes true (gmD k sa sb i j) = .tuple #[dvD (powQ (if k = 10 ∧ X = 1 ∧ Y = 1 then 4 else 0), 0), .bool true]) := by show dyRes _ _ = _; rw [gmD_two h9 h11 (hZ.symm.trans hz), ← hX, ← hY]; simp [dyRes, rI_t]
    clear hX hY hZ h9 h11
    subst hz
    by_cases h10 : k = 10
    · subst h10
      by_cases hx : X = 1
      · subst hx
        by_cases hy : Y = 1
        · subst hy
          have Hr2 : Hid (dvD (powQ (if 10 = 10 ∧ 1 = 1 ∧ 1 = 1 then 4 else 0), 0) = dv (powQ 4).1 (powQ 4).2.1 (powQ 4).2.2.1 (powQ 4).2.2.2 0) := rfl
          go_enter Try.func29, Try.ntmps29
          go_wp2_with fail
          refine (Ct.out _).mono ?_
          rintro e w' ⟨rfl, rfl⟩
          go_wp2_with fail
          refine (C0.out _).mono ?_
          rintro e w1 ⟨rfl, b1⟩
          obtain ⟨b1c, b1f⟩ := bcell b1
          have z1 := b1.size
          try simp only [World.size_alloc] at z1
          have B1 : Below w.heap.size w w1 := Below.chain (Below.refl _ _) (by go_grown) b1 (by go_size)
          have y10 : w.heap.size < w1.heap.size := by omega
          go_wp2_with fail
          refine (C1.out _).mono ?_
          rintro e w' ⟨rfl, rfl⟩
          go_wp2_with fail
          refine (C2.out _).mono ?_
          rintro e w' ⟨rfl, rfl⟩
          go_wp2_with fail
          refine (small_any _ _).mono ?_
          rintro e w' ⟨rfl, rfl⟩
          go_wp2_with fail
          refine (phase_any 4 _ (by omega)).mono ?_
          rintro e w2 ⟨rfl, b2⟩
          have z2 := b2.size
          try simp only [World.size_alloc] at z2
          have C2 := Below.chain b1 (by go_grown) b2 (by go_size)
          have B2 : Below w.heap.size w w2 := Below.chain B1 (by go_grown) b2 (by go_size)
          obtain ⟨b2c, b2f⟩ := bcell b2
          obtain ⟨C2c, C2f⟩ := bcellB C2
          have y20 : w.heap.size < w2.heap.size := by omega
          try (have v21 : w1.heap.size < w2.heap.size := by omega)
          go_wp2
          rw [Hr.out, Hr2.out]
          refine bodyPost_ret (by simp [results, Try.results29, go_sem, C2c]) rfl ⟨rfl, ?_⟩
          go_grown
        · have Hr2 : Hid (dvD (powQ (if 10 = 10 ∧ 1 = 1 ∧ Y = 1 then 4 else 0), 0) = dv (powQ 0).1 (powQ 0).2.1 (powQ 0).2.2.1 (powQ 0).2.2.2 0) := by show _ = _; simp [hy]
          have hy' : ¬ (Y : Int) = 1 := by omega
          clear hy
          go_enter Try.func29, Try.ntmps29
          go_wp2_with fail
          refine (Ct.out _).mono ?_
          rintro e w' ⟨rfl, rfl⟩
          go_wp2_with fail
          refine (C0.out _).mono ?_
          rintro e w1 ⟨rfl, b1⟩
          obtain ⟨b1c, b1f⟩ := bcell b1
          have z1 := b1.size
          try simp only [World.size_alloc] at z1
          have B1 : Below w.heap.size w w1 := Below.chain (Below.refl _ _) (by go_grown) b1 (by go_size)
          have y10 : w.heap.size < w1.heap.size := by omega
          go_wp2_with fail
          refine (C1.out _).mono ?_
          rintro e w' ⟨rfl, rfl⟩
          go_wp2_with fail
          refine (C2.out _).mono ?_
          rintro e w' ⟨rfl, rfl⟩
          go_wp2_with fail
          refine (small_any _ _).mono ?_
          rintro e w' ⟨rfl, rfl⟩
          go_wp2_with fail
          refine (phase_any 0 _ (by omega)).mono ?_
          rintro e w2 ⟨rfl, b2⟩
          have z2 := b2.size
          try simp only [World.size_alloc] at z2
          have C2 := Below.chain b1 (by go_grown) b2 (by go_size)
          have B2 : Below w.heap.size w w2 := Below.chain B1 (by go_grown) b2 (by go_size)
          obtain ⟨b2c, b2f⟩ := bcell b2
          obtain ⟨C2c, C2f⟩ := bcellB C2
          have y20 : w.heap.size < w2.heap.size := by omega
          try (have v21 : w1.heap.size < w2.heap.size := by omega)
          go_wp2
          rw [Hr.out, Hr2.out]
          refine bodyPost_ret (by simp [results, Try.results29, go_sem, C2c]) rfl ⟨rfl, ?_⟩
          go_grown
      · have Hr2 : Hid (dvD (powQ (if 10 = 10 ∧ X = 1 ∧ Y = 1 then 4 else 0), 0) = dv (powQ 0).1 (powQ 0).2.1 (powQ 0).2.2.1 (powQ 0).2.2.2 0) := by show _ = _; simp [hx]
        have hx' : ¬ (X : Int) = 1 := by omega
        clear hx
        go_enter Try.func29, Try.ntmps29
        go_wp2_with fail
        refine (Ct.out _).mono ?_
        rintro e w' ⟨rfl, rfl⟩
        go_wp2_with fail
        refine (C0.out _).mono ?_
        rintro e w1 ⟨rfl, b1⟩
        obtain ⟨b1c, b1f⟩ := bcell b1
        have z1 := b1.size
        try simp only [World.size_alloc] at z1
        have B1 : Below w.heap.size w w1 := Below.chain (Below.refl _ _) (by go_grown) b1 (by go_size)
        have y10 : w.heap.size < w1.heap.size := by omega
        go_wp2_with fail
        refine (C1.out _).mono ?_
        rintro e w' ⟨rfl, rfl⟩
        go_wp2_with fail
        refine (small_any _ _).mono ?_
        rintro e w' ⟨rfl, rfl⟩
        go_wp2_with fail
        refine (phase_any 0 _ (by omega)).mono ?_
        rintro e w2 ⟨rfl, b2⟩
        have z2 := b2.size
        try simp only [World.size_alloc] at z2
        have C2 := Below.chain b1 (by go_grown) b2 (by go_size)
        have B2 : Below w.heap.size w w2 := Below.chain B1 (by go_grown) b2 (by go_size)
        obtain ⟨b2c, b2f⟩ := bcell b2
        obtain ⟨C2c, C2f⟩ := bcellB C2
        have y20 : w.heap.size < w2.heap.size := by omega
        try (have v21 : w1.heap.size < w2.heap.size := by omega)
        go_wp2
        rw [Hr.out, Hr2.out]
        refine bodyPost_ret (by simp [results, Try.results29, go_sem, C2c]) rfl ⟨rfl, ?_⟩
        go_grown
    · have Hr2 : Hid (dvD (powQ (if k = 10 ∧ X = 1 ∧ Y = 1 then 4 else 0), 0) = dv (powQ 0).1 (powQ 0).2.1 (powQ 0).2.2.1 (powQ 0).2.2.2 0) := by show _ = _; simp [h10]
      have hk10 : ¬ (k : Int) = 10 := by omega
      clear h10
      go_enter Try.func29, Try.ntmps29
      go_wp2_with fail
      refine (Ct.out _).mono ?_
      rintro e w' ⟨rfl, rfl⟩
      go_wp2_with fail
      refine (C0.out _).mono ?_
      rintro e w1 ⟨rfl, b1⟩
      obtain ⟨b1c, b1f⟩ := bcell b1
      have z1 := b1.size
      try simp only [World.size_alloc] at z1
      have B1 : Below w.heap.size w w1 := Below.chain (Below.refl _ _) (by go_grown) b1 (by go_size)
      have y10 : w.heap.size < w1.heap.size := by omega
      go_wp2_with fail
      refine (small_any _ _).mono ?_
      rintro e w' ⟨rfl, rfl⟩
      go_wp2_with fail
      refine (phase_any 0 _ (by omega)).mono ?_
      rintro e w2 ⟨rfl, b2⟩
      have z2 := b2.size
      try simp only [World.size_alloc] at z2
      have C2 := Below.chain b1 (by go_grown) b2 (by go_size)
      have B2 : Below w.heap.size w w2 := Below.chain B1 (by go_grown) b2 (by go_size)
      obtain ⟨b2c, b2f⟩ := bcell b2
      obtain ⟨C2c, C2f⟩ := bcellB C2
      have y20 : w.heap.size < w2.heap.size := by omega
      try (have v21 : w1.heap.size < w2.heap.size := by omega)
      go_wp2
      rw [Hr.out, Hr2.out]
      refine bodyPost_ret (by simp [results, Try.results29, go_sem, C2c]) rfl ⟨rfl, ?_⟩
      go_grown
  · have Hr : Hid (dyRes true (gmD k sa sb i j) = .tuple #[dv 0 0 0 0 0, .bool true]) := by show dyRes _ _ = _; rw [gmD_two' h9 h11 (fun e => hz (hZ.trans e))]; simp [dyRes, zeroD, rI_t]
    have hz' : ¬ (Z : Int) = (j : Int) := by omega
    clear hX hY hZ h9 h11 hz
    go_enter Try.func29, Try.ntmps29
    go_wp2_with fail
    refine (Ct.out _).mono ?_
    rintro e w' ⟨rfl, rfl⟩
    go_wp2_with fail
    refine (C0.out _).mono ?_
    rintro e w1 ⟨rfl, b1⟩
    obtain ⟨b1c, b1f⟩ := bcell b1
    have z1 := b1.size
    try simp only [World.size_alloc] at z1
    have B1 : Below w.heap.size w w1 := Below.chain (Below.refl _ _) (by go_grown) b1 (by go_size)
    have y10 : w.heap.size < w1.heap.size := by omega
    go_wp2
    rw [Hr.out]
    refine bodyPost_ret (by simp [results, Try.results29, go_sem, b1c]) rfl ⟨rfl, ?_⟩
    go_grown

set_option maxRecDepth 100000 in
set_option maxHeartbeats 8000000 in
theorem gmO_any (n k a b sa sb i j : Nat) (bg bn : Nat) (w : World) (h1 : 1 ≤ k) (h8 : k ≤ 8) (hn : n ≤ 5) (hsa : sa < 5) (hi : i < 32) (hj : j < 32) (ha : (n : Int) - 1 - (a : Int) = (sa : Int))
    (hg : Hid (LocG w bg k a b)) (hbn : Hid (bn < w.heap.size ∧ w.cell? ⟨bn, 0, none⟩ = some (.int .i64 (n : Int)))) :
    Calls Try.prog 29 #[.int .i64 (i : Int), .int .i64 (j : Int), .pointer (some ⟨bg, 0, none⟩), .pointer (some ⟨bn, 0, none⟩)] w fun e w' => e = .returned (dyRes true (gmD k sa sb i j)) ∧ Below w.heap.size w w' := by
  have g0 := cell_of_row w bg 0 _ _ _ hg.out
  have g1 := cell_of_row w bg 1 _ _ _ hg.out
  have yg : bg < w.heap.size := (Array.getElem?_eq_some_iff.1 hg.out).1
  obtain ⟨yn, n0⟩ := hbn.out
  obtain ⟨X, hX⟩ : ∃ X, X = btq i sa := ⟨_, rfl⟩
  obtain ⟨Y, hY⟩ : ∃ Y, Y = btq j sa := ⟨_, rfl⟩
  obtain ⟨F, hF⟩ : ∃ F, F = flq i sa := ⟨_, rfl⟩
  obtain ⟨E, hE⟩ : ∃ E, E = entD k X Y := ⟨_, rfl⟩
  have C1 : Hid (∀ W, Calls Try.prog 34 #[.int .i64 (n : Int), .int .i64 (i : Int), .int .i64 (a : Int)] W fun e w' => e = .returned (.int .i64 (X : Int)) ∧ Below W.heap.size W w') := fun W => by rw [hX]; exact (bitOf_any n i a sa W hn hsa hi ha).mono (by rintro e w' ⟨h, rfl⟩; exact ⟨h, Below.refl _ _⟩)
  have C2 : Hid (∀ W, Calls Try.prog 34 #[.int .i64 (n : Int), .int .i64 (j : Int), .int .i64 (a : Int)] W fun e w' => e = .returned (.int .i64 (Y : Int)) ∧ Below W.heap.size W w') := fun W => by rw [hY]; exact (bitOf_any n j a sa W hn hsa hj ha).mono (by rintro e w' ⟨h, rfl⟩; exact ⟨h, Below.refl _ _⟩)
  have C3 : Hid (∀ W, Calls Try.prog 35 #[.int .i64 (n : Int), .int .i64 (i : Int), .int .i64 (a : Int)] W fun e w' => e = .returned (.int .i64 (F : Int)) ∧ W = w') := fun W => by rw [hF]; exact flipped_any n i a sa W hn hsa hi ha
  have Ct : Hid (∀ W, Calls Try.prog 31 #[.int .i64 (k : Int)] W fun e w' => e = .returned (.bool false) ∧ W = w') := fun W => (isTwo_any _ W).mono (by rintro e w' ⟨h, rfl⟩; exact ⟨by rw [h, inB_f.2 (by omega)], rfl⟩)
  have Ce : Hid (∀ W, Calls Try.prog 36 #[.int .i64 (k : Int), .int .i64 (X : Int), .int .i64 (Y : Int)] W fun e w' => e = .returned (dvD E) ∧ Below W.heap.size W w') := fun W => by
    rw [hE]; exact ent_any k X Y W h1 h8 (by rw [hX]; exact btq_lt _ _) (by rw [hY]; exact btq_lt _ _)
  have hk12 : ¬ (k : Int) = 12 := by omega
  clear ha hi hj hsa hn
  by_cases hz : i = j ∨ F = j
  · have Hr : Hid (dyRes true (gmD k sa sb i j) = .tuple #[dvD E, .bool true]) := by show dyRes _ _ = _; rw [gmD_one h8 (by rw [← hF]; exact hz), ← hX, ← hY, ← hE]; simp [dyRes, rI_t]
    clear hX hY hF hE h1 h8
    generalize hW0 : w.alloc (.cells #[.int .i64 0, .int .i64 0, .int .i64 0, .int .i64 0, .int .i64 0] 60) = W0
    have B0 : Below w.heap.size w W0 := by rw [← hW0]; go_grown
    have k0 : ∀ o, W0.cell? ⟨w.heap.size, o, none⟩ = _ := fun o => cell_of_row W0 w.heap.size o _ _ _ (by rw [← hW0]; exact heap_top _ _ rfl)
    have f0 : ∀ o, W0.frozen? ⟨w.heap.size, o, none⟩ = false := fun o => frozen_of_row W0 w.heap.size o _ _ (by rw [← hW0]; exact heap_top _ _ rfl)
    have y00 : w.heap.size < W0.heap.size := by rw [← hW0]; go_size
    obtain ⟨B0c, B0f⟩ := bcell B0
    have d0 := (B0c bg 0 yg).trans g0
    have d1 := (B0c bg 1 yg).trans g1
    have e0 := (B0c bn 0 yn).trans n0
    have yg0 : bg < W0.heap.size := by omega
    have yn0 : bn < W0.heap.size := by omega
    have ng : ¬ bg = w.heap.size := by omega
    have nn : ¬ bn = w.heap.size := by omega
    clear B0c B0f g0 g1 n0
    obtain ⟨⟨e1, e2, e3, e4⟩, e5⟩ := E
    by_cases hij : i = j
    · have hib : ((i : Int) == (j : Int)) = true := by simp [hij]
      clear hz hij
      go_enter Try.func29, Try.ntmps29
      go_wp2_with (go_at_call 31; refine (Ct.out _).mono ?_; rintro e w' ⟨rfl, rfl⟩)
      try rw [hW0]
      clear hW0
      go_region_held3 (fun w' => (∀ b o, b < W0.heap.size → b ≠ w.heap.size → w'.cell? ⟨b, o, none⟩ = W0.cell? ⟨b, o, none⟩) ∧ W0.grownBy w' (some (w.heap.size))) ((refine GB_mk ?_; repeat (first | (with_reducible exact grownBy_refl' _ _) | (with_reducible assumption) | (with_reducible refine only_drew ?_) | (with_reducible refine only_alloc ?_ _) | (with_reducible refine only_setCell ?_ (by first | (left; rfl) | (right; omega) | (right; simp; omega)) _)))) (first | (go_at_call 34; with_reducible refine (C1.out _).mono ?_; rintro e wA0 ⟨rfl, bA0⟩; obtain ⟨bA0c, bA0f⟩ := bcell bA0; (try simp only [World.size_drew] at bA0c); (try simp only [World.cell?_drew] at bA0c); (try simp only [World.size_drew] at bA0f); (try simp only [World.frozen?_drew] at bA0f); have sA0 := (GB_step (W := W0) (by with_reducible assumption) bA0).2; have zA0 := sA0.size; have yA0_0 : w.heap.size < wA0.heap.size := (by omega)) | (go_at_call 34; with_reducible refine (C2.out _).mono ?_; rintro e wA1 ⟨rfl, bA1⟩; obtain ⟨bA1c, bA1f⟩ := bcell bA1; (try simp only [World.size_drew] at bA1c); (try simp only [World.cell?_drew] at bA1c); (try simp only [World.size_drew] at bA1f); (try simp only [World.frozen?_drew] at bA1f); have sA1 := (GB_step (W := W0) (by with_reducible assumption) bA1).2; have zA1 := sA1.size; have yA1_0 : w.heap.size < wA1.heap.size := (by omega)) | (go_at_call 36; with_reducible refine (Ce.out _).mono ?_; rintro e wA2 ⟨rfl, bA2⟩; obtain ⟨bA2c, bA2f⟩ := bcell bA2; (try simp only [World.size_drew] at bA2c); (try simp only [World.cell?_drew] at bA2c); (try simp only [World.size_drew] at bA2f); (try simp only [World.frozen?_drew] at bA2f); have sA2 := (GB_step (W := W0) (by with_reducible assumption) bA2).2; have zA2 := sA2.size; have yA2_0 : w.heap.size < wA2.heap.size := (by omega)))
      all_goals
        go_wp2
        rw [Hr.out]
        refine bodyPost_ret (by simp [results, Try.results29, go_sem, bA2c, bA1c, bA0c, yA1_0, yA0_0, k0, y00]) rfl ⟨rfl, ?_⟩
        refine below_only B0 (R := w.heap.size) ?_ (by omega) (by omega)
        exact only_setCell (only_setCell (only_setCell (only_setCell (only_setCell sA2 (Or.inl rfl) _) (Or.inl rfl) _) (Or.inl rfl) _) (Or.inl rfl) _) (Or.inl rfl) _
    · have hz2 : F = j := hz.resolve_left hij
      have hij' : ¬ (i : Int) = (j : Int) := by omega
      clear hz hij
      subst hz2
      go_enter Try.func29, Try.ntmps29
      go_wp2_with (first | (go_at_call 31; refine (Ct.out _).mono ?_; rintro e w' ⟨rfl, rfl⟩) | (go_at_call 35; refine (C3.out _).mono ?_; rintro e w' ⟨rfl, rfl⟩))
      try rw [hW0]
      clear hW0
      go_region_held3 (fun w' => (∀ b o, b < W0.heap.size → b ≠ w.heap.size → w'.cell? ⟨b, o, none⟩ = W0.cell? ⟨b, o, none⟩) ∧ W0.grownBy w' (some (w.heap.size))) ((refine GB_mk ?_; repeat (first | (with_reducible exact grownBy_refl' _ _) | (with_reducible assumption) | (with_reducible refine only_drew ?_) | (with_reducible refine only_alloc ?_ _) | (with_reducible refine only_setCell ?_ (by first | (left; rfl) | (right; omega) | (right; simp; omega)) _)))) (first | (go_at_call 34; with_reducible refine (C1.out _).mono ?_; rintro e wA0 ⟨rfl, bA0⟩; obtain ⟨bA0c, bA0f⟩ := bcell bA0; (try simp only [World.size_drew] at bA0c); (try simp only [World.cell?_drew] at bA0c); (try simp only [World.size_drew] at bA0f); (try simp only [World.frozen?_drew] at bA0f); have sA0 := (GB_step (W := W0) (by with_reducible assumption) bA0).2; have zA0 := sA0.size; have yA0_0 : w.heap.size < wA0.heap.size := (by omega)) | (go_at_call 34; with_reducible refine (C2.out _).mono ?_; rintro e wA1 ⟨rfl, bA1⟩; obtain ⟨bA1c, bA1f⟩ := bcell bA1; (try simp only [World.size_drew] at bA1c); (try simp only [World.cell?_drew] at bA1c); (try simp only [World.size_drew] at bA1f); (try simp only [World.frozen?_drew] at bA1f); have sA1 := (GB_step (W := W0) (by with_reducible assumption) bA1).2; have zA1 := sA1.size; have yA1_0 : w.heap.size < wA1.heap.size := (by omega)) | (go_at_call 36; with_reducible refine (Ce.out _).mono ?_; rintro e wA2 ⟨rfl, bA2⟩; obtain ⟨bA2c, bA2f⟩ := bcell bA2; (try simp only [World.size_drew] at bA2c); (try simp only [World.cell?_drew] at bA2c); (try simp only [World.size_drew] at bA2f); (try simp only [World.frozen?_drew] at bA2f); have sA2 := (GB_step (W := W0) (by with_reducible assumption) bA2).2; have zA2 := sA2.size; have yA2_0 : w.heap.size < wA2.heap.size := (by omega)))
      all_goals
        go_wp2
        rw [Hr.out]
        refine bodyPost_ret (by simp [results, Try.results29, go_sem, bA2c, bA1c, bA0c, yA1_0, yA0_0, k0, y00]) rfl ⟨rfl, ?_⟩
        refine below_only B0 (R := w.heap.size) ?_ (by omega) (by omega)
        exact only_setCell (only_setCell (only_setCell (only_setCell (only_setCell sA2 (Or.inl rfl) _) (Or.inl rfl) _) (Or.inl rfl) _) (Or.inl rfl) _) (Or.inl rfl) _
  · have Hr : Hid (dyRes true (gmD k sa sb i j) = .tuple #[dv 0 0 0 0 0, .bool true]) := by show dyRes _ _ = _; rw [gmD_one' h8 (by rw [← hF]; exact hz)]; simp [dyRes, zeroD, rI_t]
    have hij' : ¬ (i : Int) = (j : Int) := fun e => hz (Or.inl (by omega))
    have hFj : ¬ (F : Int) = (j : Int) := fun e => hz (Or.inr (by omega))
    have hFb : ((F : Int) == (j : Int)) = false := by simpa using hFj
    have hib : ((i : Int) == (j : Int)) = false := by simpa using hij'
    clear hX hY hF hE h1 h8 hz
    go_enter Try.func29, Try.ntmps29
    go_wp2_with fail
    refine (Ct.out _).mono ?_
    rintro e w' ⟨rfl, rfl⟩
    go_wp2_with fail
    refine (C3.out _).mono ?_
    rintro e w' ⟨rfl, rfl⟩
    go_wp2
    rw [Hr.out]
    refine bodyPost_ret (by simp [results, Try.results29, go_sem]) rfl ⟨rfl, ?_⟩
    go_grown
end Go.Proofs.Ytlihnipbdckmkaa
