/- FormatPauli, of the program and of the reference. -/
import Derived.Test.YtcmkkjdleihjfaaPauM
import Derived.Laws.BytesString
import Derived.Laws.Concat
namespace Go.Proofs.Ytcmkkjdleihjfaa
open Go.RowKit

/-- a letter's byte -/
def letB (l : Nat) : UInt8 := if l = 0 then 73 else if l = 1 then 88 else if l = 2 then 90 else 89
/-- the text of a power of i -/
def preB (p : Nat) : ByteArray := if p = 0 then ⟨#[43]⟩ else if p = 1 then ⟨#[43, 105]⟩ else if p = 2 then ⟨#[45]⟩ else ⟨#[45, 105]⟩
def txtP (p x z : Nat) : Nat → ByteArray
  | 0 => preB p
  | k + 1 => txtP p x z k ++ ⟨#[letB (letN x z k)]⟩
theorem preB_size (p : Nat) : (preB p).size ≤ 2 := by
  unfold preB
  split
  · decide
  · split
    · decide
    · split <;> decide
theorem txtP_size (p x z : Nat) : ∀ k, (txtP p x z k).size ≤ 2 + k
  | 0 => preB_size p
  | k + 1 => by
    have h := txtP_size p x z k
    show (txtP p x z k ++ (⟨#[letB (letN x z k)]⟩ : ByteArray)).size ≤ _
    rw [ByteArray.size_append]
    show _ + 1 ≤ _
    omega
theorem bt_01 (n q : Nat) : bt n q = 0 ∨ bt n q = 1 := by
  have := bt_lt n q
  omega

theorem conv1 (W : World) (g : Nat) (c : UInt8) (t : TypeId) (h : W.heap[g]? = some (.cells #[.int .u8 (c.toNat : Int)] t (0, 0))) :
    (convert 35 9 (.slice (some ⟨g, 0, none⟩) 1 1)).run Try.prog W = .ok (.string ⟨#[c]⟩) W := by
  rw [run_convert_bytes_string W 35 9 5 _ _ _ Try.underlying35 Try.underlying5 Try.underlying9]
  have hl : (loadCells ⟨g, 0, none⟩ 1).run Try.prog W = .ok (([(c.toNat : Int)]).map (Value.int .u8)).toArray W := by
    have h0 := cell_of_row W g 0 _ t _ h
    simp at h0
    simp [loadCells, loadCellsFrom, go_sem, h0]
  rw [run_bytesToString W ⟨g, 0, none⟩ 1 1 [(c.toNat : Int)] hl]
  simp
  rfl

set_option maxRecDepth 100000 in
set_option maxHeartbeats 4000000 in
theorem letterOf_any (p : Int) (x z q : Nat) (w : World) (hx : x < 32) (hz : z < 32) (hq : q < 5) :
    Calls Try.prog 58 #[pv p (x : Int) (z : Int), .int .i64 (q : Int)] w fun e w' => e = .returned (.int .u8 ((letB (letN x z q)).toNat : Int)) ∧ Below w.heap.size w w' := by
  have h1 := bit_at ⟨x, hx⟩ ⟨q, hq⟩
  have h2 := bit_at ⟨z, hz⟩ ⟨q, hq⟩
  simp only at h1 h2
  rcases bt_01 x q with hb1 | hb1 <;> rcases bt_01 z q with hb2 | hb2
  all_goals
    have hl : letN x z q = bt x q + 2 * bt z q := rfl
    rw [hb1, hb2] at hl
    have Hl := Lib.hid hl
    rw [hb1] at h1
    rw [hb2] at h2
    clear hl hb1 hb2
    go_enter Try.func58, Try.ntmps58
    go_wp2_with fail
    go_quiet (fail)
    go_wp2
    go_ret
    rw [Hl.out]
    refine ⟨rfl, below_drewN' ?_ _⟩
    go_grown

theorem let_four (x z q : Nat) : letN x z q = 0 ∨ letN x z q = 1 ∨ letN x z q = 2 ∨ letN x z q = 3 := by
  have := letN_lt x z q
  omega

set_option maxRecDepth 100000 in
set_option maxHeartbeats 8000000 in
theorem l7Text_any (n p x z : Nat) (w : World) (hn : n ≤ 5) (hp : p < 4) (hx : x < 32) (hz : z < 32) :
    Calls Try.prog 56 #[.int .i64 (n : Int), pv (p : Int) (x : Int) (z : Int)] w fun e w' => e = .returned (.string (txtP p x z n)) ∧ Below w.heap.size w w' := by
  have hp4 : p = 0 ∨ p = 1 ∨ p = 2 ∨ p = 3 := by omega
  clear hp
  rcases hp4 with rfl | rfl | rfl | rfl
  · show Calls _ _ #[.int .i64 (n : Int), pv 0 (x : Int) (z : Int)] w _
    go_enter Try.func56, Try.ntmps56
    go_wp2_with fail
    go_loopw [5, 6] (fun s i wr => ∃ k : Nat, i = .int .i64 k ∧ k ≤ n ∧ s = .string (txtP 0 x z k) ∧ wr.heap[w.heap.size]? = some (.cells #[.int .i64 0, .int .i64 (x : Int), .int .i64 (z : Int)] 26 (0, 0)) ∧ Below w.heap.size w wr) (fun _ i _ => n - (intOf i).toNat)
    case atStart => exact ⟨0, rfl, Nat.zero_le _, rfl, (Below.heap_alloc _ _ _ (by go_size)).trans (heap_top _ _ rfl), by go_grown⟩
    case round =>
      obtain ⟨k, rfl, hk, rfl, hbox, hb⟩ := hrel
      have zb := (Array.getElem?_eq_some_iff.1 hbox).1
      have d0 := cell_of_row wr w.heap.size 0 _ _ _ hbox
      have d1 := cell_of_row wr w.heap.size 1 _ _ _ hbox
      have d2 := cell_of_row wr w.heap.size 2 _ _ _ hbox
      have Hbox := Lib.hid hbox
      clear hbox
      by_cases hlt : k < n
      · obtain ⟨s, hs⟩ : ∃ s, s = txtP 0 x z k := ⟨_, rfl⟩
        have hsz : s.size ≤ 7 := by
          rw [hs]
          have := txtP_size 0 x z k
          omega
        have hno : ¬ (9223372036854775807 < s.size + 1) := by omega
        have hst : txtP 0 x z (k + 1) = s ++ ⟨#[letB (letN x z k)]⟩ := by rw [hs]; rfl
        rw [← hs]
        clear hs
        rcases let_four x z k with hl | hl | hl | hl
        all_goals
          rw [hl] at hst
          have Hst := Lib.hid hst
          have Hl := Lib.hid hl
          clear hst hl
          go_wp2_with fail
          refine (l7Letter_any 0 x z k _ hx hz (by omega)).mono ?_
          rintro e w2 ⟨rfl, b2⟩
          rw [Hl.out]
          have hsb := (b2.block wr.heap.size (by go_size)).trans (heap_top _ _ rfl)
          have e0 := cell_of_row w2 wr.heap.size 0 _ _ _ hsb
          have e1 := cell_of_row w2 wr.heap.size 1 _ _ _ hsb
          have e2 := cell_of_row w2 wr.heap.size 2 _ _ _ hsb
          have e3 := cell_of_row w2 wr.heap.size 3 _ _ _ hsb
          have Hbox2 := Lib.hid ((b2.block w.heap.size (by go_size)).trans ((Below.heap_alloc _ _ _ zb).trans Hbox.out))
          have B2 : Below w.heap.size w w2 := hb.trans (Below.trans ((Below.refl _ _).alloc hb.size _) (b2.mono (by simp; omega)))
          clear hsb b2
          go_wp2
          go_roundw
          case rel => exact ⟨k + 1, by go_num, by omega, by rw [Hst.out]; rfl, Hbox2.out, B2⟩
          case measure => simp [intOf]; omega
      · obtain rfl : k = n := by omega
        go_wp2
        go_ret
        exact ⟨rfl, hb⟩
  · show Calls _ _ #[.int .i64 (n : Int), pv 1 (x : Int) (z : Int)] w _
    go_enter Try.func56, Try.ntmps56
    go_wp2_with fail
    go_loopw [5, 6] (fun s i wr => ∃ k : Nat, i = .int .i64 k ∧ k ≤ n ∧ s = .string (txtP 1 x z k) ∧ wr.heap[w.heap.size]? = some (.cells #[.int .i64 1, .int .i64 (x : Int), .int .i64 (z : Int)] 26 (0, 0)) ∧ Below w.heap.size w wr) (fun _ i _ => n - (intOf i).toNat)
    case atStart => exact ⟨0, rfl, Nat.zero_le _, rfl, (Below.heap_alloc _ _ _ (by go_size)).trans (heap_top _ _ rfl), by go_grown⟩
    case round =>
      obtain ⟨k, rfl, hk, rfl, hbox, hb⟩ := hrel
      have zb := (Array.getElem?_eq_some_iff.1 hbox).1
      have d0 := cell_of_row wr w.heap.size 0 _ _ _ hbox
      have d1 := cell_of_row wr w.heap.size 1 _ _ _ hbox
      have d2 := cell_of_row wr w.heap.size 2 _ _ _ hbox
      have Hbox := Lib.hid hbox
      clear hbox
      by_cases hlt : k < n
      · obtain ⟨s, hs⟩ : ∃ s, s = txtP 1 x z k := ⟨_, rfl⟩
        have hsz : s.size ≤ 7 := by
          rw [hs]
          have := txtP_size 1 x z k
          omega
        have hno : ¬ (9223372036854775807 < s.size + 1) := by omega
        have hst : txtP 1 x z (k + 1) = s ++ ⟨#[letB (letN x z k)]⟩ := by rw [hs]; rfl
        rw [← hs]
        clear hs
        rcases let_four x z k with hl | hl | hl | hl
        all_goals
          rw [hl] at hst
          have Hst := Lib.hid hst
          have Hl := Lib.hid hl
          clear hst hl
          go_wp2_with fail
          refine (l7Letter_any 1 x z k _ hx hz (by omega)).mono ?_
          rintro e w2 ⟨rfl, b2⟩
          rw [Hl.out]
          have hsb := (b2.block wr.heap.size (by go_size)).trans (heap_top _ _ rfl)
          have e0 := cell_of_row w2 wr.heap.size 0 _ _ _ hsb
          have e1 := cell_of_row w2 wr.heap.size 1 _ _ _ hsb
          have e2 := cell_of_row w2 wr.heap.size 2 _ _ _ hsb
          have e3 := cell_of_row w2 wr.heap.size 3 _ _ _ hsb
          have Hbox2 := Lib.hid ((b2.block w.heap.size (by go_size)).trans ((Below.heap_alloc _ _ _ zb).trans Hbox.out))
          have B2 : Below w.heap.size w w2 := hb.trans (Below.trans ((Below.refl _ _).alloc hb.size _) (b2.mono (by simp; omega)))
          clear hsb b2
          go_wp2
          go_roundw
          case rel => exact ⟨k + 1, by go_num, by omega, by rw [Hst.out]; rfl, Hbox2.out, B2⟩
          case measure => simp [intOf]; omega
      · obtain rfl : k = n := by omega
        go_wp2
        go_ret
        exact ⟨rfl, hb⟩
  · show Calls _ _ #[.int .i64 (n : Int), pv 2 (x : Int) (z : Int)] w _
    go_enter Try.func56, Try.ntmps56
    go_wp2_with fail
    go_loopw [5, 6] (fun s i wr => ∃ k : Nat, i = .int .i64 k ∧ k ≤ n ∧ s = .string (txtP 2 x z k) ∧ wr.heap[w.heap.size]? = some (.cells #[.int .i64 2, .int .i64 (x : Int), .int .i64 (z : Int)] 26 (0, 0)) ∧ Below w.heap.size w wr) (fun _ i _ => n - (intOf i).toNat)
    case atStart => exact ⟨0, rfl, Nat.zero_le _, rfl, (Below.heap_alloc _ _ _ (by go_size)).trans (heap_top _ _ rfl), by go_grown⟩
    case round =>
      obtain ⟨k, rfl, hk, rfl, hbox, hb⟩ := hrel
      have zb := (Array.getElem?_eq_some_iff.1 hbox).1
      have d0 := cell_of_row wr w.heap.size 0 _ _ _ hbox
      have d1 := cell_of_row wr w.heap.size 1 _ _ _ hbox
      have d2 := cell_of_row wr w.heap.size 2 _ _ _ hbox
      have Hbox := Lib.hid hbox
      clear hbox
      by_cases hlt : k < n
      · obtain ⟨s, hs⟩ : ∃ s, s = txtP 2 x z k := ⟨_, rfl⟩
        have hsz : s.size ≤ 7 := by
          rw [hs]
          have := txtP_size 2 x z k
          omega
        have hno : ¬ (9223372036854775807 < s.size + 1) := by omega
        have hst : txtP 2 x z (k + 1) = s ++ ⟨#[letB (letN x z k)]⟩ := by rw [hs]; rfl
        rw [← hs]
        clear hs
        rcases let_four x z k with hl | hl | hl | hl
        all_goals
          rw [hl] at hst
          have Hst := Lib.hid hst
          have Hl := Lib.hid hl
          clear hst hl
          go_wp2_with fail
          refine (l7Letter_any 2 x z k _ hx hz (by omega)).mono ?_
          rintro e w2 ⟨rfl, b2⟩
          rw [Hl.out]
          have hsb := (b2.block wr.heap.size (by go_size)).trans (heap_top _ _ rfl)
          have e0 := cell_of_row w2 wr.heap.size 0 _ _ _ hsb
          have e1 := cell_of_row w2 wr.heap.size 1 _ _ _ hsb
          have e2 := cell_of_row w2 wr.heap.size 2 _ _ _ hsb
          have e3 := cell_of_row w2 wr.heap.size 3 _ _ _ hsb
          have Hbox2 := Lib.hid ((b2.block w.heap.size (by go_size)).trans ((Below.heap_alloc _ _ _ zb).trans Hbox.out))
          have B2 : Below w.heap.size w w2 := hb.trans (Below.trans ((Below.refl _ _).alloc hb.size _) (b2.mono (by simp; omega)))
          clear hsb b2
          go_wp2
          go_roundw
          case rel => exact ⟨k + 1, by go_num, by omega, by rw [Hst.out]; rfl, Hbox2.out, B2⟩
          case measure => simp [intOf]; omega
      · obtain rfl : k = n := by omega
        go_wp2
        go_ret
        exact ⟨rfl, hb⟩
  · show Calls _ _ #[.int .i64 (n : Int), pv 3 (x : Int) (z : Int)] w _
    go_enter Try.func56, Try.ntmps56
    go_wp2_with fail
    go_loopw [5, 6] (fun s i wr => ∃ k : Nat, i = .int .i64 k ∧ k ≤ n ∧ s = .string (txtP 3 x z k) ∧ wr.heap[w.heap.size]? = some (.cells #[.int .i64 3, .int .i64 (x : Int), .int .i64 (z : Int)] 26 (0, 0)) ∧ Below w.heap.size w wr) (fun _ i _ => n - (intOf i).toNat)
    case atStart => exact ⟨0, rfl, Nat.zero_le _, rfl, (Below.heap_alloc _ _ _ (by go_size)).trans (heap_top _ _ rfl), by go_grown⟩
    case round =>
      obtain ⟨k, rfl, hk, rfl, hbox, hb⟩ := hrel
      have zb := (Array.getElem?_eq_some_iff.1 hbox).1
      have d0 := cell_of_row wr w.heap.size 0 _ _ _ hbox
      have d1 := cell_of_row wr w.heap.size 1 _ _ _ hbox
      have d2 := cell_of_row wr w.heap.size 2 _ _ _ hbox
      have Hbox := Lib.hid hbox
      clear hbox
      by_cases hlt : k < n
      · obtain ⟨s, hs⟩ : ∃ s, s = txtP 3 x z k := ⟨_, rfl⟩
        have hsz : s.size ≤ 7 := by
          rw [hs]
          have := txtP_size 3 x z k
          omega
        have hno : ¬ (9223372036854775807 < s.size + 1) := by omega
        have hst : txtP 3 x z (k + 1) = s ++ ⟨#[letB (letN x z k)]⟩ := by rw [hs]; rfl
        rw [← hs]
        clear hs
        rcases let_four x z k with hl | hl | hl | hl
        all_goals
          rw [hl] at hst
          have Hst := Lib.hid hst
          have Hl := Lib.hid hl
          clear hst hl
          go_wp2_with fail
          refine (l7Letter_any 3 x z k _ hx hz (by omega)).mono ?_
          rintro e w2 ⟨rfl, b2⟩
          rw [Hl.out]
          have hsb := (b2.block wr.heap.size (by go_size)).trans (heap_top _ _ rfl)
          have e0 := cell_of_row w2 wr.heap.size 0 _ _ _ hsb
          have e1 := cell_of_row w2 wr.heap.size 1 _ _ _ hsb
          have e2 := cell_of_row w2 wr.heap.size 2 _ _ _ hsb
          have e3 := cell_of_row w2 wr.heap.size 3 _ _ _ hsb
          have Hbox2 := Lib.hid ((b2.block w.heap.size (by go_size)).trans ((Below.heap_alloc _ _ _ zb).trans Hbox.out))
          have B2 : Below w.heap.size w w2 := hb.trans (Below.trans ((Below.refl _ _).alloc hb.size _) (b2.mono (by simp; omega)))
          clear hsb b2
          go_wp2
          go_roundw
          case rel => exact ⟨k + 1, by go_num, by omega, by rw [Hst.out]; rfl, Hbox2.out, B2⟩
          case measure => simp [intOf]; omega
      · obtain rfl : k = n := by omega
        go_wp2
        go_ret
        exact ⟨rfl, hb⟩

def fmtRes (n p x z : Int) : Value := .tuple #[.string (if pauliB n p x z then txtP p.toNat x.toNat z.toNat n.toNat else ⟨#[]⟩), .bool (pauliB n p x z)]
theorem pauli_nats {n p x z : Int} (h : pauliB n p x z = true) : ∃ N P X Z : Nat, n = (N : Int) ∧ p = (P : Int) ∧ x = (X : Int) ∧ z = (Z : Int) ∧ N ≤ 5 ∧ P < 4 ∧ X < 32 ∧ Z < 32 := by
  unfold pauliB at h
  rw [Bool.and_eq_true, Bool.and_eq_true, Bool.and_eq_true] at h
  obtain ⟨⟨⟨h1, h2⟩, h3⟩, h4⟩ := h
  have k1 := inB_t.1 h1
  have k2 := inB_t.1 h2
  have k3 := inB_t.1 h3
  have k4 := inB_t.1 h4
  have hp := pow_bd k1.1 k1.2
  exact ⟨n.toNat, p.toNat, x.toNat, z.toNat, by omega, by omega, by omega, by omega, by omega, by omega, by omega, by omega⟩

set_option maxRecDepth 100000 in
set_option maxHeartbeats 4000000 in
theorem specFormatPauli_any (n p x z : Int) (w : World) :
    Calls Try.prog 12 #[.int .i64 n, pv p x z] w fun e w' => e = .returned (fmtRes n p x z) ∧ Below w.heap.size w w' := by
  rcases hok : pauliB n p x z with _ | _
  · go_enter Try.func12, Try.ntmps12
    go_wp2_with fail
    refine (l7Valid_any n p x z _).mono ?_
    rintro e w1 ⟨rfl, b1⟩
    obtain ⟨b1c, b1f⟩ := bcell b1
    have z1 := b1.size
    try simp only [World.size_alloc] at z1
    have B1 : Below w.heap.size w w1 := Below.chain (Below.refl _ _) (by go_grown) b1 (by go_size)
    have y10 : w.heap.size < w1.heap.size := by omega
    rw [hok]
    go_wp2
    go_ret2
    refine ⟨by rw [fmtRes, hok]; rfl, ?_⟩
    go_grown
  · have Hok := Lib.hid hok
    obtain ⟨N, P, X, Z, rfl, rfl, rfl, rfl, h1, h2, h3, h4⟩ := pauli_nats hok
    have Hr : Hid (fmtRes N P X Z = .tuple #[.string (txtP P X Z N), .bool true]) := by show _ = _; rw [fmtRes, hok]; rfl
    clear hok
    go_enter Try.func12, Try.ntmps12
    go_wp2_with fail
    refine (l7Valid_any N P X Z _).mono ?_
    rintro e w1 ⟨rfl, b1⟩
    obtain ⟨b1c, b1f⟩ := bcell b1
    have z1 := b1.size
    try simp only [World.size_alloc] at z1
    have B1 : Below w.heap.size w w1 := Below.chain (Below.refl _ _) (by go_grown) b1 (by go_size)
    have y10 : w.heap.size < w1.heap.size := by omega
    rw [Hok.out]
    go_wp2_with fail
    refine (l7Text_any N P X Z _ h1 h2 h3 h4).mono ?_
    rintro e w2 ⟨rfl, b2⟩
    have z2 := b2.size
    try simp only [World.size_alloc] at z2
    have C2 := Below.chain b1 (by go_grown) b2 (by go_size)
    have B2 : Below w.heap.size w w2 := Below.chain B1 (by go_grown) b2 (by go_size)
    obtain ⟨b2c, b2f⟩ := bcell b2
    obtain ⟨C2c, C2f⟩ := bcellB C2
    have y20 : w.heap.size < w2.heap.size := by omega
    try (have v21 : w1.heap.size < w2.heap.size := by omega)
    go_wp2
    go_ret2
    refine ⟨Hr.out.symm ▸ rfl, ?_⟩
    go_grown

set_option maxRecDepth 100000 in
set_option maxHeartbeats 8000000 in
theorem implText_any (n p x z : Nat) (w : World) (Hok : Hid (pauliB n p x z = true)) (hn : n ≤ 5) (hp : p < 4) (hx : x < 32) (hz : z < 32) :
    Calls Try.prog 14 #[.int .i64 (n : Int), pv (p : Int) (x : Int) (z : Int)] w fun e w' => e = .returned (fmtRes n p x z) ∧ Below w.heap.size w w' := by
  unfold fmtRes
  have hp4 : p = 0 ∨ p = 1 ∨ p = 2 ∨ p = 3 := by omega
  clear hp
  rcases hp4 with rfl | rfl | rfl | rfl
  · show Calls _ _ #[.int .i64 (n : Int), pv 0 (x : Int) (z : Int)] w _
    go_enter Try.func14, Try.ntmps14
    go_wp2_with fail
    refine (implValidPauli_any n 0 x z _).mono ?_
    rintro e w1 ⟨rfl, b1⟩
    obtain ⟨b1c, b1f⟩ := bcell b1
    have z1 := b1.size
    try simp only [World.size_alloc] at z1
    have B1 : Below w.heap.size w w1 := Below.chain (Below.refl _ _) (by go_grown) b1 (by go_size)
    have y10 : w.heap.size < w1.heap.size := by omega
    have hv : pauliB (n : Int) 0 (x : Int) (z : Int) = true := Hok.out
    rw [hv]
    have Hbx := Lib.hid ((b1.block w.heap.size (by go_size)).trans (heap_top _ _ rfl))
    have q0 := cell_of_row w1 w.heap.size 0 _ _ _ Hbx.out
    have q1 := cell_of_row w1 w.heap.size 1 _ _ _ Hbx.out
    have q2 := cell_of_row w1 w.heap.size 2 _ _ _ Hbx.out
    clear b1 b1c b1f hv
    have hix : (Instr.index 82 (.agg #[.string ⟨#[43]⟩, .string ⟨#[43, 105]⟩, .string ⟨#[45]⟩, .string ⟨#[45, 105]⟩]) (.int .i64 0)).run Try.prog w1 = .ok (.string ⟨#[43]⟩) w1 := by simp [Instr.index, run_underlying Try.underlying82, asIntOf, go_sem]
    go_wp2_with fail
    go_loopw [6, 17] (fun s i wr => ∃ k : Nat, i = .int .i64 k ∧ k ≤ n ∧ s = .string (txtP 0 x z k) ∧ wr.heap[w.heap.size]? = some (.cells #[.int .i64 0, .int .i64 (x : Int), .int .i64 (z : Int)] 26 (0, 0)) ∧ Below w.heap.size w wr) (fun _ i _ => n - (intOf i).toNat)
    case atStart => exact ⟨0, rfl, Nat.zero_le _, rfl, Hbx.out, by go_grown⟩
    case round =>
      obtain ⟨k, rfl, hk, rfl, hbox, hb⟩ := hrel
      have zb := (Array.getElem?_eq_some_iff.1 hbox).1
      have d0 := cell_of_row wr w.heap.size 0 _ _ _ hbox
      have d1 := cell_of_row wr w.heap.size 1 _ _ _ hbox
      have d2 := cell_of_row wr w.heap.size 2 _ _ _ hbox
      have Hbox := Lib.hid hbox
      clear hbox
      by_cases hlt : k < n
      · obtain ⟨s, hs⟩ : ∃ s, s = txtP 0 x z k := ⟨_, rfl⟩
        have hsz : s.size ≤ 7 := by
          rw [hs]
          have := txtP_size 0 x z k
          omega
        have hno : ¬ (9223372036854775807 < s.size + 1) := by omega
        have hst : txtP 0 x z (k + 1) = s ++ ⟨#[letB (letN x z k)]⟩ := by rw [hs]; rfl
        rw [← hs]
        clear hs
        obtain ⟨c, hc⟩ : ∃ c, c = letB (letN x z k) := ⟨_, rfl⟩
        rw [← hc] at hst
        have Hst := Lib.hid hst
        have Hc := Lib.hid hc
        clear hst hc
        go_wp2_with fail
        refine (letterOf_any 0 x z k _ hx hz (by omega)).mono ?_
        rintro e w2 ⟨rfl, b2⟩
        rw [← Hc.out]
        have Hbox2 := Lib.hid ((b2.block w.heap.size zb).trans Hbox.out)
        have B2 : Below w.heap.size w w2 := hb.trans (b2.mono hb.size)
        have z2 := b2.size
        have hcv := conv1 (w2.alloc (.cells #[.int .u8 (c.toNat : Int)] 5)) w2.heap.size c 5 (heap_top _ _ rfl)
        clear b2
        go_wp2
        go_roundw
        case rel => exact ⟨k + 1, by go_num, by omega, by rw [Hst.out], (Below.heap_alloc _ _ _ (by omega)).trans Hbox2.out, by go_grown⟩
        case measure => simp [intOf]; omega
      · obtain rfl : k = n := by omega
        go_wp2
        go_ret2
        exact ⟨by first | rfl | (rw [Hok.out]; rfl), hb⟩
  · show Calls _ _ #[.int .i64 (n : Int), pv 1 (x : Int) (z : Int)] w _
    go_enter Try.func14, Try.ntmps14
    go_wp2_with fail
    refine (implValidPauli_any n 1 x z _).mono ?_
    rintro e w1 ⟨rfl, b1⟩
    obtain ⟨b1c, b1f⟩ := bcell b1
    have z1 := b1.size
    try simp only [World.size_alloc] at z1
    have B1 : Below w.heap.size w w1 := Below.chain (Below.refl _ _) (by go_grown) b1 (by go_size)
    have y10 : w.heap.size < w1.heap.size := by omega
    have hv : pauliB (n : Int) 1 (x : Int) (z : Int) = true := Hok.out
    rw [hv]
    have Hbx := Lib.hid ((b1.block w.heap.size (by go_size)).trans (heap_top _ _ rfl))
    have q0 := cell_of_row w1 w.heap.size 0 _ _ _ Hbx.out
    have q1 := cell_of_row w1 w.heap.size 1 _ _ _ Hbx.out
    have q2 := cell_of_row w1 w.heap.size 2 _ _ _ Hbx.out
    clear b1 b1c b1f hv
    have hix : (Instr.index 82 (.agg #[.string ⟨#[43]⟩, .string ⟨#[43, 105]⟩, .string ⟨#[45]⟩, .string ⟨#[45, 105]⟩]) (.int .i64 1)).run Try.prog w1 = .ok (.string ⟨#[43, 105]⟩) w1 := by simp [Instr.index, run_underlying Try.underlying82, asIntOf, go_sem]
    go_wp2_with fail
    go_loopw [6, 17] (fun s i wr => ∃ k : Nat, i = .int .i64 k ∧ k ≤ n ∧ s = .string (txtP 1 x z k) ∧ wr.heap[w.heap.size]? = some (.cells #[.int .i64 1, .int .i64 (x : Int), .int .i64 (z : Int)] 26 (0, 0)) ∧ Below w.heap.size w wr) (fun _ i _ => n - (intOf i).toNat)
    case atStart => exact ⟨0, rfl, Nat.zero_le _, rfl, Hbx.out, by go_grown⟩
    case round =>
      obtain ⟨k, rfl, hk, rfl, hbox, hb⟩ := hrel
      have zb := (Array.getElem?_eq_some_iff.1 hbox).1
      have d0 := cell_of_row wr w.heap.size 0 _ _ _ hbox
      have d1 := cell_of_row wr w.heap.size 1 _ _ _ hbox
      have d2 := cell_of_row wr w.heap.size 2 _ _ _ hbox
      have Hbox := Lib.hid hbox
      clear hbox
      by_cases hlt : k < n
      · obtain ⟨s, hs⟩ : ∃ s, s = txtP 1 x z k := ⟨_, rfl⟩
        have hsz : s.size ≤ 7 := by
          rw [hs]
          have := txtP_size 1 x z k
          omega
        have hno : ¬ (9223372036854775807 < s.size + 1) := by omega
        have hst : txtP 1 x z (k + 1) = s ++ ⟨#[letB (letN x z k)]⟩ := by rw [hs]; rfl
        rw [← hs]
        clear hs
        obtain ⟨c, hc⟩ : ∃ c, c = letB (letN x z k) := ⟨_, rfl⟩
        rw [← hc] at hst
        have Hst := Lib.hid hst
        have Hc := Lib.hid hc
        clear hst hc
        go_wp2_with fail
        refine (letterOf_any 1 x z k _ hx hz (by omega)).mono ?_
        rintro e w2 ⟨rfl, b2⟩
        rw [← Hc.out]
        have Hbox2 := Lib.hid ((b2.block w.heap.size zb).trans Hbox.out)
        have B2 : Below w.heap.size w w2 := hb.trans (b2.mono hb.size)
        have z2 := b2.size
        have hcv := conv1 (w2.alloc (.cells #[.int .u8 (c.toNat : Int)] 5)) w2.heap.size c 5 (heap_top _ _ rfl)
        clear b2
        go_wp2
        go_roundw
        case rel => exact ⟨k + 1, by go_num, by omega, by rw [Hst.out], (Below.heap_alloc _ _ _ (by omega)).trans Hbox2.out, by go_grown⟩
        case measure => simp [intOf]; omega
      · obtain rfl : k = n := by omega
        go_wp2
        go_ret2
        exact ⟨by first | rfl | (rw [Hok.out]; rfl), hb⟩
  · show Calls _ _ #[.int .i64 (n : Int), pv 2 (x : Int) (z : Int)] w _
    go_enter Try.func14, Try.ntmps14
    go_wp2_with fail
    refine (implValidPauli_any n 2 x z _).mono ?_
    rintro e w1 ⟨rfl, b1⟩
    obtain ⟨b1c, b1f⟩ := bcell b1
    have z1 := b1.size
    try simp only [World.size_alloc] at z1
    have B1 : Below w.heap.size w w1 := Below.chain (Below.refl _ _) (by go_grown) b1 (by go_size)
    have y10 : w.heap.size < w1.heap.size := by omega
    have hv : pauliB (n : Int) 2 (x : Int) (z : Int) = true := Hok.out
    rw [hv]
    have Hbx := Lib.hid ((b1.block w.heap.size (by go_size)).trans (heap_top _ _ rfl))
    have q0 := cell_of_row w1 w.heap.size 0 _ _ _ Hbx.out
    have q1 := cell_of_row w1 w.heap.size 1 _ _ _ Hbx.out
    have q2 := cell_of_row w1 w.heap.size 2 _ _ _ Hbx.out
    clear b1 b1c b1f hv
    have hix : (Instr.index 82 (.agg #[.string ⟨#[43]⟩, .string ⟨#[43, 105]⟩, .string ⟨#[45]⟩, .string ⟨#[45, 105]⟩]) (.int .i64 2)).run Try.prog w1 = .ok (.string ⟨#[45]⟩) w1 := by simp [Instr.index, run_underlying Try.underlying82, asIntOf, go_sem]
    go_wp2_with fail
    go_loopw [6, 17] (fun s i wr => ∃ k : Nat, i = .int .i64 k ∧ k ≤ n ∧ s = .string (txtP 2 x z k) ∧ wr.heap[w.heap.size]? = some (.cells #[.int .i64 2, .int .i64 (x : Int), .int .i64 (z : Int)] 26 (0, 0)) ∧ Below w.heap.size w wr) (fun _ i _ => n - (intOf i).toNat)
    case atStart => exact ⟨0, rfl, Nat.zero_le _, rfl, Hbx.out, by go_grown⟩
    case round =>
      obtain ⟨k, rfl, hk, rfl, hbox, hb⟩ := hrel
      have zb := (Array.getElem?_eq_some_iff.1 hbox).1
      have d0 := cell_of_row wr w.heap.size 0 _ _ _ hbox
      have d1 := cell_of_row wr w.heap.size 1 _ _ _ hbox
      have d2 := cell_of_row wr w.heap.size 2 _ _ _ hbox
      have Hbox := Lib.hid hbox
      clear hbox
      by_cases hlt : k < n
      · obtain ⟨s, hs⟩ : ∃ s, s = txtP 2 x z k := ⟨_, rfl⟩
        have hsz : s.size ≤ 7 := by
          rw [hs]
          have := txtP_size 2 x z k
          omega
        have hno : ¬ (9223372036854775807 < s.size + 1) := by omega
        have hst : txtP 2 x z (k + 1) = s ++ ⟨#[letB (letN x z k)]⟩ := by rw [hs]; rfl
        rw [← hs]
        clear hs
        obtain ⟨c, hc⟩ : ∃ c, c = letB (letN x z k) := ⟨_, rfl⟩
        rw [← hc] at hst
        have Hst := Lib.hid hst
        have Hc := Lib.hid hc
        clear hst hc
        go_wp2_with fail
        refine (letterOf_any 2 x z k _ hx hz (by omega)).mono ?_
        rintro e w2 ⟨rfl, b2⟩
        rw [← Hc.out]
        have Hbox2 := Lib.hid ((b2.block w.heap.size zb).trans Hbox.out)
        have B2 : Below w.heap.size w w2 := hb.trans (b2.mono hb.size)
        have z2 := b2.size
        have hcv := conv1 (w2.alloc (.cells #[.int .u8 (c.toNat : Int)] 5)) w2.heap.size c 5 (heap_top _ _ rfl)
        clear b2
        go_wp2
        go_roundw
        case rel => exact ⟨k + 1, by go_num, by omega, by rw [Hst.out], (Below.heap_alloc _ _ _ (by omega)).trans Hbox2.out, by go_grown⟩
        case measure => simp [intOf]; omega
      · obtain rfl : k = n := by omega
        go_wp2
        go_ret2
        exact ⟨by first | rfl | (rw [Hok.out]; rfl), hb⟩
  · show Calls _ _ #[.int .i64 (n : Int), pv 3 (x : Int) (z : Int)] w _
    go_enter Try.func14, Try.ntmps14
    go_wp2_with fail
    refine (implValidPauli_any n 3 x z _).mono ?_
    rintro e w1 ⟨rfl, b1⟩
    obtain ⟨b1c, b1f⟩ := bcell b1
    have z1 := b1.size
    try simp only [World.size_alloc] at z1
    have B1 : Below w.heap.size w w1 := Below.chain (Below.refl _ _) (by go_grown) b1 (by go_size)
    have y10 : w.heap.size < w1.heap.size := by omega
    have hv : pauliB (n : Int) 3 (x : Int) (z : Int) = true := Hok.out
    rw [hv]
    have Hbx := Lib.hid ((b1.block w.heap.size (by go_size)).trans (heap_top _ _ rfl))
    have q0 := cell_of_row w1 w.heap.size 0 _ _ _ Hbx.out
    have q1 := cell_of_row w1 w.heap.size 1 _ _ _ Hbx.out
    have q2 := cell_of_row w1 w.heap.size 2 _ _ _ Hbx.out
    clear b1 b1c b1f hv
    have hix : (Instr.index 82 (.agg #[.string ⟨#[43]⟩, .string ⟨#[43, 105]⟩, .string ⟨#[45]⟩, .string ⟨#[45, 105]⟩]) (.int .i64 3)).run Try.prog w1 = .ok (.string ⟨#[45, 105]⟩) w1 := by simp [Instr.index, run_underlying Try.underlying82, asIntOf, go_sem]
    go_wp2_with fail
    go_loopw [6, 17] (fun s i wr => ∃ k : Nat, i = .int .i64 k ∧ k ≤ n ∧ s = .string (txtP 3 x z k) ∧ wr.heap[w.heap.size]? = some (.cells #[.int .i64 3, .int .i64 (x : Int), .int .i64 (z : Int)] 26 (0, 0)) ∧ Below w.heap.size w wr) (fun _ i _ => n - (intOf i).toNat)
    case atStart => exact ⟨0, rfl, Nat.zero_le _, rfl, Hbx.out, by go_grown⟩
    case round =>
      obtain ⟨k, rfl, hk, rfl, hbox, hb⟩ := hrel
      have zb := (Array.getElem?_eq_some_iff.1 hbox).1
      have d0 := cell_of_row wr w.heap.size 0 _ _ _ hbox
      have d1 := cell_of_row wr w.heap.size 1 _ _ _ hbox
      have d2 := cell_of_row wr w.heap.size 2 _ _ _ hbox
      have Hbox := Lib.hid hbox
      clear hbox
      by_cases hlt : k < n
      · obtain ⟨s, hs⟩ : ∃ s, s = txtP 3 x z k := ⟨_, rfl⟩
        have hsz : s.size ≤ 7 := by
          rw [hs]
          have := txtP_size 3 x z k
          omega
        have hno : ¬ (9223372036854775807 < s.size + 1) := by omega
        have hst : txtP 3 x z (k + 1) = s ++ ⟨#[letB (letN x z k)]⟩ := by rw [hs]; rfl
        rw [← hs]
        clear hs
        obtain ⟨c, hc⟩ : ∃ c, c = letB (letN x z k) := ⟨_, rfl⟩
        rw [← hc] at hst
        have Hst := Lib.hid hst
        have Hc := Lib.hid hc
        clear hst hc
        go_wp2_with fail
        refine (letterOf_any 3 x z k _ hx hz (by omega)).mono ?_
        rintro e w2 ⟨rfl, b2⟩
        rw [← Hc.out]
        have Hbox2 := Lib.hid ((b2.block w.heap.size zb).trans Hbox.out)
        have B2 : Below w.heap.size w w2 := hb.trans (b2.mono hb.size)
        have z2 := b2.size
        have hcv := conv1 (w2.alloc (.cells #[.int .u8 (c.toNat : Int)] 5)) w2.heap.size c 5 (heap_top _ _ rfl)
        clear b2
        go_wp2
        go_roundw
        case rel => exact ⟨k + 1, by go_num, by omega, by rw [Hst.out], (Below.heap_alloc _ _ _ (by omega)).trans Hbox2.out, by go_grown⟩
        case measure => simp [intOf]; omega
      · obtain rfl : k = n := by omega
        go_wp2
        go_ret2
        exact ⟨by first | rfl | (rw [Hok.out]; rfl), hb⟩

theorem implFormatPauli_any (n p x z : Int) (w : World) :
    Calls Try.prog 14 #[.int .i64 n, pv p x z] w fun e w' => e = .returned (fmtRes n p x z) ∧ Below w.heap.size w w' := by
  rcases hok : pauliB n p x z with _ | _
  · go_enter Try.func14, Try.ntmps14
    go_wp2_with fail
    refine (implValidPauli_any n p x z _).mono ?_
    rintro e w1 ⟨rfl, b1⟩
    obtain ⟨b1c, b1f⟩ := bcell b1
    have z1 := b1.size
    try simp only [World.size_alloc] at z1
    have B1 : Below w.heap.size w w1 := Below.chain (Below.refl _ _) (by go_grown) b1 (by go_size)
    have y10 : w.heap.size < w1.heap.size := by omega
    rw [hok]
    go_wp2
    go_ret2
    refine ⟨by rw [fmtRes, hok]; rfl, ?_⟩
    go_grown
  · obtain ⟨N, P, X, Z, rfl, rfl, rfl, rfl, h1, h2, h3, h4⟩ := pauli_nats hok
    exact implText_any N P X Z w hok h1 h2 h3 h4
end Go.Proofs.Ytcmkkjdleihjfaa
