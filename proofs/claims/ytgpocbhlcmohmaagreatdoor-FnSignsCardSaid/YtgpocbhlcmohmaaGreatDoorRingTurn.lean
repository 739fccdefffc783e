/- Powers of w: l1Turn, MulOmega, of the program and of the reference. -/
import Derived.Test.YtgpocbhlcmohmaaGreatDoorRingOps
import Derived.Deep.Draws
namespace Go.Proofs.YtgpocbhlcmohmaaGreatDoor
open Go.RowKit

def turn1 (x : Q4) : Q4 := (-x.2.2.2, x.1, x.2.1, x.2.2.1)
def turnN : Nat → Q4 → Q4
  | 0, x => x
  | n + 1, x => turn1 (turnN n x)
theorem turnN_ok (n : Nat) (x : Q4) (h : okQ x = true) : okQ (turnN n x) = true := by
  induction n with
  | zero => exact h
  | succ n ih =>
    have := rOk_iff.1 ih
    refine rOk_iff.2 ?_
    simp only [turnN, turn1]
    omega
/-- how often x is turned for a power k -/
def omN (k : Int) : Nat := ((k.tmod 8 + 8) % 8).toNat
theorem omN_eq (k : Int) : (k.tmod 8 + 8) % 8 = ((omN k : Nat) : Int) := by
  unfold omN
  omega
theorem tmod8_bd (k : Int) : -8 < k.tmod 8 ∧ k.tmod 8 < 8 := by
  have h1 := Int.tmod_lt_of_pos k (by decide : (0 : Int) < 8)
  have h2 := Int.lt_tmod_of_pos k (by decide : (0 : Int) < 8)
  omega

/-- block g is just these four cells -/
def Blk4 (w : World) (g : Nat) (x : Q4) : Prop := w.heap[g]? = some (.cells #[.int .i64 x.1, .int .i64 x.2.1, .int .i64 x.2.2.1, .int .i64 x.2.2.2] 29 (0, 0))
theorem Blk4.cell {w : World} {g : Nat} {x : Q4} (h : Blk4 w g x) : w.cell? ⟨g, 0, none⟩ = some (.int .i64 x.1) ∧ w.cell? ⟨g, 1, none⟩ = some (.int .i64 x.2.1) ∧ w.cell? ⟨g, 2, none⟩ = some (.int .i64 x.2.2.1) ∧ w.cell? ⟨g, 3, none⟩ = some (.int .i64 x.2.2.2) :=
  ⟨cell_of_row w g 0 _ _ _ h, cell_of_row w g 1 _ _ _ h, cell_of_row w g 2 _ _ _ h, cell_of_row w g 3 _ _ _ h⟩
theorem Blk4.frozen {w : World} {g : Nat} {x : Q4} (h : Blk4 w g x) (o : Nat) : w.frozen? ⟨g, o, none⟩ = false := by
  unfold Blk4 at h
  simp [World.frozen?, h]
theorem Blk4.set4 {w : World} {g : Nat} {x : Q4} (h : Blk4 w g x) (a b c d : Int) :
    Blk4 ((((w.setCell ⟨g, 0, none⟩ (.int .i64 a)).setCell ⟨g, 1, none⟩ (.int .i64 b)).setCell ⟨g, 2, none⟩ (.int .i64 c)).setCell ⟨g, 3, none⟩ (.int .i64 d)) g (a, b, c, d) := by
  unfold Blk4 at h ⊢
  simp [World.setCell, Array.getElem?_modify, h]
theorem Blk4.far {w : World} {g : Nat} {x : Q4} (h : Blk4 w g x) {p : Addr} (hp : g ≠ p.block) (u : Value) : Blk4 (w.setCell p u) g x := (Below.heap_setCell w p u g hp).trans h
theorem Blk4.below {B : Nat} {w w' : World} {g : Nat} {x : Q4} (h : Blk4 w g x) (hb : Below B w w') (hg : g < B) : Blk4 w' g x := (hb.block g hg).trans h

set_option maxHeartbeats 1000000 in
theorem l1Turn_any (a b c d k : Int) (w : World) (hx : rOk a b c d = true) :
    Calls Tryz.prog 41 #[rv a b c d, .int .i64 k] w fun e w' => e = .returned (rv (turnN (omN k) (a, b, c, d)).1 (turnN (omN k) (a, b, c, d)).2.1 (turnN (omN k) (a, b, c, d)).2.2.1 (turnN (omN k) (a, b, c, d)).2.2.2) ∧ Below w.heap.size w w' := by
  have Hx := Lib.hid hx
  clear hx
  obtain ⟨ht1, ht2⟩ := tmod8_bd k
  have hm := omN_eq k
  generalize omN k = m at hm ⊢
  have hm8 : m < 8 := by omega
  go_enter Tryz.func41, Tryz.ntmps41
  go_wp2_with fail
  go_loopw [1] (fun i wr => ∃ r : Nat, r ≤ m ∧ i = .int .i64 r ∧ Blk4 wr w.heap.size (turnN (m - r) (a, b, c, d)) ∧ Blk4 wr (w.heap.size + 1) (0, 0, 0, 0) ∧ Below w.heap.size w wr) (fun i _ => (intOf i).toNat)
  case atStart =>
    refine ⟨m, Nat.le_refl _, by rw [hm], ?_, ?_, by go_grown⟩
    · rw [Nat.sub_self]
      exact (Below.heap_alloc _ _ _ (by simp)).trans (heap_top _ _ rfl)
    · exact heap_top _ _ (by simp)
  case round =>
    obtain ⟨r, hr, rfl, h4, h0, hbl⟩ := hrel
    have H4 := Lib.hid h4
    have H0 := Lib.hid h0
    obtain ⟨c0, c1, c2, c3⟩ := h4.cell
    have f4 := h4.frozen
    have f0 := h0.frozen
    obtain ⟨d0, d1, d2, d3⟩ := h0.cell
    simp only at d0 d1 d2 d3
    have hok := rOk_iff.1 (turnN_ok (m - r) (a, b, c, d) Hx.out)
    have Hst := Lib.hid (fun (hr0 : 0 < r) => (show turnN (m - (r - 1)) (a, b, c, d) = turn1 (turnN (m - r) (a, b, c, d)) by rw [show m - (r - 1) = (m - r) + 1 from by omega]; rfl))
    clear h4 h0
    have Hend := Lib.hid (fun (hr0 : r = 0) => (show turnN (m - r) (a, b, c, d) = turnN m (a, b, c, d) by rw [hr0]; rfl))
    generalize turnN (m - r) (a, b, c, d) = y at *
    obtain ⟨y0, y1, y2, y3⟩ := y
    simp only at hok c0 c1 c2 c3
    obtain ⟨⟨_, _⟩, ⟨_, _⟩, ⟨_, _⟩, ⟨_, _⟩⟩ := hok
    by_cases hr0 : 0 < r
    · go_wp2
      go_roundw
      case rel =>
        refine ⟨r - 1, by omega, by congr 1; omega, ?_, ?_, ?_⟩
        · rw [Hst.out hr0]
          exact H4.out.set4 _ _ _ _
        · exact (((H0.out.far (by simp) _).far (by simp) _).far (by simp) _).far (by simp) _
        · go_grown
      case measure => simp [intOf]; omega
    · go_wp2
      have hr1 : r = 0 := by omega
      have he := Hend.out hr1
      rw [← he]
      refine bodyPost_ret (by simp [results, Tryz.results41, go_sem, d0, d1, d2, d3]) rfl ⟨rfl, ?_⟩
      go_grown

def omOk (a b c d k : Int) : Bool := rOk a b c d && inB k (-1000) 1000
def omRes (a b c d k : Int) : Value := .tuple #[rv (rI (omOk a b c d k) (turnN (omN k) (a, b, c, d)).1) (rI (omOk a b c d k) (turnN (omN k) (a, b, c, d)).2.1) (rI (omOk a b c d k) (turnN (omN k) (a, b, c, d)).2.2.1) (rI (omOk a b c d k) (turnN (omN k) (a, b, c, d)).2.2.2), .bool (omOk a b c d k)]
theorem inB_iff {n lo hi : Int} : inB n lo hi = true ↔ lo ≤ n ∧ n ≤ hi := by simp [inB]

set_option maxHeartbeats 1000000 in
theorem implOm_any (a b c d k : Int) (w : World) :
    Calls Tryz.prog 40 #[rv a b c d, .int .i64 k] w fun e w' => e = .returned (omRes a b c d k) ∧ Below w.heap.size w w' := by
  rcases hk : inB k (-1000) 1000 with _ | _
  · go_enter Tryz.func40, Tryz.ntmps40
    go_wp2_with fail
    refine (within_any _ _ _ _).mono ?_
    rintro e w' ⟨rfl, rfl⟩
    go_wp2
    refine bodyPost_ret (by simp [results, Tryz.results40, go_sem, omRes, omOk, hk, rI_f]) rfl ⟨rfl, ?_⟩
    go_grown
  rcases hx : rOk a b c d with _ | _
  · go_enter Tryz.func40, Tryz.ntmps40
    go_wp2_with fail
    refine (within_any _ _ _ _).mono ?_
    rintro e w' ⟨rfl, rfl⟩
    go_wp2_with fail
    refine (IsValidRing_any _ _ _ _ _).mono ?_
    rintro e w1 ⟨rfl, b1⟩
    obtain ⟨b1c, b1f⟩ := bcell b1
    have z1 := b1.size
    try simp only [World.size_alloc] at z1
    have B1 : Below w.heap.size w w1 := Below.chain (Below.refl _ _) (by go_grown) b1 (by go_size)
    have y10 : w.heap.size < w1.heap.size := by omega
    have y11 : w.heap.size + 1 < w1.heap.size := by omega
    go_wp2
    refine bodyPost_ret (by simp [results, Tryz.results40, go_sem, b1c, omRes, omOk, hx, rI_f]) rfl ⟨rfl, ?_⟩
    go_grown
  · have Hx := Lib.hid hx
    have Hk := Lib.hid hk
    obtain ⟨hk1, hk2⟩ := inB_iff.1 hk
    obtain ⟨ht1, ht2⟩ := tmod8_bd k
    have Hres : Hid (∀ m, omN k = m → Ending.returned (omRes a b c d k) = .returned (.tuple #[rv (turnN m (a, b, c, d)).1 (turnN m (a, b, c, d)).2.1 (turnN m (a, b, c, d)).2.2.1 (turnN m (a, b, c, d)).2.2.2, .bool true])) := by
      intro m h
      subst h
      simp [omRes, omOk, hx, hk, rI_t]
    have hm := omN_eq k
    obtain ⟨m, hmm⟩ : ∃ m, omN k = m := ⟨_, rfl⟩
    have Hr := Lib.hid (Hres.out m hmm)
    rw [hmm] at hm
    clear Hres hmm
    go_enter Tryz.func40, Tryz.ntmps40
    go_wp2_with fail
    refine (within_any _ _ _ _).mono ?_
    rintro e w' ⟨rfl, rfl⟩
    go_wp2_with fail
    refine (IsValidRing_any _ _ _ _ _).mono ?_
    rintro e w1 ⟨rfl, b1⟩
    obtain ⟨b1c, b1f⟩ := bcell b1
    have z1 := b1.size
    try simp only [World.size_alloc] at z1
    have B1 : Below w.heap.size w w1 := Below.chain (Below.refl _ _) (by go_grown) b1 (by go_size)
    have y10 : w.heap.size < w1.heap.size := by omega
    have y11 : w.heap.size + 1 < w1.heap.size := by omega
    have Hb1 := Lib.hid (b1.block w.heap.size (by go_size))
    have Hb2 := Lib.hid (b1.block (w.heap.size + 1) (by go_size))
    go_wp2_with fail
    go_loopw [19] (fun i wr => ∃ r : Nat, r ≤ m ∧ i = .int .i64 r ∧ Blk4 wr w.heap.size (turnN r (a, b, c, d)) ∧ Blk4 wr (w.heap.size + 1) (0, 0, 0, 0) ∧ Below w.heap.size w wr) (fun i _ => m - (intOf i).toNat)
    case atStart =>
      refine ⟨0, Nat.zero_le _, rfl, ?_, ?_, B1⟩
      · exact Hb1.out.trans ((Below.heap_alloc _ _ _ (by simp)).trans (heap_top _ _ rfl))
      · exact Hb2.out.trans (heap_top _ _ (by simp))
    case round =>
      obtain ⟨r, hr, rfl, h4, h0, hbl⟩ := hrel
      have H4 := Lib.hid h4
      have H0 := Lib.hid h0
      obtain ⟨c0, c1, c2, c3⟩ := h4.cell
      have f4 := h4.frozen
      have f0 := h0.frozen
      obtain ⟨d0, d1, d2, d3⟩ := h0.cell
      simp only at d0 d1 d2 d3
      have hok := rOk_iff.1 (turnN_ok r (a, b, c, d) Hx.out)
      have Hst := Lib.hid (show turnN (r + 1) (a, b, c, d) = turn1 (turnN r (a, b, c, d)) from rfl)
      have Hend := Lib.hid (fun (hr0 : r = m) => (show turnN m (a, b, c, d) = turnN r (a, b, c, d) by rw [hr0]))
      clear h4 h0
      generalize turnN r (a, b, c, d) = y at *
      obtain ⟨y0, y1, y2, y3⟩ := y
      simp only at hok c0 c1 c2 c3
      obtain ⟨⟨_, _⟩, ⟨_, _⟩, ⟨_, _⟩, ⟨_, _⟩⟩ := hok
      have zr := hbl.size
      by_cases hr0 : r < m
      · go_wp2
        go_roundw
        case rel =>
          refine ⟨r + 1, by omega, by go_num, ?_, ?_, ?_⟩
          · rw [Hst.out]
            exact H4.out.set4 _ _ _ _
          · exact (((H0.out.far (by simp) _).far (by simp) _).far (by simp) _).far (by simp) _
          · go_grown
        case measure => simp [intOf]; omega
      · go_wp2
        have he := Hend.out (by omega)
        rw [Hr.out, he]
        refine bodyPost_ret (by simp [results, Tryz.results40, go_sem, d0, d1, d2, d3]) rfl ⟨rfl, ?_⟩
        go_grown
end Go.Proofs.YtgpocbhlcmohmaaGreatDoor
