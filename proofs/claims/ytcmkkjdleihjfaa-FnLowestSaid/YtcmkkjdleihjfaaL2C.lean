/- The reference's computations that remember failures: (*l2C).ring, mul, out; MulDyadic. -/
import Derived.Test.YtcmkkjdleihjfaaDs
import Derived.Test.YtcmkkjdleihjfaaLow
import Derived.Test.YtcmkkjdleihjfaaRingQuo
namespace Go.Proofs.Ytcmkkjdleihjfaa
open Go.RowKit

/-- w' is w but for the blocks g and R, and new ones -/
structure Off2 (g R : Nat) (w w' : World) : Prop where
  os : w'.os = w.os
  tape : w'.tape = w.tape
  output : w'.output = w.output
  size : w.heap.size ≤ w'.heap.size
  block : ∀ k, k < w.heap.size → k ≠ g → k ≠ R → w'.heap[k]? = w.heap[k]?
theorem Off2.refl (g R : Nat) (w : World) : Off2 g R w w := ⟨rfl, rfl, rfl, Nat.le_refl _, fun _ _ _ _ => rfl⟩
theorem Off2.drew {g R : Nat} {w w' : World} (h : Off2 g R w w') : Off2 g R w w'.drew := ⟨h.os, h.tape, h.output, h.size, h.block⟩
theorem Off2.alloc {g R : Nat} {w w' : World} (h : Off2 g R w w') (o : Obj) : Off2 g R w (w'.alloc o) :=
  ⟨h.os, h.tape, h.output, Nat.le_trans h.size (by simp), fun k hk h1 h2 => (Below.heap_alloc w' o k (Nat.lt_of_lt_of_le hk h.size)).trans (h.block k hk h1 h2)⟩
theorem Off2.set {g R : Nat} {w w' : World} (h : Off2 g R w w') {p : Addr} (hp : p.block = g ∨ p.block = R ∨ w.heap.size ≤ p.block) (u : Value) : Off2 g R w (w'.setCell p u) :=
  ⟨h.os, h.tape, h.output, by simpa [World.setCell] using h.size, fun k hk h1 h2 => (Below.heap_setCell w' p u k (by rcases hp with h | h | h <;> omega)).trans (h.block k hk h1 h2)⟩
theorem Off2.below {g R : Nat} {w w1 w2 : World} (h : Off2 g R w w1) (hb : Below w1.heap.size w1 w2) : Off2 g R w w2 :=
  ⟨hb.os.trans h.os, hb.tape.trans h.tape, hb.output.trans h.output, Nat.le_trans h.size hb.size, fun k hk h1 h2 => (hb.block k (Nat.lt_of_lt_of_le hk h.size)).trans (h.block k hk h1 h2)⟩
theorem Off2.touch {g R : Nat} {w w1 w2 : World} (h : Off2 g R w w1) (ht : Touch g (g + 1) w1 w2) : Off2 g R w w2 :=
  ⟨ht.os.trans h.os, ht.tape.trans h.tape, ht.output.trans h.output, Nat.le_trans h.size ht.size, fun k hk h1 h2 => (ht.block k (Nat.lt_of_lt_of_le hk h.size) (by omega)).trans (h.block k hk h1 h2)⟩
theorem Off2.to_touch {g R B : Nat} {w w1 w2 : World} (hb : Below B w w1) (h : Off2 g R w1 w2) (h1 : w.heap.size ≤ R) (h2 : w.heap.size ≤ B) : Touch g (g + 1) w w2 :=
  ⟨h.os.trans hb.os, h.tape.trans hb.tape, h.output.trans hb.output, Nat.le_trans hb.size h.size, fun k hk hr => (h.block k (Nat.lt_of_lt_of_le hk hb.size) (by omega) (by omega)).trans (hb.block k (by omega))⟩
theorem O2_mk {g R p q : Nat} {W w' : World} (hp : p < W.heap.size ∧ p ≠ g ∧ p ≠ R) (hq : q < W.heap.size ∧ q ≠ g ∧ q ≠ R) (h : Off2 g R W w') :
    (∀ o, w'.cell? ⟨p, o, none⟩ = W.cell? ⟨p, o, none⟩) ∧ (∀ o, w'.cell? ⟨q, o, none⟩ = W.cell? ⟨q, o, none⟩) ∧ Off2 g R W w' :=
  ⟨fun o => World.cell?_of_block (a := ⟨p, o, none⟩) (h.block p hp.1 hp.2.1 hp.2.2), fun o => World.cell?_of_block (a := ⟨q, o, none⟩) (h.block q hq.1 hq.2.1 hq.2.2), h⟩
theorem O2_step {g R p q : Nat} {W w1 w2 : World} (h : (∀ o, w1.cell? ⟨p, o, none⟩ = W.cell? ⟨p, o, none⟩) ∧ (∀ o, w1.cell? ⟨q, o, none⟩ = W.cell? ⟨q, o, none⟩) ∧ Off2 g R W w1) (hb : Below w1.heap.size w1 w2) : Off2 g R W w2 := h.2.2.below hb
theorem O2_stepT {g R p q : Nat} {W w1 w2 : World} (h : (∀ o, w1.cell? ⟨p, o, none⟩ = W.cell? ⟨p, o, none⟩) ∧ (∀ o, w1.cell? ⟨q, o, none⟩ = W.cell? ⟨q, o, none⟩) ∧ Off2 g R W w1) (ht : Touch g (g + 1) w1 w2) : Off2 g R W w2 := h.2.2.touch ht

/-- a computation's memory: does it hold a failure? -/
structure Cur (w : World) (g : Nat) (bad : Bool) : Prop where
  lt : g < w.heap.size
  cell : w.cell? ⟨g, 0, none⟩ = some (.bool bad)
  free : w.frozen? ⟨g, 0, none⟩ = false
theorem Cur.below {B : Nat} {w w' : World} {g : Nat} {bad : Bool} (h : Cur w g bad) (hb : Below B w w') (hB : g < B) : Cur w' g bad :=
  ⟨Nat.lt_of_lt_of_le h.lt hb.size, (hb.cell (p := ⟨g, 0, none⟩) hB).trans h.cell, (hb.frozen (p := ⟨g, 0, none⟩) hB).trans h.free⟩
theorem Cur.alloc {w : World} {g : Nat} {bad : Bool} (h : Cur w g bad) (o : Obj) : Cur (w.alloc o) g bad := h.below (Below.alloc (Below.refl _ _) (Nat.le_refl _) o) h.lt
theorem Cur.drew {w : World} {g : Nat} {bad : Bool} (h : Cur w g bad) : Cur w.drew g bad := ⟨h.lt, h.cell, h.free⟩
theorem Cur.far {w : World} {g : Nat} {bad : Bool} (h : Cur w g bad) {p : Addr} (hp : g ≠ p.block) (u : Value) : Cur (w.setCell p u) g bad :=
  ⟨by simpa [World.setCell] using h.lt, (World.cell?_of_block (w := w) (a := ⟨g, 0, none⟩) (Below.heap_setCell w p u g hp)).trans h.cell, by simpa using h.free⟩

theorem Cur.set {w : World} {g : Nat} {bad : Bool} (h : Cur w g bad) (b : Bool) : Cur (w.setCell ⟨g, 0, none⟩ (.bool b)) g b :=
  ⟨by simpa [World.setCell] using h.lt, by rw [cell_set_same, h.cell]; rfl, by simpa using h.free⟩

set_option maxHeartbeats 1000000 in
theorem l2cRing_any (g : Nat) (bad : Bool) (a b c d : Int) (w : World) (hc : Hid (Cur w g bad)) :
    Calls Try.prog 129 #[.pointer (some ⟨g, 0, none⟩), rv a b c d] w fun e w' => e = .returned (rv (rI (rOk a b c d) a) (rI (rOk a b c d) b) (rI (rOk a b c d) c) (rI (rOk a b c d) d)) ∧ Cur w' g (bad || !rOk a b c d) ∧ Touch g (g + 1) w w' := by
  have hlt := hc.out.lt
  rcases h : rOk a b c d with _ | _
  · go_enter Try.func129, Try.ntmps129
    go_wp2_with fail
    refine (l1Good_any _ _ _ _ _).mono ?_
    rintro e w1 ⟨rfl, b1⟩
    obtain ⟨b1c, b1f⟩ := bcell b1
    have z1 := b1.size
    try simp only [World.size_alloc] at z1
    have B1 : Below w.heap.size w w1 := Below.chain (Below.refl _ _) (by go_grown) b1 (by go_size)
    have y10 : w.heap.size < w1.heap.size := by omega
    have C1 := Lib.hid (hc.out.below B1 hlt)
    have k0 := C1.out.cell
    have k1 := C1.out.free
    go_wp2
    refine bodyPost_ret (by simp [results, Try.results129, go_sem, b1c, rI_f]) rfl ⟨rfl, ?_, ?_⟩
    · repeat (refine Cur.far ?_ (by dsimp only; omega) _)
      simp only [Bool.not_false, Bool.or_true]
      exact C1.out.set true
    · repeat (first | refine Touch.setNew ?_ (by dsimp only; omega) _ | refine Touch.set ?_ (by dsimp only; omega) (by dsimp only; omega) _)
      exact Touch.of_below B1 (Nat.le_refl _) _ _
  · go_enter Try.func129, Try.ntmps129
    go_wp2_with fail
    refine (l1Good_any _ _ _ _ _).mono ?_
    rintro e w1 ⟨rfl, b1⟩
    obtain ⟨b1c, b1f⟩ := bcell b1
    have z1 := b1.size
    try simp only [World.size_alloc] at z1
    have B1 : Below w.heap.size w w1 := Below.chain (Below.refl _ _) (by go_grown) b1 (by go_size)
    have y10 : w.heap.size < w1.heap.size := by omega
    have C1 := Lib.hid (hc.out.below B1 hlt)
    go_wp2
    refine bodyPost_ret (by simp [results, Try.results129, go_sem, b1c, rI_t]) rfl ⟨rfl, ?_, ?_⟩
    · repeat (refine Cur.far ?_ (by dsimp only; omega) _)
      simp only [Bool.not_true, Bool.or_false]
      exact C1.out
    · repeat (first | refine Touch.setNew ?_ (by dsimp only; omega) _ | refine Touch.set ?_ (by dsimp only; omega) (by dsimp only; omega) _)
      exact Touch.of_below B1 (Nat.le_refl _) _ _

def zeroD : D5 := ((0, 0, 0, 0), 0)
def dOkD (x : D5) : Bool := dOk x.1.1 x.1.2.1 x.1.2.2.1 x.1.2.2.2 x.2
/-- a dyadic number, or nothing -/
def dyRes (ok : Bool) (x : D5) : Value := .tuple #[dv (rI ok x.1.1) (rI ok x.1.2.1) (rI ok x.1.2.2.1) (rI ok x.1.2.2.2) (rI ok x.2), .bool ok]
def lowD (e : Int) (q : Q4) : D5 := ((lowN e.toNat q).1, ((lowN e.toNat q).2 : Int))
def mulOk (x y : D5) : Bool := inB (x.2 + y.2) 0 60 && okQ (mulQ x.1 y.1)
/-- the product, or zero -/
def mulC (x y : D5) : D5 := if mulOk x y then lowD (x.2 + y.2) (mulQ x.1 y.1) else zeroD
theorem lowN_zero : ∀ e : Nat, lowN e (0, 0, 0, 0) = ((0, 0, 0, 0), 0)
  | 0 => rfl
  | e + 1 => by
    rw [lowN_even (Nat.succ_pos _) rfl]
    exact lowN_zero e

theorem l2cRing_t (g : Nat) (bad : Bool) (a b c d : Int) (w : World) (hc : Hid (Cur w g bad)) (h : rOk a b c d = true) :
    Calls Try.prog 129 #[.pointer (some ⟨g, 0, none⟩), rv a b c d] w fun e w' => e = .returned (rv a b c d) ∧ Cur w' g bad ∧ Touch g (g + 1) w w' :=
  (l2cRing_any g bad a b c d w hc).mono fun e w' ⟨h1, h2, h3⟩ => ⟨by rw [h1, h]; simp only [rI_t], by rw [h] at h2; simpa using h2, h3⟩
theorem l2cRing_f (g : Nat) (bad : Bool) (a b c d : Int) (w : World) (hc : Hid (Cur w g bad)) (h : rOk a b c d = false) :
    Calls Try.prog 129 #[.pointer (some ⟨g, 0, none⟩), rv a b c d] w fun e w' => e = .returned (rv 0 0 0 0) ∧ Cur w' g true ∧ Touch g (g + 1) w w' :=
  (l2cRing_any g bad a b c d w hc).mono fun e w' ⟨h1, h2, h3⟩ => ⟨by rw [h1, h]; simp only [rI_f], by rw [h] at h2; simpa using h2, h3⟩
theorem l2LowI_any (a b c d e : Int) (w : World) (hx : rOk a b c d = true) (he : 0 ≤ e ∧ e ≤ 1000) :
    Calls Try.prog 81 #[rv a b c d, .int .i64 e] w fun r w' => r = .returned (dvD (lowD e (a, b, c, d))) ∧ Below w.heap.size w w' := by
  obtain ⟨n, rfl⟩ := Int.eq_ofNat_of_zero_le he.1
  exact l2Low_any a b c d n w hx (by omega)
theorem mulC_f {x y : D5} (h : mulOk x y = false) : mulC x y = zeroD := by simp [mulC, h]
theorem mulC_t {x y : D5} (h : mulOk x y = true) : mulC x y = lowD (x.2 + y.2) (mulQ x.1 y.1) := by simp [mulC, h]

set_option maxRecDepth 100000 in
set_option maxHeartbeats 4000000 in
theorem l2cMul_any (g : Nat) (bad : Bool) (a b c d e a' b' c' d' e' : Int) (w : World) (hc : Hid (Cur w g bad)) (hx : rOk a b c d = true) (hy : rOk a' b' c' d' = true) (he : 0 ≤ e ∧ e ≤ 60) (he' : 0 ≤ e' ∧ e' ≤ 60) :
    Calls Try.prog 96 #[.pointer (some ⟨g, 0, none⟩), dv a b c d e, dv a' b' c' d' e'] w fun r w' =>
      r = .returned (dvD (mulC ((a, b, c, d), e) ((a', b', c', d'), e'))) ∧ Cur w' g (bad || !mulOk ((a, b, c, d), e) ((a', b', c', d'), e')) ∧ Touch g (g + 1) w w' := by
  have hlt := hc.out.lt
  obtain ⟨he1, he2⟩ := he
  obtain ⟨he3, he4⟩ := he'
  by_cases hs : e + e' ≤ 60
  · have Hx := Lib.hid hx
    have Hy := Lib.hid hy
    have Hin : Hid (0 ≤ e + e' ∧ e + e' ≤ 1000) := by show _ ∧ _; omega
    have Hwr : Hid (IntKind.wrap .i64 (e + e') = e + e') := IntWalk.i64_in _ (by omega)
    clear hx hy
    rcases hm : okQ (mulQ (a, b, c, d) (a', b', c', d')) with _ | _
    · have Hm : Hid (rOk (a * a' - b * d' - c * c' - d * b') (a * b' + b * a' - c * d' - d * c') (a * c' + b * b' + c * a' - d * d') (a * d' + b * c' + c * b' + d * a') = false) := hm
      have hk : mulOk ((a, b, c, d), e) ((a', b', c', d'), e') = false := by simp [mulOk, hm]
      have Hk2 := Lib.hid (mulC_f hk)
      have Hz : Hid (dvD (lowD (e + e') (0, 0, 0, 0)) = dv 0 0 0 0 0) := by show dvD _ = _; simp only [lowD, lowN_zero]; rfl
      have Hk := Lib.hid hk
      clear hk hm
      go_enter Try.func96, Try.ntmps96
      go_upto_region 4 with fail
      generalize hW0 : ((w.alloc (.cells #[.int .i64 a, .int .i64 b, .int .i64 c, .int .i64 d, .int .i64 e] 52)).alloc (.cells #[.int .i64 a', .int .i64 b', .int .i64 c', .int .i64 d', .int .i64 e'] 52)).alloc (.cells #[.int .i64 0, .int .i64 0, .int .i64 0, .int .i64 0, .int .i64 0] 52) = W0
      have B0 : Below w.heap.size w W0 := by rw [← hW0]; go_grown
      have k0 : ∀ o, W0.cell? ⟨w.heap.size, o, none⟩ = _ := fun o => cell_of_row W0 w.heap.size o _ _ _ (by rw [← hW0]; exact (Below.heap_alloc _ _ _ (by go_size)).trans ((Below.heap_alloc _ _ _ (by go_size)).trans (heap_top _ _ rfl)))
      have k1 : ∀ o, W0.cell? ⟨w.heap.size + 1, o, none⟩ = _ := fun o => cell_of_row W0 (w.heap.size + 1) o _ _ _ (by rw [← hW0]; exact (Below.heap_alloc _ _ _ (by go_size)).trans (heap_top _ _ (by simp)))
      have k2 : ∀ o, W0.cell? ⟨w.heap.size + 1 + 1, o, none⟩ = _ := fun o => cell_of_row W0 (w.heap.size + 1 + 1) o _ _ _ (by rw [← hW0]; exact heap_top _ _ (by simp))
      have f2 : ∀ o, W0.frozen? ⟨w.heap.size + 1 + 1, o, none⟩ = false := fun o => frozen_of_row W0 (w.heap.size + 1 + 1) o _ _ (by rw [← hW0]; exact heap_top _ _ (by simp))
      have y00 : w.heap.size < W0.heap.size := by rw [← hW0]; go_size
      have y01 : w.heap.size + 1 < W0.heap.size := by rw [← hW0]; go_size
      have y02 : w.heap.size + 1 + 1 < W0.heap.size := by rw [← hW0]; go_size
      have HC := Lib.hid (hc.out.below B0 hlt)
      have HP : Hid (w.heap.size < W0.heap.size ∧ w.heap.size ≠ g ∧ w.heap.size ≠ w.heap.size + 1 + 1) := by show _ ∧ _ ∧ _; omega
      have HQ : Hid (w.heap.size + 1 < W0.heap.size ∧ w.heap.size + 1 ≠ g ∧ w.heap.size + 1 ≠ w.heap.size + 1 + 1) := by show _ ∧ _ ∧ _; omega
      have HW : Hid (W0.heap.size = w.heap.size + 3) := by rw [← hW0]; show _ = _; simp
      clear hW0
      go_region_held3 (fun w' => (∀ o, w'.cell? ⟨w.heap.size, o, none⟩ = W0.cell? ⟨w.heap.size, o, none⟩) ∧ (∀ o, w'.cell? ⟨w.heap.size + 1, o, none⟩ = W0.cell? ⟨w.heap.size + 1, o, none⟩) ∧ Off2 g (w.heap.size + 1 + 1) W0 w') ((refine O2_mk HP.out HQ.out ?_; repeat (first | (with_reducible assumption) | (with_reducible refine Off2.drew ?_) | (with_reducible refine Off2.alloc ?_ _) | (with_reducible refine Off2.set ?_ (by first | (left; rfl) | (right; left; rfl) | (right; right; dsimp only; omega)) _) | (with_reducible exact Off2.refl _ _ _)))) (first | (go_at_call 68; refine (l1Mul_any _ _ _ _ _ _ _ _ _ Hx.out Hy.out).mono ?_; rintro e wA ⟨rfl, bA⟩; obtain ⟨bAc, bAf⟩ := bcell bA; (try simp only [World.size_drew] at bAc); (try simp only [World.cell?_drew] at bAc); (try simp only [World.size_drew] at bAf); (try simp only [World.frozen?_drew] at bAf); have sA := O2_step (g := g) (R := w.heap.size + 1 + 1) (p := w.heap.size) (q := w.heap.size + 1) (W := W0) (by with_reducible assumption) bA; have zA := sA.size; (first | have cA := Lib.hid (Cur.below HC.out bA HC.out.lt) | have cA := Lib.hid (Cur.below (Cur.drew HC.out) bA HC.out.lt)); have qA := Lib.hid (fun o => bAc (w.heap.size + 1 + 1) o y02); have rA := Lib.hid (fun o => bAf (w.heap.size + 1 + 1) o y02)) | (go_at_call 129; refine (l2cRing_f g bad _ _ _ _ _ cA Hm.out).mono ?_; rintro e wB ⟨rfl, cB', tB⟩; have cB := Lib.hid cB'; clear cB'; have sB := O2_stepT (g := g) (R := w.heap.size + 1 + 1) (p := w.heap.size) (q := w.heap.size + 1) (W := W0) (by with_reducible assumption) tB; have zB := sB.size; have qB := Lib.hid (fun o => (tB.cell (w.heap.size + 1 + 1) o (by omega) (by omega)).trans (qA.out o)); have rB := Lib.hid (fun o => (tB.frozen (w.heap.size + 1 + 1) o (by omega) (by omega)).trans (rA.out o)); have tB' := Lib.hid tB; clear tB) | (go_at_call 81; rw [Hwr.out]; refine (l2LowI_any _ _ _ _ _ _ (by rfl) Hin.out).mono ?_; rintro e wC ⟨rfl, bC⟩; have sC := O2_step (g := g) (R := w.heap.size + 1 + 1) (p := w.heap.size) (q := w.heap.size + 1) (W := W0) (by with_reducible assumption) bC; have zC := sC.size; have cC := Lib.hid (Cur.below cB.out bC cB.out.lt); have qC : ∀ o, wC.cell? ⟨w.heap.size + 1 + 1, o, none⟩ = W0.cell? ⟨w.heap.size + 1 + 1, o, none⟩ := fun o => (bC.cell (p := ⟨w.heap.size + 1 + 1, o, none⟩) (by dsimp only; omega)).trans (qB.out o); have rC : ∀ o, wC.frozen? ⟨w.heap.size + 1 + 1, o, none⟩ = W0.frozen? ⟨w.heap.size + 1 + 1, o, none⟩ := fun o => (bC.frozen (p := ⟨w.heap.size + 1 + 1, o, none⟩) (by dsimp only; omega)).trans (rB.out o); rw [Hz.out]))
      all_goals
        go_wp2
        rw [Hk2.out, Hk.out]
        refine bodyPost_ret (by simp [results, Try.results96, go_sem, qC, k2, zeroD]) rfl ⟨rfl, ?_, ?_⟩
        · repeat (refine Cur.far ?_ (by dsimp only; omega) _)
          simpa using cC.out
        · refine Off2.to_touch (R := w.heap.size + 1 + 1) B0 ?_ (by omega) (Nat.le_refl _)
          repeat (refine Off2.set ?_ (by right; left; rfl) _)
          exact sC
    · have Hm : Hid (rOk (a * a' - b * d' - c * c' - d * b') (a * b' + b * a' - c * d' - d * c') (a * c' + b * b' + c * a' - d * d') (a * d' + b * c' + c * b' + d * a') = true) := hm
      have hk : mulOk ((a, b, c, d), e) ((a', b', c', d'), e') = true := by simp [mulOk, hm, inB]; omega
      have Hk2 := Lib.hid (mulC_t hk)
      have Hk := Lib.hid hk
      clear hk hm
      go_enter Try.func96, Try.ntmps96
      go_upto_region 4 with fail
      generalize hW0 : ((w.alloc (.cells #[.int .i64 a, .int .i64 b, .int .i64 c, .int .i64 d, .int .i64 e] 52)).alloc (.cells #[.int .i64 a', .int .i64 b', .int .i64 c', .int .i64 d', .int .i64 e'] 52)).alloc (.cells #[.int .i64 0, .int .i64 0, .int .i64 0, .int .i64 0, .int .i64 0] 52) = W0
      have B0 : Below w.heap.size w W0 := by rw [← hW0]; go_grown
      have k0 : ∀ o, W0.cell? ⟨w.heap.size, o, none⟩ = _ := fun o => cell_of_row W0 w.heap.size o _ _ _ (by rw [← hW0]; exact (Below.heap_alloc _ _ _ (by go_size)).trans ((Below.heap_alloc _ _ _ (by go_size)).trans (heap_top _ _ rfl)))
      have k1 : ∀ o, W0.cell? ⟨w.heap.size + 1, o, none⟩ = _ := fun o => cell_of_row W0 (w.heap.size + 1) o _ _ _ (by rw [← hW0]; exact (Below.heap_alloc _ _ _ (by go_size)).trans (heap_top _ _ (by simp)))
      have k2 : ∀ o, W0.cell? ⟨w.heap.size + 1 + 1, o, none⟩ = _ := fun o => cell_of_row W0 (w.heap.size + 1 + 1) o _ _ _ (by rw [← hW0]; exact heap_top _ _ (by simp))
      have f2 : ∀ o, W0.frozen? ⟨w.heap.size + 1 + 1, o, none⟩ = false := fun o => frozen_of_row W0 (w.heap.size + 1 + 1) o _ _ (by rw [← hW0]; exact heap_top _ _ (by simp))
      have y00 : w.heap.size < W0.heap.size := by rw [← hW0]; go_size
      have y01 : w.heap.size + 1 < W0.heap.size := by rw [← hW0]; go_size
      have y02 : w.heap.size + 1 + 1 < W0.heap.size := by rw [← hW0]; go_size
      have HC := Lib.hid (hc.out.below B0 hlt)
      have HP : Hid (w.heap.size < W0.heap.size ∧ w.heap.size ≠ g ∧ w.heap.size ≠ w.heap.size + 1 + 1) := by show _ ∧ _ ∧ _; omega
      have HQ : Hid (w.heap.size + 1 < W0.heap.size ∧ w.heap.size + 1 ≠ g ∧ w.heap.size + 1 ≠ w.heap.size + 1 + 1) := by show _ ∧ _ ∧ _; omega
      have HW : Hid (W0.heap.size = w.heap.size + 3) := by rw [← hW0]; show _ = _; simp
      clear hW0
      go_region_held3 (fun w' => (∀ o, w'.cell? ⟨w.heap.size, o, none⟩ = W0.cell? ⟨w.heap.size, o, none⟩) ∧ (∀ o, w'.cell? ⟨w.heap.size + 1, o, none⟩ = W0.cell? ⟨w.heap.size + 1, o, none⟩) ∧ Off2 g (w.heap.size + 1 + 1) W0 w') ((refine O2_mk HP.out HQ.out ?_; repeat (first | (with_reducible assumption) | (with_reducible refine Off2.drew ?_) | (with_reducible refine Off2.alloc ?_ _) | (with_reducible refine Off2.set ?_ (by first | (left; rfl) | (right; left; rfl) | (right; right; dsimp only; omega)) _) | (with_reducible exact Off2.refl _ _ _)))) (first | (go_at_call 68; refine (l1Mul_any _ _ _ _ _ _ _ _ _ Hx.out Hy.out).mono ?_; rintro e wA ⟨rfl, bA⟩; obtain ⟨bAc, bAf⟩ := bcell bA; (try simp only [World.size_drew] at bAc); (try simp only [World.cell?_drew] at bAc); (try simp only [World.size_drew] at bAf); (try simp only [World.frozen?_drew] at bAf); have sA := O2_step (g := g) (R := w.heap.size + 1 + 1) (p := w.heap.size) (q := w.heap.size + 1) (W := W0) (by with_reducible assumption) bA; have zA := sA.size; (first | have cA := Lib.hid (Cur.below HC.out bA HC.out.lt) | have cA := Lib.hid (Cur.below (Cur.drew HC.out) bA HC.out.lt)); have qA := Lib.hid (fun o => bAc (w.heap.size + 1 + 1) o y02); have rA := Lib.hid (fun o => bAf (w.heap.size + 1 + 1) o y02)) | (go_at_call 129; refine (l2cRing_t g bad _ _ _ _ _ cA Hm.out).mono ?_; rintro e wB ⟨rfl, cB', tB⟩; have cB := Lib.hid cB'; clear cB'; have sB := O2_stepT (g := g) (R := w.heap.size + 1 + 1) (p := w.heap.size) (q := w.heap.size + 1) (W := W0) (by with_reducible assumption) tB; have zB := sB.size; have qB := Lib.hid (fun o => (tB.cell (w.heap.size + 1 + 1) o (by omega) (by omega)).trans (qA.out o)); have rB := Lib.hid (fun o => (tB.frozen (w.heap.size + 1 + 1) o (by omega) (by omega)).trans (rA.out o)); have tB' := Lib.hid tB; clear tB) | (go_at_call 81; rw [Hwr.out]; refine (l2LowI_any _ _ _ _ _ _ Hm.out Hin.out).mono ?_; rintro e wC ⟨rfl, bC⟩; have sC := O2_step (g := g) (R := w.heap.size + 1 + 1) (p := w.heap.size) (q := w.heap.size + 1) (W := W0) (by with_reducible assumption) bC; have zC := sC.size; have cC := Lib.hid (Cur.below cB.out bC cB.out.lt); have qC : ∀ o, wC.cell? ⟨w.heap.size + 1 + 1, o, none⟩ = W0.cell? ⟨w.heap.size + 1 + 1, o, none⟩ := fun o => (bC.cell (p := ⟨w.heap.size + 1 + 1, o, none⟩) (by dsimp only; omega)).trans (qB.out o); have rC : ∀ o, wC.frozen? ⟨w.heap.size + 1 + 1, o, none⟩ = W0.frozen? ⟨w.heap.size + 1 + 1, o, none⟩ := fun o => (bC.frozen (p := ⟨w.heap.size + 1 + 1, o, none⟩) (by dsimp only; omega)).trans (rB.out o)))
      all_goals
        go_wp2
        rw [Hk2.out, Hk.out]
        refine bodyPost_ret (by simp [results, Try.results96, go_sem, qC, k2, mulQ]) rfl ⟨rfl, ?_, ?_⟩
        · repeat (refine Cur.far ?_ (by dsimp only; omega) _)
          simpa using cC.out
        · refine Off2.to_touch (R := w.heap.size + 1 + 1) B0 ?_ (by omega) (Nat.le_refl _)
          repeat (refine Off2.set ?_ (by right; left; rfl) _)
          exact sC
  · have hk : mulOk ((a, b, c, d), e) ((a', b', c', d'), e') = false := by simp [mulOk, inB, hs]
    rw [mulC_f hk, hk]
    go_enter Try.func96, Try.ntmps96
    go_upto_region 2 with fail
    generalize hW0 : ((w.alloc (.cells #[.int .i64 a, .int .i64 b, .int .i64 c, .int .i64 d, .int .i64 e] 52)).alloc (.cells #[.int .i64 a', .int .i64 b', .int .i64 c', .int .i64 d', .int .i64 e'] 52)).alloc (.cells #[.int .i64 0, .int .i64 0, .int .i64 0, .int .i64 0, .int .i64 0] 52) = W0
    have B0 : Below w.heap.size w W0 := by rw [← hW0]; go_grown
    have k0 : ∀ o, W0.cell? ⟨w.heap.size, o, none⟩ = _ := fun o => cell_of_row W0 w.heap.size o _ _ _ (by rw [← hW0]; exact (Below.heap_alloc _ _ _ (by go_size)).trans ((Below.heap_alloc _ _ _ (by go_size)).trans (heap_top _ _ rfl)))
    have k1 : ∀ o, W0.cell? ⟨w.heap.size + 1, o, none⟩ = _ := fun o => cell_of_row W0 (w.heap.size + 1) o _ _ _ (by rw [← hW0]; exact (Below.heap_alloc _ _ _ (by go_size)).trans (heap_top _ _ (by simp)))
    have k2 : ∀ o, W0.cell? ⟨w.heap.size + 1 + 1, o, none⟩ = _ := fun o => cell_of_row W0 (w.heap.size + 1 + 1) o _ _ _ (by rw [← hW0]; exact heap_top _ _ (by simp))
    have f2 : ∀ o, W0.frozen? ⟨w.heap.size + 1 + 1, o, none⟩ = false := fun o => frozen_of_row W0 (w.heap.size + 1 + 1) o _ _ (by rw [← hW0]; exact heap_top _ _ (by simp))
    have y00 : w.heap.size < W0.heap.size := by rw [← hW0]; go_size
    have y01 : w.heap.size + 1 < W0.heap.size := by rw [← hW0]; go_size
    have y02 : w.heap.size + 1 + 1 < W0.heap.size := by rw [← hW0]; go_size
    have HC := Lib.hid (hc.out.below B0 hlt)
    have HP : Hid (w.heap.size < W0.heap.size ∧ w.heap.size ≠ g ∧ w.heap.size ≠ w.heap.size + 1 + 1) := by show _ ∧ _ ∧ _; omega
    have HQ : Hid (w.heap.size + 1 < W0.heap.size ∧ w.heap.size + 1 ≠ g ∧ w.heap.size + 1 ≠ w.heap.size + 1 + 1) := by show _ ∧ _ ∧ _; omega
    have HW : Hid (W0.heap.size = w.heap.size + 3) := by rw [← hW0]; show _ = _; simp
    clear hW0
    have g0 := HC.out.cell
    have gf := HC.out.free
    go_wp2
    refine bodyPost_ret (by simp [results, Try.results96, go_sem, k2, zeroD]) rfl ⟨rfl, ?_, ?_⟩
    · repeat (refine Cur.far ?_ (by dsimp only; omega) _)
      try simp only [Bool.not_false, Bool.or_true]
      exact HC.out.set true
    · repeat (first | refine Touch.setNew ?_ (by dsimp only; omega) _ | refine Touch.set ?_ (by dsimp only; omega) (by dsimp only; omega) _)
      exact Touch.of_below B0 (Nat.le_refl _) _ _
end Go.Proofs.Ytcmkkjdleihjfaa
