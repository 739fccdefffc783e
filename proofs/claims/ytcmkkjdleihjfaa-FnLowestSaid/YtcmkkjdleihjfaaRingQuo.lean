/- DivRing, of the program and of the reference. -/
import Derived.Test.YtcmkkjdleihjfaaRingAbs
import Derived.Test.YtcmkkjdleihjfaaMem
import Derived.Laws.StructEq
import Derived.Test.YtcmkkjdleihjfaaDraw
import Derived.Deep.DeepCutAuto
namespace Go.Proofs.Ytcmkkjdleihjfaa
open Go.RowKit

def mulQ (x y : Q4) : Q4 := (x.1 * y.1 - x.2.1 * y.2.2.2 - x.2.2.1 * y.2.2.1 - x.2.2.2 * y.2.1, x.1 * y.2.1 + x.2.1 * y.1 - x.2.2.1 * y.2.2.2 - x.2.2.2 * y.2.2.1,
  x.1 * y.2.2.1 + x.2.1 * y.2.1 + x.2.2.1 * y.1 - x.2.2.2 * y.2.2.2, x.1 * y.2.2.2 + x.2.1 * y.2.2.1 + x.2.2.1 * y.2.1 + x.2.2.2 * y.1)
def conjQ (x : Q4) : Q4 := (x.1, -x.2.2.2, -x.2.2.1, -x.2.1)
def uQ (x : Q4) : Int := absU x.1 x.2.1 x.2.2.1 x.2.2.2
def vQ (x : Q4) : Int := absV x.1 x.2.1 x.2.2.1 x.2.2.2
def absOkQ (x : Q4) : Bool := absOk x.1 x.2.1 x.2.2.1 x.2.2.2
def nQ (x : Q4) : Int := uQ x * uQ x - 2 * vQ x * vQ x
def firstQ (x y : Q4) : Q4 := mulQ x (conjQ y)
def secondQ (x y : Q4) : Q4 := mulQ (firstQ x y) (uQ y, -vQ y, 0, vQ y)
def dvdQ (s : Q4) (n : Int) : Bool := (s.1.tmod n == 0) && (s.2.1.tmod n == 0) && (s.2.2.1.tmod n == 0) && (s.2.2.2.tmod n == 0)
def quoQ (s : Q4) (n : Int) : Q4 := (s.1.tdiv n, s.2.1.tdiv n, s.2.2.1.tdiv n, s.2.2.2.tdiv n)
def quoOk (x y : Q4) : Bool := absOkQ y && !(uQ y == 0) && (okQ x && okQ (firstQ x y)) && okQ (secondQ x y) && dvdQ (secondQ x y) (nQ y)
/-- a ring number, or nothing -/
def optRes (ok : Bool) (q : Q4) : Value := .tuple #[rv (rI ok q.1) (rI ok q.2.1) (rI ok q.2.2.1) (rI ok q.2.2.2), .bool ok]

theorem even_sq {u : Int} (h : (u * u) % 2 = 0) : u % 2 = 0 := by
  rcases Int.emod_two_eq u with h0 | h1
  · exact h0
  · exfalso
    rw [Int.mul_emod, h1] at h
    simp at h
/-- 2 has no rational square root -/
theorem root_two : ∀ (m : Nat) (u v : Int), u.natAbs ≤ m → u * u = 2 * v * v → u = 0
  | 0, u, v, h, _ => by omega
  | m + 1, u, v, h, e => by
    have e' : u * u = 2 * (v * v) := by rw [e, Int.mul_assoc]
    have hu : u % 2 = 0 := even_sq (by rw [e']; omega)
    obtain ⟨a, rfl⟩ : ∃ a, u = 2 * a := ⟨u / 2, by omega⟩
    have e2 : v * v = 2 * (a * a) := by
      have : 2 * a * (2 * a) = 4 * (a * a) := by
        rw [Int.mul_assoc, Int.mul_left_comm a 2 a, ← Int.mul_assoc]
        omega
      omega
    have hv : v % 2 = 0 := even_sq (by rw [e2]; omega)
    obtain ⟨b, rfl⟩ : ∃ b, v = 2 * b := ⟨v / 2, by omega⟩
    have e3 : a * a = 2 * b * b := by
      have : 2 * b * (2 * b) = 4 * (b * b) := by
        rw [Int.mul_assoc, Int.mul_left_comm b 2 b, ← Int.mul_assoc]
        omega
      rw [Int.mul_assoc]
      omega
    have ha : a = 0 := root_two m a b (by omega) e3
    omega
theorem nQ_ne {y : Q4} (h : uQ y ≠ 0) : nQ y ≠ 0 := by
  intro h0
  exact h (root_two _ (uQ y) (vQ y) (Nat.le_refl _) (by unfold nQ at h0; omega))
theorem sq_nonneg (a : Int) : 0 ≤ a * a := by
  rcases Int.le_total 0 a with h | h
  · exact Int.mul_nonneg h h
  · exact Int.mul_nonneg_of_nonpos_of_nonpos h h
theorem sq_zero {a : Int} (h : a * a = 0) : a = 0 := by
  rcases Int.mul_eq_zero.1 h with h | h <;> exact h
theorem uQ_zero {y : Q4} : uQ y = 0 ↔ y.1 = 0 ∧ y.2.1 = 0 ∧ y.2.2.1 = 0 ∧ y.2.2.2 = 0 := by
  obtain ⟨a, b, c, d⟩ := y
  simp only [uQ, absU]
  have h1 := sq_nonneg a
  have h2 := sq_nonneg b
  have h3 := sq_nonneg c
  have h4 := sq_nonneg d
  constructor
  · intro h
    exact ⟨sq_zero (by omega), sq_zero (by omega), sq_zero (by omega), sq_zero (by omega)⟩
  · rintro ⟨rfl, rfl, rfl, rfl⟩
    rfl

theorem tdiv_bd {x n : Int} (hx : -1000000000 ≤ x ∧ x ≤ 1000000000) : -1000000000 ≤ x.tdiv n ∧ x.tdiv n ≤ 1000000000 := by
  have h1 : (x.tdiv n).natAbs ≤ x.natAbs := by
    rw [Int.natAbs_tdiv]
    exact Nat.div_le_self _ _
  omega
theorem quoQ_ok {s : Q4} {n : Int} (h : okQ s = true) : okQ (quoQ s n) = true := by
  have := rOk_iff.1 h
  exact rOk_iff.2 ⟨tdiv_bd this.1, tdiv_bd this.2.1, tdiv_bd this.2.2.1, tdiv_bd this.2.2.2⟩

theorem divIf (a b c d : Int) (w : World) (h : rOk a b c d = true) :
    Calls Try.prog 65 #[rv a b c d, .slice none 0 0] w fun e w' => e = .returned (.tuple #[rv a b c d, .bool true]) ∧ Below w.heap.size w w' :=
  (ringIf0 a b c d w).mono fun _ _ ⟨h1, h2⟩ => ⟨by rw [h1]; simp [ringRes, h, rI_t], h2⟩

set_option maxHeartbeats 2000000 in
theorem divided_any (a b c d n : Int) (w : World) (hx : rOk a b c d = true) (hn : (n == 0) = false) :
    Calls Try.prog 74 #[rv a b c d, .int .i64 n] w fun r w' => r = .returned (optRes (dvdQ (a, b, c, d) n) (quoQ (a, b, c, d) n)) ∧ Below w.heap.size w w' := by
  have Hx := Lib.hid hx
  have Ho := Lib.hid (quoQ_ok (s := (a, b, c, d)) (n := n) hx)
  have hb := rOk_iff.1 hx
  have Hb := Lib.hid hb
  clear hx hb
  have n0 : ¬ n = 0 := by simpa using hn
  rcases (Decidable.em (a.tmod n = 0)).symm with ha | ha
  · have hd : dvdQ (a, b, c, d) n = false := by simp [dvdQ, ha]
    have Hd := Lib.hid hd
    clear hd
    go_enter Try.func74, Try.ntmps74
    go_wp2
    refine bodyPost_ret (by simp [results, Try.results74, go_sem, optRes, Hd.out, rI_f]) rfl ⟨rfl, ?_⟩
    go_grown
  rcases (Decidable.em (b.tmod n = 0)).symm with hb | hb
  · have hd : dvdQ (a, b, c, d) n = false := by simp [dvdQ, hb]
    have Hd := Lib.hid hd
    clear hd
    go_enter Try.func74, Try.ntmps74
    go_wp2
    refine bodyPost_ret (by simp [results, Try.results74, go_sem, optRes, Hd.out, rI_f]) rfl ⟨rfl, ?_⟩
    go_grown
  rcases (Decidable.em (c.tmod n = 0)).symm with hc | hc
  · have hd : dvdQ (a, b, c, d) n = false := by simp [dvdQ, hc]
    have Hd := Lib.hid hd
    clear hd
    go_enter Try.func74, Try.ntmps74
    go_wp2
    refine bodyPost_ret (by simp [results, Try.results74, go_sem, optRes, Hd.out, rI_f]) rfl ⟨rfl, ?_⟩
    go_grown
  rcases (Decidable.em (d.tmod n = 0)).symm with hd | hd
  · have hd : dvdQ (a, b, c, d) n = false := by simp [dvdQ, hd]
    have Hd := Lib.hid hd
    clear hd
    go_enter Try.func74, Try.ntmps74
    go_wp2
    refine bodyPost_ret (by simp [results, Try.results74, go_sem, optRes, Hd.out, rI_f]) rfl ⟨rfl, ?_⟩
    go_grown
  have hd : dvdQ (a, b, c, d) n = true := by simp [dvdQ, ha, hb, hc, hd]
  have Hd := Lib.hid hd
  obtain ⟨p0, p1, p2, p3⟩ := Hb.out
  have w0 := IntWalk.i64_in (a.tdiv n) (by have := tdiv_bd (n := n) p0; omega)
  have w1 := IntWalk.i64_in (b.tdiv n) (by have := tdiv_bd (n := n) p1; omega)
  have w2 := IntWalk.i64_in (c.tdiv n) (by have := tdiv_bd (n := n) p2; omega)
  have w3 := IntWalk.i64_in (d.tdiv n) (by have := tdiv_bd (n := n) p3; omega)
  go_enter Try.func74, Try.ntmps74
  go_upto_region 3 with fail
  generalize hW0 : (w.alloc (.cells #[.int .i64 a, .int .i64 b, .int .i64 c, .int .i64 d] 38)).alloc (.cells #[.int .i64 0, .int .i64 0, .int .i64 0, .int .i64 0] 38) = W0
  have B0 : Below w.heap.size w W0 := by rw [← hW0]; go_grown
  have k0 : ∀ o, W0.cell? ⟨w.heap.size, o, none⟩ = _ := fun o => cell_of_row W0 w.heap.size o _ _ _ (by rw [← hW0]; exact (Below.heap_alloc _ _ _ (by simp)).trans (heap_top _ _ rfl))
  have k1 : ∀ o, W0.cell? ⟨w.heap.size + 1, o, none⟩ = _ := fun o => cell_of_row W0 (w.heap.size + 1) o _ _ _ (by rw [← hW0]; exact heap_top _ _ (by simp))
  have f1 : ∀ o, W0.frozen? ⟨w.heap.size + 1, o, none⟩ = false := fun o => frozen_of_row W0 (w.heap.size + 1) o _ _ (by rw [← hW0]; exact heap_top _ _ (by simp))
  have y00 : w.heap.size < W0.heap.size := by rw [← hW0]; go_size
  have y01 : w.heap.size + 1 < W0.heap.size := by rw [← hW0]; go_size
  clear hW0
  go_region_held3 (fun w' => (∀ b o, b < W0.heap.size → b ≠ w.heap.size + 1 → w'.cell? ⟨b, o, none⟩ = W0.cell? ⟨b, o, none⟩) ∧ W0.grownBy w' (some (w.heap.size + 1))) ((refine GB_mk ?_; repeat (first | (with_reducible exact grownBy_refl' _ _) | (with_reducible assumption) | (with_reducible refine only_drew ?_) | (with_reducible refine only_alloc ?_ _) | (with_reducible refine only_setCell ?_ (by first | (left; rfl) | (right; omega) | (right; simp; omega)) _)))) (first | (go_at_call 65; refine (divIf _ _ _ _ _ Ho.out).mono ?_; rintro e wA0 ⟨rfl, bA0⟩; obtain ⟨bA0c, bA0f⟩ := bcell bA0; (try simp only [World.size_drew] at bA0c); (try simp only [World.cell?_drew] at bA0c); (try simp only [World.size_drew] at bA0f); (try simp only [World.frozen?_drew] at bA0f); have sA0 := (GB_step (W := W0) (by with_reducible assumption) bA0).2; have zA0 := sA0.size; have yA0_0 : w.heap.size < wA0.heap.size := (by omega); have yA0_1 : w.heap.size + 1 < wA0.heap.size := (by omega)))
  go_wp2
  refine bodyPost_ret (by simp [results, Try.results74, go_sem, bA0c, k1, y01, optRes, Hd.out, quoQ, rI_t]) rfl ⟨rfl, ?_⟩
  refine below_only B0 (R := w.heap.size + 1) ?_ (by omega) (by omega)
  exact only_setCell (only_setCell (only_setCell (only_setCell sA0 (Or.inl rfl) _) (Or.inl rfl) _) (Or.inl rfl) _) (Or.inl rfl) _

theorem Try.stoodRing : Try.prog.stoodInHeld 38 = false := by kernel_rfl
theorem Try.guardRing : Try.prog.eqGuardType Try.prog.depth 38 = false := by kernel_rfl
theorem run_eqR0 (a b c d : Int) (w : World) : (binOp .eql 38 (rv a b c d) (rv 0 0 0 0)).run Try.prog w = .ok (.bool (uQ (a, b, c, d) == 0)) w := by
  have h : (uQ (a, b, c, d) == 0) = (a == 0 && (b == 0 && (c == 0 && d == 0))) := by
    rw [Bool.eq_iff_iff]
    simp [uQ_zero]
  rw [h, run_eql_struct, run_equalIn_agg w 9999 38 _ _ (by kernel_rfl) Try.stoodRing]
  simp only [Program.fieldsOf, Try.underlying38]
  by_cases h1 : a = 0 <;> by_cases h2 : b = 0 <;> by_cases h3 : c = 0 <;> by_cases h4 : d = 0 <;> simp [go_sem, h1, h2, h3, h4]
theorem run_gdR (op : BinOp) (t : TypeId) (x y : Operand) (xs ys : Array Value) (w : World) (ht : t = 38) : (eqGuard op t x y (.agg xs) (.agg ys)).run Try.prog w = .ok () w := by
  subst ht
  exact run_eqGuard_agg w op _ x y xs ys Try.guardRing

theorem absRes_of {a b c d : Int} {ok : Bool} (h : absOkQ (a, b, c, d) = ok) : absRes a b c d = .tuple #[.int .i64 (rI ok (uQ (a, b, c, d))), .int .i64 (rI ok (vQ (a, b, c, d))), .bool ok] := by
  have h' : absOk a b c d = ok := h
  simp only [absRes, h']
  rfl
theorem absOk_r {y : Q4} (h : absOkQ y = true) : okQ y = true := by
  simp only [absOkQ, absOk, Bool.and_eq_true] at h
  exact h.1
theorem uvOk {y : Q4} (h : absOkQ y = true) : okQ (uQ y, -vQ y, 0, vQ y) = true := by
  have := absOk_bd h
  refine rOk_iff.2 ?_
  simp only [uQ, vQ]
  omega
theorem conjOk {y : Q4} (h : okQ y = true) : okQ (conjQ y) = true := by
  have := rOk_iff.1 h
  refine rOk_iff.2 ?_
  simp only [conjQ]
  omega
theorem conj_of {a b c d : Int} (h : okQ (a, b, c, d) = true) : ringRes (rOk a b c d) a (-d) (-c) (-b) = .tuple #[rv a (-d) (-c) (-b), .bool true] := by
  have h1 : rOk a b c d = true := h
  have h2 : rOk a (-d) (-c) (-b) = true := conjOk h
  simp [ringRes, h1, h2, rI_t]
theorem mul_of {a b c d a' b' c' d' : Int} {ok : Bool} (h1 : okQ (a', b', c', d') = true) (h : (okQ (a, b, c, d) && okQ (mulQ (a, b, c, d) (a', b', c', d'))) = ok) :
    ringRes (rOk a b c d && rOk a' b' c' d') (a * a' - b * d' - c * c' - d * b') (a * b' + b * a' - c * d' - d * c') (a * c' + b * b' + c * a' - d * d') (a * d' + b * c' + c * b' + d * a') =
      optRes ok (mulQ (a, b, c, d) (a', b', c', d')) := by
  have h1' : rOk a' b' c' d' = true := h1
  have h' : (rOk a b c d && rOk (a * a' - b * d' - c * c' - d * b') (a * b' + b * a' - c * d' - d * c') (a * c' + b * b' + c * a' - d * d') (a * d' + b * c' + c * b' + d * a')) = ok := h
  simp only [ringRes, h1', Bool.and_true, h']
  rfl
end Go.Proofs.Ytcmkkjdleihjfaa
