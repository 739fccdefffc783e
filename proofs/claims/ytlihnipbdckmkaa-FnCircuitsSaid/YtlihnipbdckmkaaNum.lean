/- Contracts of the smallest functions over numbers and of the validity of a ring number. -/
import Derived.Test.YtlihnipbdckmkaaRows
import Derived.WalkKit
import Derived.WalkSpells
import Derived.WalkLawsBesides
import Derived.Lib.Hide
import Derived.Handy
import Derived.Deep.QuietTactic
import Derived.BigQuiet
import Derived.Deep.RegionHeld3
namespace Go.Proofs.Ytlihnipbdckmkaa
open Go.RowKit

def inB (n lo hi : Int) : Bool := decide (lo ≤ n ∧ n ≤ hi)
def coefB (n : Int) : Bool := inB n (-1000000000) 1000000000
def rOk (a b c d : Int) : Bool := coefB a && coefB b && coefB c && coefB d

theorem bcell {W w1 : World} (hb : Below W.heap.size W w1) : (∀ b o, b < W.heap.size → w1.cell? ⟨b, o, none⟩ = W.cell? ⟨b, o, none⟩) ∧ (∀ b o, b < W.heap.size → w1.frozen? ⟨b, o, none⟩ = W.frozen? ⟨b, o, none⟩) :=
  ⟨fun b o h => hb.cell (p := ⟨b, o, none⟩) h, fun b o h => hb.frozen (p := ⟨b, o, none⟩) h⟩
theorem bcellB {B : Nat} {W w1 : World} (hb : Below B W w1) : (∀ b o, b < B → w1.cell? ⟨b, o, none⟩ = W.cell? ⟨b, o, none⟩) ∧ (∀ b o, b < B → w1.frozen? ⟨b, o, none⟩ = W.frozen? ⟨b, o, none⟩) :=
  ⟨fun b o h => hb.cell (p := ⟨b, o, none⟩) h, fun b o h => hb.frozen (p := ⟨b, o, none⟩) h⟩
theorem Below.chain {B B' : Nat} {a b c d : World} (h1 : Below B a b) (h2 : Below B b c) (h3 : Below B' c d) (hB : B ≤ B') : Below B a d := (h1.trans h2).trans (h3.mono hB)
theorem heap_top (w : World) (o : Obj) {g : Nat} (hg : g = w.heap.size) : (w.alloc o).heap[g]? = some o := by
  subst hg
  exact heap_alloc_new w o
theorem cells_at {w : World} {g : Nat} {t : TypeId} {fr : Nat × Nat} (xs : List Value) (h : w.heap[g]? = some (.cells xs.toArray t fr)) : ∀ j u, xs[j]? = some u → w.cell? ((⟨g, 0, none⟩ : Addr).add j) = some u := by
  intro j u hu
  have e : (⟨g, 0, none⟩ : Addr).add j = ⟨g, j, none⟩ := by
    unfold Addr.add
    split
    · next h0 => subst h0; rfl
    · simp
  rw [e, cell_of_row w g j xs.toArray t fr h]
  simpa using hu
theorem SB_mk {W w' : World} (h : Below W.heap.size W w') : (∀ b o, b < W.heap.size → w'.cell? ⟨b, o, none⟩ = W.cell? ⟨b, o, none⟩) ∧ Below W.heap.size W w' := ⟨fun b o hb => h.cell (p := ⟨b, o, none⟩) hb, h⟩
theorem SB_step {W w1 w2 : World} (h : (∀ b o, b < W.heap.size → w1.cell? ⟨b, o, none⟩ = W.cell? ⟨b, o, none⟩) ∧ Below W.heap.size W w1) (h2 : Below w1.heap.size w1 w2) :
    (∀ b o, b < W.heap.size → w2.cell? ⟨b, o, none⟩ = W.cell? ⟨b, o, none⟩) ∧ Below W.heap.size W w2 := SB_mk (h.2.trans (h2.mono h.2.size))
theorem SB_alloc {W w1 : World} (h : (∀ b o, b < W.heap.size → w1.cell? ⟨b, o, none⟩ = W.cell? ⟨b, o, none⟩) ∧ Below W.heap.size W w1) (o : Obj) :
    (∀ b k, b < W.heap.size → (w1.alloc o).cell? ⟨b, k, none⟩ = W.cell? ⟨b, k, none⟩) ∧ Below W.heap.size W (w1.alloc o) := SB_mk (h.2.alloc h.2.size o)
theorem SB_set4 {W w1 : World} (h : (∀ b o, b < W.heap.size → w1.cell? ⟨b, o, none⟩ = W.cell? ⟨b, o, none⟩) ∧ Below W.heap.size W w1) {g : Nat} (hg : W.heap.size ≤ g) (u0 u1 u2 u3 : Value) :
    (∀ b k, b < W.heap.size → ((((w1.setCell ⟨g, 0, none⟩ u0).setCell ⟨g, 1, none⟩ u1).setCell ⟨g, 2, none⟩ u2).setCell ⟨g, 3, none⟩ u3).cell? ⟨b, k, none⟩ = W.cell? ⟨b, k, none⟩) ∧
      Below W.heap.size W ((((w1.setCell ⟨g, 0, none⟩ u0).setCell ⟨g, 1, none⟩ u1).setCell ⟨g, 2, none⟩ u2).setCell ⟨g, 3, none⟩ u3) :=
  SB_mk ((((h.2.setCell hg u0).setCell hg u1).setCell hg u2).setCell hg u3)
theorem lt_size {W w' : World} {o : Obj} (h : Below (W.alloc o).heap.size (W.alloc o) w') : W.heap.size < w'.heap.size := by
  have := h.size
  simp at this
  omega
theorem lt_sizeD {W w' : World} {o : Obj} (h : Below (W.alloc o).drew.heap.size (W.alloc o).drew w') : W.heap.size < w'.heap.size := by
  have := h.size
  simp at this
  omega
theorem ret_bool {a b : Bool} (h : a = b) : Ending.returned (.bool a) = .returned (.bool b) := by rw [h]

/-- a number where something holds, else 0 -/
def rI (ok : Bool) (n : Int) : Int := if ok then n else 0
theorem rI_t (n : Int) : rI true n = n := rfl
theorem rI_f (n : Int) : rI false n = 0 := rfl
theorem inB_t {n lo hi : Int} : inB n lo hi = true ↔ lo ≤ n ∧ n ≤ hi := by simp [inB]
theorem inB_f {n lo hi : Int} : inB n lo hi = false ↔ n < lo ∨ hi < n := by simp [inB]; omega
theorem coefB_iff {n : Int} : coefB n = true ↔ -1000000000 ≤ n ∧ n ≤ 1000000000 := by simp [coefB, inB]
theorem inB_yes {n lo hi : Int} (h1 : lo ≤ n) (h2 : n ≤ hi) : inB n lo hi = true := by simp [inB, h1, h2]
theorem inB_no {n lo hi : Int} (h : n < lo ∨ hi < n) : inB n lo hi = false := by simp [inB]; omega

set_option maxHeartbeats 400000 in
theorem l1In_any (n lo hi : Int) (w : World) :
    Calls Try.prog 24 #[.int .i64 n, .int .i64 lo, .int .i64 hi] w fun e w' => e = .returned (.bool (inB n lo hi)) ∧ w = w' := by
  by_cases h1 : lo ≤ n
  · by_cases h2 : n ≤ hi
    · go_enter Try.func24, Try.ntmps24
      go_wp2
      go_ret
      exact ⟨ret_bool (by rw [inB_yes h1 h2]), rfl⟩
    · go_enter Try.func24, Try.ntmps24
      go_wp2
      go_ret
      exact ⟨ret_bool (by rw [inB_no (by omega)]), rfl⟩
  · go_enter Try.func24, Try.ntmps24
    go_wp2
    go_ret
    exact ⟨ret_bool (by rw [inB_no (by omega)]), rfl⟩

set_option maxHeartbeats 400000 in
theorem within_any (n lo hi : Int) (w : World) :
    Calls Try.prog 56 #[.int .i64 n, .int .i64 lo, .int .i64 hi] w fun e w' => e = .returned (.bool (inB n lo hi)) ∧ w = w' := by
  by_cases h1 : lo ≤ n
  · by_cases h2 : n ≤ hi
    · go_enter Try.func56, Try.ntmps56
      go_wp2
      go_ret
      exact ⟨ret_bool (by rw [inB_yes h1 h2]), rfl⟩
    · go_enter Try.func56, Try.ntmps56
      go_wp2
      go_ret
      exact ⟨ret_bool (by rw [inB_no (by omega)]), rfl⟩
  · go_enter Try.func56, Try.ntmps56
    go_wp2
    go_ret
    exact ⟨ret_bool (by rw [inB_no (by omega)]), rfl⟩

set_option maxHeartbeats 400000 in
theorem isCoef_any (n : Int) (w : World) :
    Calls Try.prog 80 #[.int .i64 n] w fun e w' => e = .returned (.bool (coefB n)) ∧ w = w' := by
  go_enter Try.func80, Try.ntmps80
  go_wp2_with (go_at_call 56; refine (within_any _ _ _ _).mono ?_; rintro e w' ⟨rfl, rfl⟩)
  go_ret
  exact ⟨rfl, rfl⟩

set_option maxHeartbeats 400000 in
theorem IsValidRing_any (a b c d : Int) (w : World) :
    Calls Try.prog 75 #[.agg #[.int .i64 a, .int .i64 b, .int .i64 c, .int .i64 d]] w fun e w' => e = .returned (.bool (rOk a b c d)) ∧ Below w.heap.size w w' := by
  have hb : Below w.heap.size w (w.alloc (.cells #[.int .i64 a, .int .i64 b, .int .i64 c, .int .i64 d] 58)) := (Below.refl _ _).alloc (Nat.le_refl _) _
  rcases ha : coefB a with _ | _
  · go_enter Try.func75, Try.ntmps75
    go_wp2_with (go_at_call 80; refine (isCoef_any _ _).mono ?_; rintro e w' ⟨rfl, rfl⟩)
    go_ret
    exact ⟨ret_bool (by simp [rOk, ha]), hb⟩
  · rcases hb' : coefB b with _ | _
    · go_enter Try.func75, Try.ntmps75
      go_wp2_with (go_at_call 80; refine (isCoef_any _ _).mono ?_; rintro e w' ⟨rfl, rfl⟩)
      go_ret
      exact ⟨ret_bool (by simp [rOk, hb']), hb⟩
    · rcases hc : coefB c with _ | _
      · go_enter Try.func75, Try.ntmps75
        go_wp2_with (go_at_call 80; refine (isCoef_any _ _).mono ?_; rintro e w' ⟨rfl, rfl⟩)
        go_ret
        exact ⟨ret_bool (by simp [rOk, hc]), hb⟩
      · go_enter Try.func75, Try.ntmps75
        go_wp2_with (go_at_call 80; refine (isCoef_any _ _).mono ?_; rintro e w' ⟨rfl, rfl⟩)
        go_ret
        exact ⟨ret_bool (by simp [rOk, ha, hb', hc]), hb⟩

end Go.Proofs.Ytlihnipbdckmkaa
