/- Adjoint and ScaleMatrix of the program. -/
import Derived.Test.YtcmkkjdleihjfaaAtM
namespace Go.Proofs.Ytcmkkjdleihjfaa
open Go.RowKit

theorem conjRes_t {a b c d e : Int} (h : dOk a b c d e = true) : conjRes a b c d e = dyRes true (conjD ((a, b, c, d), e)) := by simp [conjRes, dyRes, h, rI_t, conjD, conjQ]

def adjL (R C : Nat) (xs : List D5) : List D5 := cellsM R (C * R) fun i j => conjD (atD C xs j i)

theorem flat_gb {w W cur : World} {R : Nat} {A : Option Addr} {zs : List Int} (h : FlatAt w A zs) (hb : Below w.heap.size w W)
    (hs : (∀ b o, b < W.heap.size → b ≠ R → cur.cell? ⟨b, o, none⟩ = W.cell? ⟨b, o, none⟩) ∧ W.grownBy cur (some R)) (hR : w.heap.size ≤ R) : FlatAt cur A zs := h.below (below_only hb hs.2 hb.size hR)
/-- block b holds a dyadic number -/
def LocD (w : World) (b : Nat) (y : D5) : Prop := b < w.heap.size ∧ Five w b 0 y
theorem LocD.call {w w' : World} {b : Nat} {y : D5} (h : LocD w b y) (hb : Below w.heap.size w w') : LocD w' b y := ⟨Nat.lt_of_lt_of_le h.1 hb.size, h.2.below hb h.1⟩
theorem LocD.below {B : Nat} {w w' : World} {b : Nat} {y : D5} (h : LocD w b y) (hb : Below B w w') (hB : b < B) : LocD w' b y := ⟨Nat.lt_of_lt_of_le h.1 hb.size, h.2.below hb hB⟩
theorem LocD.of_row {w : World} {b : Nat} {t : TypeId} {fr : Nat × Nat} {y : D5} (h : w.heap[b]? = some (.cells #[.int .i64 y.1.1, .int .i64 y.1.2.1, .int .i64 y.1.2.2.1, .int .i64 y.1.2.2.2, .int .i64 y.2] t fr)) : LocD w b y :=
  ⟨(Array.getElem?_eq_some_iff.1 h).1, cell_of_row w b 0 _ _ _ h, cell_of_row w b 1 _ _ _ h, cell_of_row w b 2 _ _ _ h, cell_of_row w b 3 _ _ _ h, cell_of_row w b 4 _ _ _ h⟩
def sclOk (C : Nat) (xs : List D5) (y : D5) (i j : Nat) : Bool := dOkD (atD C xs i j) && dOkD y && mulOk (atD C xs i j) y
def sclC (C : Nat) (xs : List D5) (y : D5) (i j : Nat) : D5 := mulC (atD C xs i j) y

set_option maxRecDepth 100000 in
set_option maxHeartbeats 4000000 in
theorem sclCell_any (R C i j : Nat) (A : Option Addr) (cap : Nat) (xs : List D5) (y : D5) (bm bx : Nat) (w : World) (hR : R ≤ 32) (hC : C ≤ 32) (hl : xs.length = R * C) (hi : i < R) (hj : j < C) (hx : Hid (FlatAt w A (flatD xs))) (hm : Hid (LocM w bm R C A xs.length cap)) (hy : Hid (LocD w bx y)) :
    Calls Try.prog 100 #[.int .i64 (i : Int), .int .i64 (j : Int), .pointer (some ⟨bm, 0, none⟩), .pointer (some ⟨bx, 0, none⟩)] w fun e w' => e = .returned (dyRes (sclOk C xs y i j) (sclC C xs y i j)) ∧ Below w.heap.size w w' := by
  have Hr : Hid (mulRes (atD C xs i j) y = dyRes (sclOk C xs y i j) (sclC C xs y i j)) := rfl
  have Hl := Lib.hid hl
  clear hl
  obtain ⟨m0, m1, m2, m3⟩ := hm.out
  obtain ⟨n0, n1, n2, n3, n4, n5⟩ := hy.out
  go_enter Try.func100, Try.ntmps100
  go_upto_region 1 with fail
  generalize hW0 : w.alloc (.cells #[.int .i64 0, .int .i64 0, .int .i64 0, .int .i64 0, .int .i64 0] 52) = W0
  have B0 : Below w.heap.size w W0 := by rw [← hW0]; go_grown
  have k0 : ∀ o, W0.cell? ⟨w.heap.size, o, none⟩ = _ := fun o => cell_of_row W0 w.heap.size o _ _ _ (by rw [← hW0]; exact heap_top _ _ rfl)
  have f0 : ∀ o, W0.frozen? ⟨w.heap.size, o, none⟩ = false := fun o => frozen_of_row W0 w.heap.size o _ _ (by rw [← hW0]; exact heap_top _ _ rfl)
  have y00 : w.heap.size < W0.heap.size := by rw [← hW0]; go_size
  have ybm : bm < W0.heap.size := by omega
  have ybx : bx < W0.heap.size := by omega
  have nbm : ¬ bm = w.heap.size := by omega
  have nbx : ¬ bx = w.heap.size := by omega
  have M0 := (hm.out.below B0 m0)
  have N0 := (hy.out.below B0 n0)
  clear hW0 m1 m2 m3 n1 n2 n3 n4 n5
  obtain ⟨_, m1, m2, m3⟩ := M0
  obtain ⟨_, n1, n2, n3, n4, n5⟩ := N0
  go_region_held3 (fun w' => (∀ b o, b < W0.heap.size → b ≠ w.heap.size → w'.cell? ⟨b, o, none⟩ = W0.cell? ⟨b, o, none⟩) ∧ W0.grownBy w' (some (w.heap.size))) ((refine GB_mk ?_; repeat (first | (with_reducible exact grownBy_refl' _ _) | (with_reducible assumption) | (with_reducible refine only_drew ?_) | (with_reducible refine only_alloc ?_ _) | (with_reducible refine only_setCell ?_ (by first | (left; rfl) | (right; omega) | (right; simp; omega)) _)))) (first | (go_at_call 102; refine (atD_any R C i j A cap xs _ hR hC Hl.out hi hj (flat_gb hx.out B0 (by with_reducible assumption) (Nat.le_refl _))).mono ?_; rintro e wA0 ⟨rfl, bA0⟩; obtain ⟨bA0c, bA0f⟩ := bcell bA0; (try simp only [World.size_drew] at bA0c); (try simp only [World.cell?_drew] at bA0c); (try simp only [World.size_drew] at bA0f); (try simp only [World.frozen?_drew] at bA0f); have sA0 := (GB_step (W := W0) (by with_reducible assumption) bA0).2; have zA0 := sA0.size; have yA0_0 : w.heap.size < wA0.heap.size := (by omega)) | (go_at_call 101; refine (implMulD_any _ _ _ _ _ _ _ _ _ _ _).mono ?_; rintro e wA1 ⟨rfl, bA1⟩; obtain ⟨bA1c, bA1f⟩ := bcell bA1; (try simp only [World.size_drew] at bA1c); (try simp only [World.cell?_drew] at bA1c); (try simp only [World.size_drew] at bA1f); (try simp only [World.frozen?_drew] at bA1f); have sA1 := (GB_step (W := W0) (by with_reducible assumption) bA1).2; have zA1 := sA1.size; have yA1_0 : w.heap.size < wA1.heap.size := (by omega); rw [Hr.out]; unfold dyRes))
  all_goals
    go_wp2
    refine bodyPost_ret (by simp [results, Try.results100, go_sem, bA1c, bA0c, yA0_0, k0, y00, dyRes]) rfl ⟨rfl, ?_⟩
    refine below_only B0 (R := w.heap.size) ?_ (by omega) (by omega)
    exact only_setCell (only_setCell (only_setCell (only_setCell (only_setCell sA1 (Or.inl rfl) _) (Or.inl rfl) _) (Or.inl rfl) _) (Or.inl rfl) _) (Or.inl rfl) _
end Go.Proofs.Ytcmkkjdleihjfaa
