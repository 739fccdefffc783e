/- Adjoint and ScaleMatrix of the program. -/
import Derived.Test.YtogafcnaombpaaaAtM
namespace Go.Proofs.Ytogafcnaombpaaa
open Go.RowKit

theorem conjRes_t {a b c d e : Int} (h : dOk a b c d e = true) : conjRes a b c d e = dyRes true (conjD ((a, b, c, d), e)) := by simp [conjRes, dyRes, h, rI_t, conjD, conjQ]

set_option maxRecDepth 100000 in
set_option maxHeartbeats 4000000 in
theorem adjCell_any (R C i j : Nat) (A : Option Addr) (cap : Nat) (xs : List D5) (bm : Nat) (w : World) (hR : R ≤ 32) (hC : C ≤ 32) (hl : xs.length = R * C) (hi : i < C) (hj : j < R) (hall : xs.all dOkD = true) (hx : Hid (FlatAt w A (flatD xs))) (hm : Hid (LocM w bm R C A xs.length cap)) :
    Calls Try.prog 84 #[.int .i64 (i : Int), .int .i64 (j : Int), .pointer (some ⟨bm, 0, none⟩)] w fun e w' => e = .returned (dyRes true (conjD (atD C xs j i))) ∧ Below w.heap.size w w' := by
  have hok := all_at hl hj hi hall
  have Hc : Hid (conjRes (atD C xs j i).1.1 (atD C xs j i).1.2.1 (atD C xs j i).1.2.2.1 (atD C xs j i).1.2.2.2 (atD C xs j i).2 = .tuple #[dvD (conjD (atD C xs j i)), .bool true]) := by
    show conjRes _ _ _ _ _ = _
    rw [conjRes_t hok]
    simp [dyRes, rI_t]
  have Hr : Hid (dyRes true (conjD (atD C xs j i)) = .tuple #[dvD (conjD (atD C xs j i)), .bool true]) := by show dyRes _ _ = _; simp [dyRes, rI_t]
  have Hl := Lib.hid hl
  clear hl hall hok
  obtain ⟨m0, m1, m2, m3⟩ := hm.out
  go_enter Try.func84, Try.ntmps84
  go_wp2_with fail
  refine (atD_any R C j i A cap xs _ hR hC Hl.out hj hi (hx.out.alloc _)).mono ?_
  rintro e w1 ⟨rfl, b1⟩
  obtain ⟨b1c, b1f⟩ := bcell b1
  have z1 := b1.size
  try simp only [World.size_alloc] at z1
  have B1 : Below w.heap.size w w1 := Below.chain (Below.refl _ _) (by go_grown) b1 (by go_size)
  have y10 : w.heap.size < w1.heap.size := by omega
  go_wp2_with fail
  refine (implConjD_any _ _ _ _ _ _).mono ?_
  rintro e w2 ⟨rfl, b2⟩
  have z2 := b2.size
  try simp only [World.size_alloc] at z2
  have C2 := Below.chain b1 (by go_grown) b2 (by go_size)
  have B2 : Below w.heap.size w w2 := Below.chain B1 (by go_grown) b2 (by go_size)
  obtain ⟨b2c, b2f⟩ := bcell b2
  obtain ⟨C2c, C2f⟩ := bcellB C2
  have y20 : w.heap.size < w2.heap.size := by omega
  try (have v21 : w1.heap.size < w2.heap.size := by omega)
  rw [Hc.out]
  go_wp2
  rw [Hr.out]
  refine bodyPost_ret (by simp [results, Try.results84, go_sem, C2c]) rfl ⟨rfl, ?_⟩
  go_grown

def adjL (R C : Nat) (xs : List D5) : List D5 := cellsM R (C * R) fun i j => conjD (atD C xs j i)

set_option maxRecDepth 100000 in
set_option maxHeartbeats 4000000 in
theorem implAdj_any (r c : Int) (A : Option Addr) (cap : Nat) (xs : List D5) (w : World) (hn : xs.length ≤ 1048576) (hx : Hid (FlatAt w A (flatD xs))) :
    Calls Try.prog 41 #[mv r c A xs.length cap] w fun e w' => MRes e w w' (mOk r c xs) c r (adjL r.toNat c.toNat xs) := by
  have hmf := fun (fn : Fn) (first cap : Array Value) (w : World) => (rfl : (Instr.makeFunc fn first cap).run Try.prog w = .ok (.func fn first cap) w)
  rcases hok : mOk r c xs with _ | _
  · go_enter Try.func41, Try.ntmps41
    go_wp2_with fail
    refine (implValidM_any r c A cap xs _ hn ((hx.out.alloc _).alloc _)).mono ?_
    rintro e w1 ⟨rfl, b1⟩
    obtain ⟨b1c, b1f⟩ := bcell b1
    have z1 := b1.size
    try simp only [World.size_alloc] at z1
    have B1 : Below w.heap.size w w1 := Below.chain (Below.refl _ _) (by go_grown) b1 (by go_size)
    have y10 : w.heap.size < w1.heap.size := by omega
    have y11 : w.heap.size + 1 < w1.heap.size := by omega
    rw [hok]
    go_wp2
    refine bodyPost_ret (by simp [results, Try.results41, go_sem, b1c]) rfl (MRes.no rfl ?_)
    go_grown
  obtain ⟨R, C, rfl, rfl, hR1, hR, hC1, hC, hdr, hdc, hlen, hall⟩ := dims hok
  have Hlen := Lib.hid hlen
  have Hall := Lib.hid hall
  have Hok := Lib.hid hok
  have Hyes : Hid ((dimB (C : Int) && dimB (R : Int) && okM (Int.toNat R) (Int.toNat C * Int.toNat R) (fun _ _ => true)) = true) := by
    show _ = _
    rw [hdr, hdc]
    simp [okM]
  clear hlen hall hdc hdr hok
  go_enter Try.func41, Try.ntmps41
  go_wp2_with fail
  refine (implValidM_any R C A cap xs _ hn ((hx.out.alloc _).alloc _)).mono ?_
  rintro e w1 ⟨rfl, b1⟩
  obtain ⟨b1c, b1f⟩ := bcell b1
  have z1 := b1.size
  try simp only [World.size_alloc] at z1
  have B1 : Below w.heap.size w w1 := Below.chain (Below.refl _ _) (by go_grown) b1 (by go_size)
  have y10 : w.heap.size < w1.heap.size := by omega
  have y11 : w.heap.size + 1 < w1.heap.size := by omega
  rw [Hok.out]
  have L1 : Hid (LocM w1 w.heap.size R C A xs.length cap) := LocM.below (LocM.of_row ((Below.heap_alloc _ _ _ (by go_size)).trans (heap_top _ _ rfl))) b1 (by go_size)
  go_wp2_with fail
  refine (matrixOf_any (C : Int) (R : Int) 84 #[.pointer (some ⟨w.heap.size, 0, none⟩)] (fun i j => conjD (atD C xs j i)) (fun _ _ => true) _ Try.call84 ?hcell).mono ?_
  case hcell =>
    intro i j W hi hj hb
    have hb' : Below w1.heap.size w1 W := hb
    exact adjCell_any R C i j A cap xs _ W hR hC Hlen.out (by omega) (by omega) Hall.out ((hx.out.below B1).below hb') (L1.out.call hb')
  rintro e w2 hm'
  rw [Hyes.out] at hm'
  obtain ⟨A', cap', R', C', ys, rfl, h1, h2, h3, hf, b2⟩ := hm'.form
  have Hm := Lib.hid (And.intro h1 (And.intro h2 h3))
  have Hf := Lib.hid hf
  have z2 := b2.size
  have C2 := Below.chain b1 (by go_grown) b2 (by go_size)
  have B2 : Below w.heap.size w w2 := B1.trans (b2.mono B1.size)
  obtain ⟨C2c, C2f⟩ := bcellB C2
  have y20 : w.heap.size < w2.heap.size := by omega
  have y22 : w.heap.size + 1 < w2.heap.size := by omega
  clear hm' h1 h2 h3 hf b2
  go_wp2
  refine bodyPost_ret (by simp [results, Try.results41, go_sem, C2c]) rfl (MRes.mk (A := A') (cap := cap') Hm.out.1 Hm.out.2.1 Hm.out.2.2 ?_ ?_)
  · refine FlatIn.mono (lo := w1.heap.size) (hi := w2.heap.size) ?_ (by omega) (by go_size) (Nat.le_refl _)
    repeat (refine FlatIn.setFar ?_ (by dsimp only; omega) _)
    exact Hf.out
  · go_grown

theorem flat_gb {w W cur : World} {R : Nat} {A : Option Addr} {zs : List Int} (h : FlatAt w A zs) (hb : Below w.heap.size w W)
    (hs : (∀ b o, b < W.heap.size → b ≠ R → cur.cell? ⟨b, o, none⟩ = W.cell? ⟨b, o, none⟩) ∧ W.grownBy cur (some R)) (hR : w.heap.size ≤ R) : FlatAt cur A zs := h.below (below_only hb hs.2 hb.size hR)
/-- block b holds a dyadic number -/
def LocD (w : World) (b : Nat) (y : D5) : Prop := b < w.heap.size ∧ Five w b 0 y
theorem LocD.call {w w' : World} {b : Nat} {y : D5} (h : LocD w b y) (hb : Below w.heap.size w w') : LocD w' b y := ⟨Nat.lt_of_lt_of_le h.1 hb.size, h.2.below hb h.1⟩
theorem LocD.below {B : Nat} {w w' : World} {b : Nat} {y : D5} (h : LocD w b y) (hb : Below B w w') (hB : b < B) : LocD w' b y := ⟨Nat.lt_of_lt_of_le h.1 hb.size, h.2.below hb hB⟩
theorem LocD.of_row {w : World} {b : Nat} {t : TypeId} {fr : Nat × Nat} {y : D5} (h : w.heap[b]? = some (.cells #[.int .i64 y.1.1, .int .i64 y.1.2.1, .int .i64 y.1.2.2.1, .int .i64 y.1.2.2.2, .int .i64 y.2] t fr)) : LocD w b y :=
  ⟨(Array.getElem?_eq_some_iff.1 h).1, cell_of_row w b 0 _ _ _ h, cell_of_row w b 1 _ _ _ h, cell_of_row w b 2 _ _ _ h, cell_of_row w b 3 _ _ _ h, cell_of_row w b 4 _ _ _ h⟩
def sclOk (C : Nat) (xs : List D5) (y : D5) (i j : Nat) : Bool := dOkD (atD C xs i j) && dOkD y && mulOk (atD C xs i j) y
def sclC (C : Nat) (xs : List D5) (y : D5) (i j : Nat) : D5 := mulC (atD C xs i j) y

set_option maxRecDepth 100000 in
set_option maxHeartbeats 4000000 in
theorem sclCell_any (R C i j : Nat) (A : Option Addr) (cap : Nat) (xs : List D5) (y : D5) (bm bx : Nat) (w : World) (hR : R ≤ 32) (hC : C ≤ 32) (hl : xs.length = R * C) (hi : i < R) (hj : j < C) (hx : Hid (FlatAt w A (flatD xs))) (hm : Hid (LocM w bm R C A xs.length cap)) (hy : Hid (LocD w bx y)) :
    Calls Try.prog 88 #[.int .i64 (i : Int), .int .i64 (j : Int), .pointer (some ⟨bm, 0, none⟩), .pointer (some ⟨bx, 0, none⟩)] w fun e w' => e = .returned (dyRes (sclOk C xs y i j) (sclC C xs y i j)) ∧ Below w.heap.size w w' := by
  have Hr : Hid (mulRes (atD C xs i j) y = dyRes (sclOk C xs y i j) (sclC C xs y i j)) := rfl
  have Hl := Lib.hid hl
  clear hl
  obtain ⟨m0, m1, m2, m3⟩ := hm.out
  obtain ⟨n0, n1, n2, n3, n4, n5⟩ := hy.out
  go_enter Try.func88, Try.ntmps88
  go_upto_region 1 with fail
  generalize hW0 : w.alloc (.cells #[.int .i64 0, .int .i64 0, .int .i64 0, .int .i64 0, .int .i64 0] 45) = W0
  have B0 : Below w.heap.size w W0 := by rw [← hW0]; go_grown
  have k0 : ∀ o, W0.cell? ⟨w.heap.size, o, none⟩ = _ := fun o => cell_of_row W0 w.heap.size o _ _ _ (by rw [← hW0]; exact heap_top _ _ rfl)
  have f0 : ∀ o, W0.frozen? ⟨w.heap.size, o, none⟩ = false := fun o => frozen_of_row W0 w.heap.size o _ _ (by rw [← hW0]; exact heap_top _ _ rfl)
  have y00 : w.heap.size < W0.heap.size := by rw [← hW0]; go_size
  have ybm : bm < W0.heap.size := by omega
  have ybx : bx < W0.heap.size := by omega
  have nbm : ¬ bm = w.heap.size := by omega
  have nbx : ¬ bx = w.heap.size := by omega
  have M0 := (hm.out.below B0 m0)
  have N0 := (hy.out.below B0 n0)
  clear hW0 m1 m2 m3 n1 n2 n3 n4 n5
  obtain ⟨_, m1, m2, m3⟩ := M0
  obtain ⟨_, n1, n2, n3, n4, n5⟩ := N0
  go_region_held3 (fun w' => (∀ b o, b < W0.heap.size → b ≠ w.heap.size → w'.cell? ⟨b, o, none⟩ = W0.cell? ⟨b, o, none⟩) ∧ W0.grownBy w' (some (w.heap.size))) ((refine GB_mk ?_; repeat (first | (with_reducible exact grownBy_refl' _ _) | (with_reducible assumption) | (with_reducible refine only_drew ?_) | (with_reducible refine only_alloc ?_ _) | (with_reducible refine only_setCell ?_ (by first | (left; rfl) | (right; omega) | (right; simp; omega)) _)))) (first | (go_at_call 82; refine (atD_any R C i j A cap xs _ hR hC Hl.out hi hj (flat_gb hx.out B0 (by with_reducible assumption) (Nat.le_refl _))).mono ?_; rintro e wA0 ⟨rfl, bA0⟩; obtain ⟨bA0c, bA0f⟩ := bcell bA0; (try simp only [World.size_drew] at bA0c); (try simp only [World.cell?_drew] at bA0c); (try simp only [World.size_drew] at bA0f); (try simp only [World.frozen?_drew] at bA0f); have sA0 := (GB_step (W := W0) (by with_reducible assumption) bA0).2; have zA0 := sA0.size; have yA0_0 : w.heap.size < wA0.heap.size := (by omega)) | (go_at_call 28; refine (implMulD_any _ _ _ _ _ _ _ _ _ _ _).mono ?_; rintro e wA1 ⟨rfl, bA1⟩; obtain ⟨bA1c, bA1f⟩ := bcell bA1; (try simp only [World.size_drew] at bA1c); (try simp only [World.cell?_drew] at bA1c); (try simp only [World.size_drew] at bA1f); (try simp only [World.frozen?_drew] at bA1f); have sA1 := (GB_step (W := W0) (by with_reducible assumption) bA1).2; have zA1 := sA1.size; have yA1_0 : w.heap.size < wA1.heap.size := (by omega); rw [Hr.out]; unfold dyRes))
  all_goals
    go_wp2
    refine bodyPost_ret (by simp [results, Try.results88, go_sem, bA1c, bA0c, yA0_0, k0, y00, dyRes]) rfl ⟨rfl, ?_⟩
    refine below_only B0 (R := w.heap.size) ?_ (by omega) (by omega)
    exact only_setCell (only_setCell (only_setCell (only_setCell (only_setCell sA1 (Or.inl rfl) _) (Or.inl rfl) _) (Or.inl rfl) _) (Or.inl rfl) _) (Or.inl rfl) _
end Go.Proofs.Ytogafcnaombpaaa
