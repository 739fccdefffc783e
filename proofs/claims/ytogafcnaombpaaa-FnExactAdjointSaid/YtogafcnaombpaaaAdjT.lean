/- Adjoint of the reference: the whole. -/
import Derived.Test.YtogafcnaombpaaaAdjS
namespace Go.Proofs.Ytogafcnaombpaaa
open Go.RowKit

set_option maxRecDepth 100000 in
set_option maxHeartbeats 4000000 in
theorem specAdj_any (r c : Int) (A : Option Addr) (cap : Nat) (xs : List D5) (w : World) (hx : Hid (FlatAt w A (flatD xs))) :
    Calls Try.prog 40 #[mv r c A xs.length cap] w fun e w' => MRes e w w' (mOk r c xs) c r (adjL r.toNat c.toNat xs) := by
  rcases hok : mOk r c xs with _ | _
  · go_enter Try.func40, Try.ntmps40
    go_wp2_with fail
    refine (l3Good_any r c A cap xs _ ((hx.out.alloc _).alloc _)).mono ?_
    rintro e w1 ⟨rfl, b1⟩
    obtain ⟨b1c, b1f⟩ := bcell b1
    have z1 := b1.size
    try simp only [World.size_alloc] at z1
    have B1 : Below w.heap.size w w1 := Below.chain (Below.refl _ _) (by go_grown) b1 (by go_size)
    have y10 : w.heap.size < w1.heap.size := by omega
    have y11 : w.heap.size + 1 < w1.heap.size := by omega
    rw [hok]
    go_wp2
    refine bodyPost_ret (by simp [results, Try.results40, go_sem, b1c]) rfl (MRes.no rfl ?_)
    go_grown
  obtain ⟨R, C, rfl, rfl, hR1, hR, hC1, hC, hdr, hdc, hlen, hall⟩ := dims hok
  have Hlen := Lib.hid hlen
  have Hall := Lib.hid hall
  have Hok := Lib.hid hok
  clear hlen hall hdc hdr hok
  go_enter Try.func40, Try.ntmps40
  go_wp2_with fail
  refine (l3Good_any R C A cap xs _ ((hx.out.alloc _).alloc _)).mono ?_
  rintro e w1 ⟨rfl, b1⟩
  obtain ⟨b1c, b1f⟩ := bcell b1
  have z1 := b1.size
  try simp only [World.size_alloc] at z1
  have B1 : Below w.heap.size w w1 := Below.chain (Below.refl _ _) (by go_grown) b1 (by go_size)
  have y10 : w.heap.size < w1.heap.size := by omega
  have y11 : w.heap.size + 1 < w1.heap.size := by omega
  rw [Hok.out]
  go_wp2_with fail
  refine (l3Adj_any R C A cap xs _ hR hC Hlen.out Hall.out (by refine hx.out.below B1)).mono ?_
  rintro e w2 ⟨A', cap', rfl, hf, b2⟩
  have Hf := Lib.hid hf
  have z2 := b2.size
  have C2 := Below.chain b1 (by go_grown) b2 (by go_size)
  have B2 : Below w.heap.size w w2 := B1.trans (b2.mono B1.size)
  obtain ⟨C2c, C2f⟩ := bcellB C2
  have y20 : w.heap.size < w2.heap.size := by omega
  have y22 : w.heap.size + 1 < w2.heap.size := by omega
  clear hf b2
  go_wp2
  refine bodyPost_ret (by simp [results, Try.results40, go_sem, C2c]) rfl (MRes.yes (A := A') (cap := cap') rfl ?_ ?_)
  · refine FlatIn.mono (lo := w1.heap.size) (hi := w2.heap.size) ?_ (by omega) (by go_size) (Nat.le_refl _)
    repeat (refine FlatIn.setFar ?_ (by dsimp only; omega) _)
    exact Hf.out
  · go_grown

theorem adjBd (r c : Int) (xs : List D5) : (if mOk r c xs then adjL r.toNat c.toNat xs else []).length ≤ 1048576 := by
  split
  · next h1 =>
    obtain ⟨R, C, rfl, rfl, _, hR, _, hC, _⟩ := dims h1
    rw [adjL, cellsM_len]
    have := Nat.mul_le_mul hC hR
    show C * R ≤ _
    omega
  · simp
end Go.Proofs.Ytogafcnaombpaaa
