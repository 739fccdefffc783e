/- ScaleMatrix of the program. -/
import Derived.Test.YtcmkkjdleihjfaaAdjM
namespace Go.Proofs.Ytcmkkjdleihjfaa
open Go.RowKit

def sclL (R C : Nat) (xs : List D5) (y : D5) : List D5 := cellsM C (R * C) (sclC C xs y)
def sclAll (r c : Int) (xs : List D5) (y : D5) : Bool := mOk r c xs && dOkD y && okM c.toNat (r.toNat * c.toNat) (sclOk c.toNat xs y)

set_option maxRecDepth 100000 in
set_option maxHeartbeats 4000000 in
theorem implScale_any (r c : Int) (A : Option Addr) (cap : Nat) (xs : List D5) (y : D5) (w : World) (hn : xs.length ≤ 1048576) (hx : Hid (FlatAt w A (flatD xs))) :
    Calls Try.prog 50 #[mv r c A xs.length cap, dvD y] w fun e w' => MRes e w w' (sclAll r c xs y) r c (sclL r.toNat c.toNat xs y) := by
  have hmf := fun (fn : Fn) (first cap : Array Value) (w : World) => (rfl : (Instr.makeFunc fn first cap).run Try.prog w = .ok (.func fn first cap) w)
  rcases hok : mOk r c xs with _ | _
  · have Hno : Hid (sclAll r c xs y = false) := by show sclAll r c xs y = false; simp [sclAll, hok]
    go_enter Try.func50, Try.ntmps50
    go_wp2_with fail
    refine (implValidM_any r c A cap xs _ hn (((hx.out.alloc _).alloc _).alloc _)).mono ?_
    rintro e w1 ⟨rfl, b1⟩
    obtain ⟨b1c, b1f⟩ := bcell b1
    have z1 := b1.size
    try simp only [World.size_alloc] at z1
    have B1 : Below w.heap.size w w1 := Below.chain (Below.refl _ _) (by go_grown) b1 (by go_size)
    have y10 : w.heap.size < w1.heap.size := by omega
    have y11 : w.heap.size + 1 < w1.heap.size := by omega
    have y12 : w.heap.size + 2 < w1.heap.size := by omega
    rw [hok]
    go_wp2
    refine bodyPost_ret (by simp [results, Try.results50, go_sem, b1c]) rfl (MRes.no Hno.out ?_)
    go_grown
  obtain ⟨R, C, rfl, rfl, hR1, hR, hC1, hC, hdr, hdc, hlen, hall⟩ := dims hok
  have Hlen := Lib.hid hlen
  have Hok := Lib.hid hok
  clear hlen hall hok
  rcases hy : dOkD y with _ | _
  · have Hno : Hid (sclAll R C xs y = false) := by show sclAll R C xs y = false; simp [sclAll, hy]
    go_enter Try.func50, Try.ntmps50
    go_wp2_with fail
    refine (implValidM_any R C A cap xs _ hn (((hx.out.alloc _).alloc _).alloc _)).mono ?_
    rintro e w1 ⟨rfl, b1⟩
    obtain ⟨b1c, b1f⟩ := bcell b1
    have z1 := b1.size
    try simp only [World.size_alloc] at z1
    have B1 : Below w.heap.size w w1 := Below.chain (Below.refl _ _) (by go_grown) b1 (by go_size)
    have y10 : w.heap.size < w1.heap.size := by omega
    have y11 : w.heap.size + 1 < w1.heap.size := by omega
    have y12 : w.heap.size + 2 < w1.heap.size := by omega
    rw [Hok.out]
    go_wp2_with fail
    refine (implValidD_any y _).mono ?_
    rintro e w2 ⟨rfl, b2⟩
    have z2 := b2.size
    try simp only [World.size_alloc] at z2
    have C2 := Below.chain b1 (by go_grown) b2 (by go_size)
    have B2 : Below w.heap.size w w2 := Below.chain B1 (by go_grown) b2 (by go_size)
    obtain ⟨b2c, b2f⟩ := bcell b2
    obtain ⟨C2c, C2f⟩ := bcellB C2
    have y20 : w.heap.size < w2.heap.size := by omega
    have y21 : w.heap.size + 1 < w2.heap.size := by omega
    have y22 : w.heap.size + 2 < w2.heap.size := by omega
    try (have v21 : w1.heap.size < w2.heap.size := by omega)
    rw [hy]
    go_wp2
    refine bodyPost_ret (by simp [results, Try.results50, go_sem, C2c]) rfl (MRes.no Hno.out ?_)
    go_grown
  have Hyes : Hid ((dimB (R : Int) && dimB (C : Int) && okM (Int.toNat C) (Int.toNat R * Int.toNat C) (sclOk C xs y)) = sclAll R C xs y) := by
    show _ = _
    rw [hdr, hdc]
    simp [sclAll, Hok.out, hy]
  have Hy := Lib.hid hy
  clear hy hdr hdc
  go_enter Try.func50, Try.ntmps50
  go_wp2_with fail
  refine (implValidM_any R C A cap xs _ hn (((hx.out.alloc _).alloc _).alloc _)).mono ?_
  rintro e w1 ⟨rfl, b1⟩
  obtain ⟨b1c, b1f⟩ := bcell b1
  have z1 := b1.size
  try simp only [World.size_alloc] at z1
  have B1 : Below w.heap.size w w1 := Below.chain (Below.refl _ _) (by go_grown) b1 (by go_size)
  have y10 : w.heap.size < w1.heap.size := by omega
  have y11 : w.heap.size + 1 < w1.heap.size := by omega
  have y12 : w.heap.size + 2 < w1.heap.size := by omega
  rw [Hok.out]
  have L1 : Hid (LocM w1 w.heap.size R C A xs.length cap) := LocM.below (LocM.of_row ((Below.heap_alloc _ _ _ (by go_size)).trans ((Below.heap_alloc _ _ _ (by go_size)).trans (heap_top _ _ rfl)))) b1 (by go_size)
  have K1 : Hid (LocD w1 (w.heap.size + 1) y) := LocD.below (LocD.of_row ((Below.heap_alloc _ _ _ (by go_size)).trans (heap_top _ _ (by simp)))) b1 (by go_size)
  go_wp2_with fail
  refine (implValidD_any y _).mono ?_
  rintro e w2 ⟨rfl, b2⟩
  have z2 := b2.size
  try simp only [World.size_alloc] at z2
  have C2 := Below.chain b1 (by go_grown) b2 (by go_size)
  have B2 : Below w.heap.size w w2 := Below.chain B1 (by go_grown) b2 (by go_size)
  obtain ⟨b2c, b2f⟩ := bcell b2
  obtain ⟨C2c, C2f⟩ := bcellB C2
  have y20 : w.heap.size < w2.heap.size := by omega
  have y21 : w.heap.size + 1 < w2.heap.size := by omega
  have y22 : w.heap.size + 2 < w2.heap.size := by omega
  try (have v21 : w1.heap.size < w2.heap.size := by omega)
  rw [Hy.out]
  have L2 := Lib.hid (L1.out.call b2)
  have K2 := Lib.hid (K1.out.call b2)
  go_wp2_with fail
  refine (matrixOf_any (R : Int) (C : Int) 100 #[.pointer (some ⟨w.heap.size, 0, none⟩), .pointer (some ⟨w.heap.size + 1, 0, none⟩)] (sclC C xs y) (sclOk C xs y) _ Try.call100 ?hcell).mono ?_
  case hcell =>
    intro i j W hi hj hb
    have hb' : Below w2.heap.size w2 W := hb
    exact sclCell_any R C i j A cap xs y _ _ W hR hC Hlen.out (by omega) (by omega) ((hx.out.below B2).below hb') (L2.out.call hb') (K2.out.call hb')
  rintro e w3 hm'
  rw [Hyes.out] at hm'
  obtain ⟨A', cap', R', C', ys, rfl, h1, h2, h3, hf, b3⟩ := hm'.form
  have Hm := Lib.hid (And.intro h1 (And.intro h2 h3))
  have Hf := Lib.hid hf
  have z3 := b3.size
  have C3 := Below.chain C2 (by go_grown) b3 (by go_size)
  have B3 : Below w.heap.size w w3 := B2.trans (b3.mono B2.size)
  obtain ⟨C3c, C3f⟩ := bcellB C3
  have y30 : w.heap.size < w3.heap.size := by omega
  have y32 : w.heap.size + 1 + 1 < w3.heap.size := by omega
  clear hm' h1 h2 h3 hf b3
  go_wp2
  refine bodyPost_ret (by simp [results, Try.results50, go_sem, C3c]) rfl (MRes.mk (A := A') (cap := cap') Hm.out.1 Hm.out.2.1 Hm.out.2.2 ?_ ?_)
  · refine FlatIn.mono (lo := w2.heap.size) (hi := w3.heap.size) ?_ (by omega) (by go_size) (Nat.le_refl _)
    repeat (refine FlatIn.setFar ?_ (by dsimp only; omega) _)
    exact Hf.out
  · go_grown
end Go.Proofs.Ytcmkkjdleihjfaa
