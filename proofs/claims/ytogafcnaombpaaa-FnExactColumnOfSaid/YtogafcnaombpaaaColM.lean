/- ColumnOf, of the program and of the reference. -/
import Derived.Test.YtogafcnaombpaaaAtM
namespace Go.Proofs.Ytogafcnaombpaaa
open Go.RowKit

set_option maxRecDepth 100000 in
set_option maxHeartbeats 2000000 in
theorem colCell_any (R C k i j : Nat) (A : Option Addr) (cap : Nat) (xs : List D5) (bm bk : Nat) (w : World) (hR : R ≤ 32) (hC : C ≤ 32) (hl : xs.length = R * C) (hi : i < R) (hk : k < C) (hx : Hid (FlatAt w A (flatD xs))) (hm : Hid (LocM w bm R C A xs.length cap))
    (hbk : Hid (bk < w.heap.size ∧ w.cell? ⟨bk, 0, none⟩ = some (.int .i64 (k : Int)))) :
    Calls Try.prog 81 #[.int .i64 (i : Int), .int .i64 (j : Int), .pointer (some ⟨bm, 0, none⟩), .pointer (some ⟨bk, 0, none⟩)] w fun e w' => e = .returned (dyRes true (atD C xs i k)) ∧ Below w.heap.size w w' := by
  have Hr : Hid (dyRes true (atD C xs i k) = .tuple #[dvD (atD C xs i k), .bool true]) := by show dyRes _ _ = _; simp [dyRes, rI_t]
  have Hl := Lib.hid hl
  clear hl
  obtain ⟨m0, m1, m2, m3⟩ := hm.out
  obtain ⟨n0, n1⟩ := hbk.out
  go_enter Try.func81, Try.ntmps81
  go_wp2_with fail
  refine (atD_any R C i k A cap xs _ hR hC Hl.out hi hk (hx.out.alloc _)).mono ?_
  rintro e w1 ⟨rfl, b1⟩
  obtain ⟨b1c, b1f⟩ := bcell b1
  have z1 := b1.size
  try simp only [World.size_alloc] at z1
  have B1 : Below w.heap.size w w1 := Below.chain (Below.refl _ _) (by go_grown) b1 (by go_size)
  have y10 : w.heap.size < w1.heap.size := by omega
  go_wp2
  rw [Hr.out]
  refine bodyPost_ret (by simp [results, Try.results81, go_sem, b1c]) rfl ⟨rfl, ?_⟩
  go_grown

def colL (R C k : Nat) (xs : List D5) : List D5 := cellsM 1 (R * 1) fun i _ => atD C xs i k
def colOk (r c : Int) (xs : List D5) (k : Int) : Bool := mOk r c xs && inB k 0 (c - 1)

set_option maxRecDepth 100000 in
set_option maxHeartbeats 4000000 in
theorem implCol_any (r c k : Int) (A : Option Addr) (cap : Nat) (xs : List D5) (w : World) (hn : xs.length ≤ 1048576) (hx : Hid (FlatAt w A (flatD xs))) :
    Calls Try.prog 39 #[mv r c A xs.length cap, .int .i64 k] w fun e w' => MRes e w w' (colOk r c xs k) r 1 (colL r.toNat c.toNat k.toNat xs) := by
  have hmf := fun (fn : Fn) (first cap : Array Value) (w : World) => (rfl : (Instr.makeFunc fn first cap).run Try.prog w = .ok (.func fn first cap) w)
  rcases hok : mOk r c xs with _ | _
  · have Hno : Hid (colOk r c xs k = false) := by show colOk r c xs k = false; simp [colOk, hok]
    go_enter Try.func39, Try.ntmps39
    go_wp2_with fail
    refine (implValidM_any r c A cap xs _ hn (((hx.out.alloc _).alloc _).alloc _)).mono ?_
    rintro e w1 ⟨rfl, b1⟩
    obtain ⟨b1c, b1f⟩ := bcell b1
    have z1 := b1.size
    try simp only [World.size_alloc] at z1
    have B1 : Below w.heap.size w w1 := Below.chain (Below.refl _ _) (by go_grown) b1 (by go_size)
    have y10 : w.heap.size < w1.heap.size := by omega
    have y11 : w.heap.size + 1 < w1.heap.size := by omega
    have y12 : w.heap.size + 2 < w1.heap.size := by omega
    rw [hok]
    go_wp2
    refine bodyPost_ret (by simp [results, Try.results39, go_sem, b1c]) rfl (MRes.no Hno.out ?_)
    go_grown
  obtain ⟨R, C, rfl, rfl, hR1, hR, hC1, hC, hdr, hdc, hlen, hall⟩ := dims hok
  have Hlen := Lib.hid hlen
  have Hok := Lib.hid hok
  clear hlen hall hdc
  rcases hk : inB k 0 ((C : Int) - 1) with _ | _
  · have Hno : Hid (colOk R C xs k = false) := by show colOk R C xs k = false; simp [colOk, hk]
    go_enter Try.func39, Try.ntmps39
    go_wp2_with fail
    refine (implValidM_any R C A cap xs _ hn (((hx.out.alloc _).alloc _).alloc _)).mono ?_
    rintro e w1 ⟨rfl, b1⟩
    obtain ⟨b1c, b1f⟩ := bcell b1
    have z1 := b1.size
    try simp only [World.size_alloc] at z1
    have B1 : Below w.heap.size w w1 := Below.chain (Below.refl _ _) (by go_grown) b1 (by go_size)
    have y10 : w.heap.size < w1.heap.size := by omega
    have y11 : w.heap.size + 1 < w1.heap.size := by omega
    have y12 : w.heap.size + 2 < w1.heap.size := by omega
    rw [Hok.out]
    go_wp2_with fail
    refine (within_any _ _ _ _).mono ?_
    rintro e w' ⟨rfl, rfl⟩
    rw [hk]
    go_wp2
    refine bodyPost_ret (by simp [results, Try.results39, go_sem, b1c]) rfl (MRes.no Hno.out ?_)
    go_grown
  obtain ⟨hk1, hk2⟩ := inB_t.1 hk
  obtain ⟨m, rfl⟩ := Int.eq_ofNat_of_zero_le hk1
  have hm : m < C := by omega
  have Hyes : Hid ((dimB (R : Int) && dimB 1 && okM (Int.toNat 1) (Int.toNat R * Int.toNat 1) (fun _ _ => true)) = colOk R C xs m) := by
    show _ = _
    rw [hdr]
    simp [colOk, Hok.out, hk, okM]
    decide
  have Hk := Lib.hid hk
  clear hk hdr
  go_enter Try.func39, Try.ntmps39
  go_wp2_with fail
  refine (implValidM_any R C A cap xs _ hn (((hx.out.alloc _).alloc _).alloc _)).mono ?_
  rintro e w1 ⟨rfl, b1⟩
  obtain ⟨b1c, b1f⟩ := bcell b1
  have z1 := b1.size
  try simp only [World.size_alloc] at z1
  have B1 : Below w.heap.size w w1 := Below.chain (Below.refl _ _) (by go_grown) b1 (by go_size)
  have y10 : w.heap.size < w1.heap.size := by omega
  have y11 : w.heap.size + 1 < w1.heap.size := by omega
  have y12 : w.heap.size + 2 < w1.heap.size := by omega
  rw [Hok.out]
  go_wp2_with fail
  refine (within_any _ _ _ _).mono ?_
  rintro e w' ⟨rfl, rfl⟩
  rw [Hk.out]
  have L1 : Hid (LocM w1 w.heap.size R C A xs.length cap) := LocM.below (LocM.of_row ((Below.heap_alloc _ _ _ (by go_size)).trans ((Below.heap_alloc _ _ _ (by go_size)).trans (heap_top _ _ rfl)))) b1 (by go_size)
  have K1 : Hid (w.heap.size + 1 < w1.heap.size ∧ w1.cell? ⟨w.heap.size + 1, 0, none⟩ = some (.int .i64 (m : Int))) := ⟨y11, (b1c _ _ (by go_size)).trans (by go_simp)⟩
  go_wp2_with fail
  refine (matrixOf_any (R : Int) 1 81 #[.pointer (some ⟨w.heap.size, 0, none⟩), .pointer (some ⟨w.heap.size + 1, 0, none⟩)] (fun i _ => atD C xs i m) (fun _ _ => true) _ Try.call81 ?hcell).mono ?_
  case hcell =>
    intro i j W hi _ hb
    have hb' : Below w1.heap.size w1 W := hb
    exact colCell_any R C m i j A cap xs _ _ W hR hC Hlen.out (by omega) hm ((hx.out.below B1).below hb') (L1.out.call hb') ⟨Nat.lt_of_lt_of_le K1.out.1 hb'.size, (hb'.cell (p := ⟨w.heap.size + 1, 0, none⟩) K1.out.1).trans K1.out.2⟩
  rintro e w2 hm'
  rw [Hyes.out] at hm'
  obtain ⟨A', cap', R', C', ys, rfl, h1, h2, h3, hf, b2⟩ := hm'.form
  have Hm := Lib.hid (And.intro h1 (And.intro h2 h3))
  have Hf := Lib.hid hf
  have z2 := b2.size
  have C2 := Below.chain b1 (by go_grown) b2 (by go_size)
  have B2 : Below w.heap.size w w2 := B1.trans (b2.mono B1.size)
  obtain ⟨C2c, C2f⟩ := bcellB C2
  have y20 : w.heap.size < w2.heap.size := by omega
  have y22 : w.heap.size + 1 + 1 < w2.heap.size := by omega
  clear hm' h1 h2 h3 hf b2
  go_wp2
  refine bodyPost_ret (by simp [results, Try.results39, go_sem, C2c]) rfl (MRes.mk (A := A') (cap := cap') Hm.out.1 Hm.out.2.1 Hm.out.2.2 ?_ ?_)
  · refine FlatIn.mono (lo := w1.heap.size) (hi := w2.heap.size) ?_ (by omega) (by go_size) (Nat.le_refl _)
    repeat (refine FlatIn.setFar ?_ (by dsimp only; omega) _)
    exact Hf.out
  · go_grown
end Go.Proofs.Ytogafcnaombpaaa
