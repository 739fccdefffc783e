/- ControlledOf of the program. -/
import Derived.Test.YtphdcamihkgdiaaAtM
namespace Go.Proofs.Ytphdcamihkgdiaa
open Go.RowKit

def ctlD (n : Nat) (xs : List D5) (i j : Nat) : D5 := if n ≤ i ∧ n ≤ j then atD n xs (i - n) (j - n) else ijD i j
theorem ctlD_in {n i j a b : Nat} {xs : List D5} (hi : i = n + a) (hj : j = n + b) : ctlD n xs i j = atD n xs a b := by
  subst hi hj
  simp [ctlD]
theorem ctlD_out {n i j : Nat} {xs : List D5} (h : i < n ∨ j < n) : ctlD n xs i j = ijD i j := by
  unfold ctlD
  rw [if_neg (by omega)]

set_option maxRecDepth 100000 in
set_option maxHeartbeats 4000000 in
theorem ctlCell_any (n i j : Nat) (A : Option Addr) (cap : Nat) (xs : List D5) (bm bn : Nat) (w : World) (hn : n ≤ 16) (hl : xs.length = n * n) (hi : i < 2 * n) (hj : j < 2 * n) (hx : Hid (FlatAt w A (flatD xs))) (hm : Hid (LocM w bm n n A xs.length cap))
    (hbn : Hid (bn < w.heap.size ∧ w.cell? ⟨bn, 0, none⟩ = some (.int .i64 (n : Int)))) :
    Calls Try.prog 84 #[.int .i64 (i : Int), .int .i64 (j : Int), .pointer (some ⟨bn, 0, none⟩), .pointer (some ⟨bm, 0, none⟩)] w fun e w' => e = .returned (dyRes true (ctlD n xs i j)) ∧ Below w.heap.size w w' := by
  have Hl := Lib.hid hl
  clear hl
  obtain ⟨m0, m1, m2, m3⟩ := hm.out
  obtain ⟨n0, n1⟩ := hbn.out
  by_cases h1 : n ≤ i
  · by_cases h2 : n ≤ j
    · obtain ⟨a, ha⟩ : ∃ a, i = n + a := ⟨i - n, by omega⟩
      obtain ⟨b, hb⟩ : ∃ b, j = n + b := ⟨j - n, by omega⟩
      have hlt1 : a < n := by omega
      have hlt2 : b < n := by omega
      have Hr : Hid (dyRes true (ctlD n xs i j) = .tuple #[dvD (atD n xs a b), .bool true]) := by show dyRes _ _ = _; rw [ctlD_in ha hb]; simp [dyRes, rI_t]
      have e1 : (i : Int) - (n : Int) = (a : Int) := by omega
      have e2 : (j : Int) - (n : Int) = (b : Int) := by omega
      have g1 : (n : Int) ≤ (i : Int) := by omega
      have g2 : (n : Int) ≤ (j : Int) := by omega
      clear ha hb hi hj h1 h2
      go_enter Try.func84, Try.ntmps84
      go_wp2_with fail
      refine (atD_any n n a b A cap xs _ (by omega) (by omega) Hl.out hlt1 hlt2 (hx.out.alloc _)).mono ?_
      rintro e w1 ⟨rfl, b1⟩
      obtain ⟨b1c, b1f⟩ := bcell b1
      have z1 := b1.size
      try simp only [World.size_alloc] at z1
      have B1 : Below w.heap.size w w1 := Below.chain (Below.refl _ _) (by go_grown) b1 (by go_size)
      have y10 : w.heap.size < w1.heap.size := by omega
      go_wp2
      rw [Hr.out]
      refine bodyPost_ret (by simp [results, Try.results84, go_sem, b1c]) rfl ⟨rfl, ?_⟩
      go_grown
    · have g1 : (n : Int) ≤ (i : Int) := by omega
      have g2 : ¬ (n : Int) ≤ (j : Int) := by omega
      have hne : ¬ (i : Int) = (j : Int) := by omega
      have hne' : i ≠ j := by omega
      have Hr : Hid (dyRes true (ctlD n xs i j) = .tuple #[dv 0 0 0 0 0, .bool true]) := by show dyRes _ _ = _; rw [ctlD_out (Or.inr (by omega))]; simp [dyRes, ijD, zeroD, hne', rI_t]
      clear hi hj h1 h2 hne'
      go_enter Try.func84, Try.ntmps84
      go_wp2
      rw [Hr.out]
      refine bodyPost_ret (by simp [results, Try.results84, go_sem]) rfl ⟨rfl, ?_⟩
      go_grown
  · have g1 : ¬ (n : Int) ≤ (i : Int) := by omega
    by_cases h2 : i = j
    · subst h2
      have Hr : Hid (dyRes true (ctlD n xs i i) = .tuple #[dv 1 0 0 0 0, .bool true]) := by show dyRes _ _ = _; rw [ctlD_out (Or.inl (by omega))]; simp [dyRes, ijD, rI_t]
      clear hi hj h1
      go_enter Try.func84, Try.ntmps84
      go_wp2_with fail
      refine (whole_any _ _).mono ?_
      rintro e w1 ⟨rfl, b1⟩
      obtain ⟨b1c, b1f⟩ := bcell b1
      have z1 := b1.size
      try simp only [World.size_alloc] at z1
      have B1 : Below w.heap.size w w1 := Below.chain (Below.refl _ _) (by go_grown) b1 (by go_size)
      have y10 : w.heap.size < w1.heap.size := by omega
      go_wp2
      rw [Hr.out]
      refine bodyPost_ret (by simp [results, Try.results84, go_sem, b1c]) rfl ⟨rfl, ?_⟩
      go_grown
    · have hne : ¬ (i : Int) = (j : Int) := by omega
      have Hr : Hid (dyRes true (ctlD n xs i j) = .tuple #[dv 0 0 0 0 0, .bool true]) := by show dyRes _ _ = _; rw [ctlD_out (Or.inl (by omega))]; simp [dyRes, ijD, zeroD, h2, rI_t]
      clear hi hj h1 h2
      go_enter Try.func84, Try.ntmps84
      go_wp2
      rw [Hr.out]
      refine bodyPost_ret (by simp [results, Try.results84, go_sem]) rfl ⟨rfl, ?_⟩
      go_grown

def ctlL (n : Nat) (xs : List D5) : List D5 := cellsM (2 * n) (2 * n * (2 * n)) (ctlD n xs)
def ctlOk (r c : Int) (xs : List D5) : Bool := mOk r c xs && decide (r = c) && decide (r ≤ 16)

set_option maxRecDepth 100000 in
set_option maxHeartbeats 4000000 in
theorem implCtl_any (r c : Int) (A : Option Addr) (cap : Nat) (xs : List D5) (w : World) (hn : xs.length ≤ 1048576) (hx : Hid (FlatAt w A (flatD xs))) :
    Calls Try.prog 41 #[mv r c A xs.length cap] w fun e w' => MRes e w w' (ctlOk r c xs) (2 * r) (2 * r) (ctlL r.toNat xs) := by
  have hmf := fun (fn : Fn) (first cap : Array Value) (w : World) => (rfl : (Instr.makeFunc fn first cap).run Try.prog w = .ok (.func fn first cap) w)
  rcases hok : mOk r c xs with _ | _
  · have Hno : Hid (ctlOk r c xs = false) := by show ctlOk r c xs = false; simp [ctlOk, hok]
    go_enter Try.func41, Try.ntmps41
    go_wp2_with fail
    refine (implValidM_any r c A cap xs _ hn ((hx.out.alloc _).alloc _)).mono ?_
    rintro e w1 ⟨rfl, b1⟩
    obtain ⟨b1c, b1f⟩ := bcell b1
    have z1 := b1.size
    try simp only [World.size_alloc] at z1
    have B1 : Below w.heap.size w w1 := Below.chain (Below.refl _ _) (by go_grown) b1 (by go_size)
    have y10 : w.heap.size < w1.heap.size := by omega
    have y11 : w.heap.size + 1 < w1.heap.size := by omega
    rw [hok]
    go_wp2
    refine bodyPost_ret (by simp [results, Try.results41, go_sem, b1c]) rfl (MRes.no Hno.out ?_)
    go_grown
  obtain ⟨R, C, rfl, rfl, hR1, hR, hC1, hC, hdr, hdc, hlen, hall⟩ := dims hok
  have Hlen := Lib.hid hlen
  have Hok := Lib.hid hok
  clear hlen hall hdc hok
  by_cases hrc : R = C
  case neg =>
    have hne : ¬ (R : Int) = (C : Int) := by omega
    have Hno : Hid (ctlOk R C xs = false) := by show ctlOk R C xs = false; simp [ctlOk, hne]
    go_enter Try.func41, Try.ntmps41
    go_wp2_with fail
    refine (implValidM_any R C A cap xs _ hn ((hx.out.alloc _).alloc _)).mono ?_
    rintro e w1 ⟨rfl, b1⟩
    obtain ⟨b1c, b1f⟩ := bcell b1
    have z1 := b1.size
    try simp only [World.size_alloc] at z1
    have B1 : Below w.heap.size w w1 := Below.chain (Below.refl _ _) (by go_grown) b1 (by go_size)
    have y10 : w.heap.size < w1.heap.size := by omega
    have y11 : w.heap.size + 1 < w1.heap.size := by omega
    rw [Hok.out]
    go_wp2
    refine bodyPost_ret (by simp [results, Try.results41, go_sem, b1c]) rfl (MRes.no Hno.out ?_)
    go_grown
  subst hrc
  by_cases h16 : R ≤ 16
  case neg =>
    have hgt : (16 : Int) < (R : Int) := by omega
    have e2 : decide ((R : Int) ≤ 16) = false := decide_eq_false (by omega)
    have Hno : Hid (ctlOk R R xs = false) := by show ctlOk R R xs = false; rw [ctlOk, e2, Bool.and_false]
    clear e2
    go_enter Try.func41, Try.ntmps41
    go_wp2_with fail
    refine (implValidM_any R R A cap xs _ hn ((hx.out.alloc _).alloc _)).mono ?_
    rintro e w1 ⟨rfl, b1⟩
    obtain ⟨b1c, b1f⟩ := bcell b1
    have z1 := b1.size
    try simp only [World.size_alloc] at z1
    have B1 : Below w.heap.size w w1 := Below.chain (Below.refl _ _) (by go_grown) b1 (by go_size)
    have y10 : w.heap.size < w1.heap.size := by omega
    have y11 : w.heap.size + 1 < w1.heap.size := by omega
    rw [Hok.out]
    go_wp2
    refine bodyPost_ret (by simp [results, Try.results41, go_sem, b1c]) rfl (MRes.no Hno.out ?_)
    go_grown
  have hle : (R : Int) ≤ 16 := by omega
  have ht : (2 * (R : Int)).toNat = 2 * R := by omega
  have hd2 : dimB (2 * (R : Int)) = true := by have := dimB_iff.1 hdr; exact dimB_iff.2 (by omega)
  have Hyes : Hid ((dimB (2 * (R : Int)) && dimB (2 * (R : Int)) && okM (2 * (R : Int)).toNat ((2 * (R : Int)).toNat * (2 * (R : Int)).toNat) (fun _ _ => true)) = ctlOk R R xs) := by
    show _ = _
    have e1 : decide ((R : Int) = (R : Int)) = true := decide_eq_true rfl
    have e2 : decide ((R : Int) ≤ 16) = true := decide_eq_true hle
    rw [hd2, ctlOk, Hok.out, e1, e2]
    simp [okM]
  have HL : Hid (cellsM (2 * (R : Int)).toNat ((2 * (R : Int)).toNat * (2 * (R : Int)).toNat) (ctlD R xs) = ctlL (Int.toNat R) xs) := by
    show _ = _
    rw [ht, Int.toNat_natCast]
    rfl
  clear ht hd2 hdr hR1 hR hC1 hC
  have Hh := Lib.hid h16
  go_enter Try.func41, Try.ntmps41
  go_wp2_with fail
  refine (implValidM_any R R A cap xs _ hn ((hx.out.alloc _).alloc _)).mono ?_
  rintro e w1 ⟨rfl, b1⟩
  obtain ⟨b1c, b1f⟩ := bcell b1
  have z1 := b1.size
  try simp only [World.size_alloc] at z1
  have B1 : Below w.heap.size w w1 := Below.chain (Below.refl _ _) (by go_grown) b1 (by go_size)
  have y10 : w.heap.size < w1.heap.size := by omega
  have y11 : w.heap.size + 1 < w1.heap.size := by omega
  rw [Hok.out]
  have L1 : Hid (LocM w1 w.heap.size R R A xs.length cap) := LocM.below (LocM.of_row ((Below.heap_alloc _ _ _ (by go_size)).trans (heap_top _ _ rfl))) b1 (by go_size)
  clear h16
  go_wp2_with fail
  refine (matrixOf_any (2 * (R : Int)) (2 * (R : Int)) 84 #[.pointer (some ⟨w1.heap.size, 0, none⟩), .pointer (some ⟨w.heap.size, 0, none⟩)] (ctlD R xs) (fun _ _ => true) _ Try.call84 ?hcell).mono ?_
  case hcell =>
    intro i j W hi hj hb
    have hb' : Below (w1.alloc (.cells #[.int .i64 (R : Int)] 3)).heap.size (w1.alloc (.cells #[.int .i64 (R : Int)] 3)) W := hb
    have b0 : Below w1.heap.size w1 W := (Below.alloc (Below.refl _ _) (Nat.le_refl _) _).trans (hb'.mono (by simp))
    exact ctlCell_any R i j A cap xs _ _ W Hh.out Hlen.out (by omega) (by omega) ((hx.out.below B1).below b0) (L1.out.call b0) ⟨Nat.lt_of_lt_of_le (by simp) hb'.size, (hb'.cell (p := ⟨w1.heap.size, 0, none⟩) (by simp)).trans (cell_of_row _ w1.heap.size 0 _ _ _ (heap_top _ _ rfl))⟩
  rintro e w2 hm'
  rw [Hyes.out, HL.out] at hm'
  obtain ⟨A', cap', R', C', ys, rfl, h1, h2, h3, hf, b2⟩ := hm'.form
  have Hm := Lib.hid (And.intro h1 (And.intro h2 h3))
  have Hf := Lib.hid hf
  have z2 := b2.size
  try simp only [World.size_alloc] at z2
  have C2 := Below.chain b1 (by go_grown) b2 (by go_size)
  have B2 : Below w.heap.size w w2 := B1.trans (Below.trans ((Below.refl _ _).alloc B1.size _) (b2.mono (by simp; omega)))
  obtain ⟨C2c, C2f⟩ := bcellB C2
  have y20 : w.heap.size < w2.heap.size := by omega
  have y22 : w.heap.size + 1 < w2.heap.size := by omega
  clear hm' h1 h2 h3 hf b2
  go_wp2
  refine bodyPost_ret (by simp [results, Try.results41, go_sem, C2c]) rfl (MRes.mk (A := A') (cap := cap') Hm.out.1 Hm.out.2.1 Hm.out.2.2 ?_ ?_)
  · refine FlatIn.mono (lo := w1.heap.size + 1) (hi := w2.heap.size) ?_ (by omega) (by go_size) (Nat.le_refl _)
    repeat (refine FlatIn.setFar ?_ (by dsimp only; omega) _)
    have h := Hf.out
    simp only [World.size_alloc] at h
    exact h
  · go_grown
end Go.Proofs.Ytphdcamihkgdiaa
