/- Kron of the program. -/
import Derived.Test.YtcmkkjdleihjfaaAdjM
namespace Go.Proofs.Ytcmkkjdleihjfaa
open Go.RowKit

def kronOk (C Rb Cb : Nat) (xs ys : List D5) (i j : Nat) : Bool := dOkD (atD C xs (i / Rb) (j / Cb)) && dOkD (atD Cb ys (i % Rb) (j % Cb)) && mulOk (atD C xs (i / Rb) (j / Cb)) (atD Cb ys (i % Rb) (j % Cb))
def kronC (C Rb Cb : Nat) (xs ys : List D5) (i j : Nat) : D5 := mulC (atD C xs (i / Rb) (j / Cb)) (atD Cb ys (i % Rb) (j % Cb))
def kronL (R C Rb Cb : Nat) (xs ys : List D5) : List D5 := cellsM (C * Cb) (R * Rb * (C * Cb)) (kronC C Rb Cb xs ys)
def kronAll (r c : Int) (xs : List D5) (r' c' : Int) (ys : List D5) : Bool := mOk r c xs && mOk r' c' ys && (dimB (r * r') && dimB (c * c') && okM (c.toNat * c'.toNat) (r.toNat * r'.toNat * (c.toNat * c'.toNat)) (kronOk c.toNat r'.toNat c'.toNat xs ys))
theorem div_lt {i R Rb : Nat} (h : i < R * Rb) : i / Rb < R := Nat.div_lt_of_lt_mul (by rw [Nat.mul_comm]; exact h)
theorem mod_lt' {i R Rb : Nat} (h : i < R * Rb) : i % Rb < Rb := Nat.mod_lt _ (by
  rcases Nat.eq_zero_or_pos Rb with h0 | h0
  · rw [h0] at h; omega
  · exact h0)

set_option maxRecDepth 100000 in
set_option maxHeartbeats 8000000 in
theorem kronCell_any (R C Rb Cb i j : Nat) (A : Option Addr) (cap : Nat) (xs : List D5) (A2 : Option Addr) (cap2 : Nat) (ys : List D5) (ba bb : Nat) (w : World) (hR : R ≤ 32) (hC : C ≤ 32) (hl : xs.length = R * C) (hR2 : Rb ≤ 32) (hC2 : Cb ≤ 32) (hl2 : ys.length = Rb * Cb) (hi : i < R * Rb) (hj : j < C * Cb)
    (hx : Hid (FlatAt w A (flatD xs))) (hy : Hid (FlatAt w A2 (flatD ys))) (hm : Hid (LocM w ba R C A xs.length cap)) (hm2 : Hid (LocM w bb Rb Cb A2 ys.length cap2)) :
    Calls Try.prog 106 #[.int .i64 (i : Int), .int .i64 (j : Int), .pointer (some ⟨ba, 0, none⟩), .pointer (some ⟨bb, 0, none⟩)] w fun e w' => e = .returned (dyRes (kronOk C Rb Cb xs ys i j) (kronC C Rb Cb xs ys i j)) ∧ Below w.heap.size w w' := by
  have Hr : Hid (mulRes (atD C xs (i / Rb) (j / Cb)) (atD Cb ys (i % Rb) (j % Cb)) = dyRes (kronOk C Rb Cb xs ys i j) (kronC C Rb Cb xs ys i j)) := rfl
  have hp := div_lt hi
  have hq := div_lt hj
  have hu := mod_lt' hi
  have hv := mod_lt' hj
  have e1 : (i : Int).tdiv (Rb : Int) = ((i / Rb : Nat) : Int) := rfl
  have e2 : (j : Int).tdiv (Cb : Int) = ((j / Cb : Nat) : Int) := rfl
  have e3 : (i : Int).tmod (Rb : Int) = ((i % Rb : Nat) : Int) := rfl
  have e4 : (j : Int).tmod (Cb : Int) = ((j % Cb : Nat) : Int) := rfl
  generalize hpe : i / Rb = p at *
  generalize hqe : j / Cb = q at *
  generalize hue : i % Rb = u at *
  generalize hve : j % Cb = v at *
  clear hpe hqe hue hve
  have q1 : IntKind.wrap .i64 (p : Int) = (p : Int) := IntWalk.i64_in _ (by omega)
  have q2 : IntKind.wrap .i64 (q : Int) = (q : Int) := IntWalk.i64_in _ (by omega)
  have q3 : IntKind.wrap .i64 (u : Int) = (u : Int) := IntWalk.i64_in _ (by omega)
  have q4 : IntKind.wrap .i64 (v : Int) = (v : Int) := IntWalk.i64_in _ (by omega)
  have z1 : ((Rb : Int) == 0) = false := by simp; omega
  have z2 : ((Cb : Int) == 0) = false := by simp; omega
  have z3 : ¬ (Rb : Int) = 0 := by omega
  have z4 : ¬ (Cb : Int) = 0 := by omega
  have z5 : ¬ Rb = 0 := by omega
  have z6 : ¬ Cb = 0 := by omega
  have Hl := Lib.hid hl
  have Hl2 := Lib.hid hl2
  clear hl hl2 hi hj
  obtain ⟨m0, m1, m2, m3⟩ := hm.out
  obtain ⟨n0, n1, n2, n3⟩ := hm2.out
  go_enter Try.func106, Try.ntmps106
  go_upto_region 1 with fail
  generalize hW0 : w.alloc (.cells #[.int .i64 0, .int .i64 0, .int .i64 0, .int .i64 0, .int .i64 0] 52) = W0
  have B0 : Below w.heap.size w W0 := by rw [← hW0]; go_grown
  have k0 : ∀ o, W0.cell? ⟨w.heap.size, o, none⟩ = _ := fun o => cell_of_row W0 w.heap.size o _ _ _ (by rw [← hW0]; exact heap_top _ _ rfl)
  have f0 : ∀ o, W0.frozen? ⟨w.heap.size, o, none⟩ = false := fun o => frozen_of_row W0 w.heap.size o _ _ (by rw [← hW0]; exact heap_top _ _ rfl)
  have y00 : w.heap.size < W0.heap.size := by rw [← hW0]; go_size
  have ybm : ba < W0.heap.size := by omega
  have ybx : bb < W0.heap.size := by omega
  have nbm : ¬ ba = w.heap.size := by omega
  have nbx : ¬ bb = w.heap.size := by omega
  have M0 := (hm.out.below B0 m0)
  have N0 := (hm2.out.below B0 n0)
  clear hW0 m1 m2 m3 n1 n2 n3
  obtain ⟨_, m1, m2, m3⟩ := M0
  obtain ⟨_, n1, n2, n3⟩ := N0
  go_region_held3 (fun w' => (∀ b o, b < W0.heap.size → b ≠ w.heap.size → w'.cell? ⟨b, o, none⟩ = W0.cell? ⟨b, o, none⟩) ∧ W0.grownBy w' (some (w.heap.size))) ((refine GB_mk ?_; repeat (first | (with_reducible exact grownBy_refl' _ _) | (with_reducible assumption) | (with_reducible refine only_drew ?_) | (with_reducible refine only_alloc ?_ _) | (with_reducible refine only_setCell ?_ (by first | (left; rfl) | (right; omega) | (right; simp; omega)) _)))) (first | (go_at_call 102; with_reducible refine (atD_any R C p q A cap xs _ hR hC Hl.out hp hq (Lib.hid (flat_gb hx.out B0 (by with_reducible assumption) (Nat.le_refl _)))).mono ?_; rintro e wA0 ⟨rfl, bA0⟩; obtain ⟨bA0c, bA0f⟩ := bcell bA0; (try simp only [World.size_drew] at bA0c); (try simp only [World.cell?_drew] at bA0c); (try simp only [World.size_drew] at bA0f); (try simp only [World.frozen?_drew] at bA0f); have sA0 := (GB_step (W := W0) (by with_reducible assumption) bA0).2; have zA0 := sA0.size; have yA0_0 : w.heap.size < wA0.heap.size := (by omega)) | (go_at_call 102; with_reducible refine (atD_any Rb Cb u v A2 cap2 ys _ hR2 hC2 Hl2.out hu hv (Lib.hid (flat_gb hy.out B0 (by with_reducible assumption) (Nat.le_refl _)))).mono ?_; rintro e wA1 ⟨rfl, bA1⟩; obtain ⟨bA1c, bA1f⟩ := bcell bA1; (try simp only [World.size_drew] at bA1c); (try simp only [World.cell?_drew] at bA1c); (try simp only [World.size_drew] at bA1f); (try simp only [World.frozen?_drew] at bA1f); have sA1 := (GB_step (W := W0) (by with_reducible assumption) bA1).2; have zA1 := sA1.size; have yA1_0 : w.heap.size < wA1.heap.size := (by omega)) | (go_at_call 101; refine (implMulD_any _ _ _ _ _ _ _ _ _ _ _).mono ?_; rintro e wA2 ⟨rfl, bA2⟩; obtain ⟨bA2c, bA2f⟩ := bcell bA2; (try simp only [World.size_drew] at bA2c); (try simp only [World.cell?_drew] at bA2c); (try simp only [World.size_drew] at bA2f); (try simp only [World.frozen?_drew] at bA2f); have sA2 := (GB_step (W := W0) (by with_reducible assumption) bA2).2; have zA2 := sA2.size; have yA2_0 : w.heap.size < wA2.heap.size := (by omega); rw [Hr.out]; unfold dyRes))
  all_goals
    go_wp2
    refine bodyPost_ret (by simp [results, Try.results106, go_sem, bA2c, bA1c, bA0c, yA1_0, yA0_0, k0, y00, dyRes]) rfl ⟨rfl, ?_⟩
    refine below_only B0 (R := w.heap.size) ?_ (by omega) (by omega)
    exact only_setCell (only_setCell (only_setCell (only_setCell (only_setCell sA2 (Or.inl rfl) _) (Or.inl rfl) _) (Or.inl rfl) _) (Or.inl rfl) _) (Or.inl rfl) _

set_option maxRecDepth 100000 in
set_option maxHeartbeats 8000000 in
theorem implKron_any (r c : Int) (A : Option Addr) (cap : Nat) (xs : List D5) (r' c' : Int) (A2 : Option Addr) (cap2 : Nat) (ys : List D5) (w : World) (hn : xs.length ≤ 1048576) (hn2 : ys.length ≤ 1048576) (hx : Hid (FlatAt w A (flatD xs))) (hy : Hid (FlatAt w A2 (flatD ys))) :
    Calls Try.prog 54 #[mv r c A xs.length cap, mv r' c' A2 ys.length cap2] w fun e w' => MRes e w w' (kronAll r c xs r' c' ys) (r * r') (c * c') (kronL r.toNat c.toNat r'.toNat c'.toNat xs ys) := by
  have hmf := fun (fn : Fn) (first cap : Array Value) (w : World) => (rfl : (Instr.makeFunc fn first cap).run Try.prog w = .ok (.func fn first cap) w)
  rcases hok : mOk r c xs with _ | _
  · have Hno : Hid (kronAll r c xs r' c' ys = false) := by show kronAll r c xs r' c' ys = false; simp [kronAll, hok]
    go_enter Try.func54, Try.ntmps54
    go_wp2_with fail
    refine (implValidM_any r c A cap xs _ hn (((hx.out.alloc _).alloc _).alloc _)).mono ?_
    rintro e w1 ⟨rfl, b1⟩
    obtain ⟨b1c, b1f⟩ := bcell b1
    have z1 := b1.size
    try simp only [World.size_alloc] at z1
    have B1 : Below w.heap.size w w1 := Below.chain (Below.refl _ _) (by go_grown) b1 (by go_size)
    have y10 : w.heap.size < w1.heap.size := by omega
    have y11 : w.heap.size + 1 < w1.heap.size := by omega
    have y12 : w.heap.size + 2 < w1.heap.size := by omega
    rw [hok]
    go_wp2
    refine bodyPost_ret (by simp [results, Try.results54, go_sem, b1c]) rfl (MRes.no Hno.out ?_)
    go_grown
  rcases hok2 : mOk r' c' ys with _ | _
  · have Hno : Hid (kronAll r c xs r' c' ys = false) := by show kronAll r c xs r' c' ys = false; simp [kronAll, hok2]
    go_enter Try.func54, Try.ntmps54
    go_wp2_with fail
    refine (implValidM_any r c A cap xs _ hn (((hx.out.alloc _).alloc _).alloc _)).mono ?_
    rintro e w1 ⟨rfl, b1⟩
    obtain ⟨b1c, b1f⟩ := bcell b1
    have z1 := b1.size
    try simp only [World.size_alloc] at z1
    have B1 : Below w.heap.size w w1 := Below.chain (Below.refl _ _) (by go_grown) b1 (by go_size)
    have y10 : w.heap.size < w1.heap.size := by omega
    have y11 : w.heap.size + 1 < w1.heap.size := by omega
    have y12 : w.heap.size + 2 < w1.heap.size := by omega
    rw [hok]
    go_wp2_with fail
    refine (implValidM_any r' c' A2 cap2 ys _ hn2 (by refine hy.out.below B1)).mono ?_
    rintro e w2 ⟨rfl, b2⟩
    have z2 := b2.size
    try simp only [World.size_alloc] at z2
    have C2 := Below.chain b1 (by go_grown) b2 (by go_size)
    have B2 : Below w.heap.size w w2 := Below.chain B1 (by go_grown) b2 (by go_size)
    obtain ⟨b2c, b2f⟩ := bcell b2
    obtain ⟨C2c, C2f⟩ := bcellB C2
    have y20 : w.heap.size < w2.heap.size := by omega
    have y21 : w.heap.size + 1 < w2.heap.size := by omega
    have y22 : w.heap.size + 2 < w2.heap.size := by omega
    try (have v21 : w1.heap.size < w2.heap.size := by omega)
    rw [hok2]
    go_wp2
    refine bodyPost_ret (by simp [results, Try.results54, go_sem, C2c]) rfl (MRes.no Hno.out ?_)
    go_grown
  obtain ⟨R, C, rfl, rfl, hR1, hR, hC1, hC, hdr, hdc, hlen, hall⟩ := dims hok
  obtain ⟨Rb, Cb, rfl, rfl, hR21, hR2, hC21, hC2, hdr2, hdc2, hlen2, hall2⟩ := dims hok2
  have Hlen := Lib.hid hlen
  have Hlen2 := Lib.hid hlen2
  have Hok := Lib.hid hok
  have Hok2 := Lib.hid hok2
  have hRR := Nat.mul_le_mul hR hR2
  have hCC := Nat.mul_le_mul hC hC2
  have mR : (R : Int) * (Rb : Int) = ((R * Rb : Nat) : Int) := (Int.natCast_mul R Rb).symm
  have mC : (C : Int) * (Cb : Int) = ((C * Cb : Nat) : Int) := (Int.natCast_mul C Cb).symm
  have Hyes : Hid ((dimB ((R * Rb : Nat) : Int) && dimB ((C * Cb : Nat) : Int) && okM (Int.toNat ((C * Cb : Nat) : Int)) (Int.toNat ((R * Rb : Nat) : Int) * Int.toNat ((C * Cb : Nat) : Int)) (kronOk C Rb Cb xs ys)) = kronAll R C xs Rb Cb ys) := by
    show _ = _
    unfold kronAll
    rw [hok, hok2, mR, mC]
    rfl
  have HL : Hid (cellsM (Int.toNat ((C * Cb : Nat) : Int)) (Int.toNat ((R * Rb : Nat) : Int) * Int.toNat ((C * Cb : Nat) : Int)) (kronC C Rb Cb xs ys) = kronL R C Rb Cb xs ys) := rfl
  obtain ⟨N, hN⟩ : ∃ N, N = R * Rb := ⟨_, rfl⟩
  obtain ⟨M, hM⟩ : ∃ M, M = C * Cb := ⟨_, rfl⟩
  have HN := Lib.hid hN
  have HM := Lib.hid hM
  rw [← hN] at mR Hyes HL hRR
  rw [← hM] at mC Hyes HL hCC
  have wR : IntKind.wrap .i64 (N : Int) = (N : Int) := IntWalk.i64_in _ (by omega)
  have wC : IntKind.wrap .i64 (M : Int) = (M : Int) := IntWalk.i64_in _ (by omega)
  have wR' : RowKit.wrap64 (N : Int) = (N : Int) := IntWalk.wrap64_in _ (by omega)
  have wC' : RowKit.wrap64 (M : Int) = (M : Int) := IntWalk.wrap64_in _ (by omega)
  clear hlen hall hok hlen2 hall2 hok2 hdr hdr2 hdc hdc2 hN hM
  go_enter Try.func54, Try.ntmps54
  go_wp2_with fail
  refine (implValidM_any R C A cap xs _ hn (((hx.out.alloc _).alloc _).alloc _)).mono ?_
  rintro e w1 ⟨rfl, b1⟩
  obtain ⟨b1c, b1f⟩ := bcell b1
  have z1 := b1.size
  try simp only [World.size_alloc] at z1
  have B1 : Below w.heap.size w w1 := Below.chain (Below.refl _ _) (by go_grown) b1 (by go_size)
  have y10 : w.heap.size < w1.heap.size := by omega
  have y11 : w.heap.size + 1 < w1.heap.size := by omega
  have y12 : w.heap.size + 2 < w1.heap.size := by omega
  rw [Hok.out]
  have L1 : Hid (LocM w1 w.heap.size R C A xs.length cap) := LocM.below (LocM.of_row ((Below.heap_alloc _ _ _ (by go_size)).trans ((Below.heap_alloc _ _ _ (by go_size)).trans (heap_top _ _ rfl)))) b1 (by go_size)
  have K1 : Hid (LocM w1 (w.heap.size + 1) Rb Cb A2 ys.length cap2) := LocM.below (LocM.of_row ((Below.heap_alloc _ _ _ (by go_size)).trans (heap_top _ _ (by simp)))) b1 (by go_size)
  go_wp2_with fail
  refine (implValidM_any Rb Cb A2 cap2 ys _ hn2 (by refine hy.out.below B1)).mono ?_
  rintro e w2 ⟨rfl, b2⟩
  have z2 := b2.size
  try simp only [World.size_alloc] at z2
  have C2 := Below.chain b1 (by go_grown) b2 (by go_size)
  have B2 : Below w.heap.size w w2 := Below.chain B1 (by go_grown) b2 (by go_size)
  obtain ⟨b2c, b2f⟩ := bcell b2
  obtain ⟨C2c, C2f⟩ := bcellB C2
  have y20 : w.heap.size < w2.heap.size := by omega
  have y21 : w.heap.size + 1 < w2.heap.size := by omega
  have y22 : w.heap.size + 2 < w2.heap.size := by omega
  try (have v21 : w1.heap.size < w2.heap.size := by omega)
  rw [Hok2.out]
  have L2 := Lib.hid (L1.out.call b2)
  have K2 := Lib.hid (K1.out.call b2)
  go_wp2_with fail
  refine (matrixOf_any (N : Int) (M : Int) 106 #[.pointer (some ⟨w.heap.size, 0, none⟩), .pointer (some ⟨w.heap.size + 1, 0, none⟩)] (kronC C Rb Cb xs ys) (kronOk C Rb Cb xs ys) _ Try.call106 ?hcell).mono ?_
  case hcell =>
    intro i j W hi hj hb
    have hb' : Below w2.heap.size w2 W := hb
    exact kronCell_any R C Rb Cb i j A cap xs A2 cap2 ys _ _ W hR hC Hlen.out hR2 hC2 Hlen2.out (by rw [← HN.out]; exact Int.ofNat_lt.1 hi) (by rw [← HM.out]; exact Int.ofNat_lt.1 hj) ((hx.out.below B2).below hb') ((hy.out.below B2).below hb') (L2.out.call hb') (K2.out.call hb')
  rintro e w3 hm'
  rw [Hyes.out, HL.out] at hm'
  obtain ⟨A', cap', R', C', ys', rfl, h1, h2, h3, hf, b3⟩ := hm'.form
  rw [← mR] at h1
  rw [← mC] at h2
  have Hm := Lib.hid (And.intro h1 (And.intro h2 h3))
  have Hf := Lib.hid hf
  have z3 := b3.size
  have C3 := Below.chain C2 (by go_grown) b3 (by go_size)
  have B3 : Below w.heap.size w w3 := B2.trans (b3.mono B2.size)
  obtain ⟨C3c, C3f⟩ := bcellB C3
  have y30 : w.heap.size < w3.heap.size := by omega
  have y32 : w.heap.size + 1 + 1 < w3.heap.size := by omega
  clear hm' h1 h2 h3 hf b3
  go_wp2
  refine bodyPost_ret (by simp [results, Try.results54, go_sem, C3c]) rfl (MRes.mk (A := A') (cap := cap') Hm.out.1 Hm.out.2.1 Hm.out.2.2 ?_ ?_)
  · refine FlatIn.mono (lo := w2.heap.size) (hi := w3.heap.size) ?_ (by omega) (by go_size) (Nat.le_refl _)
    repeat (refine FlatIn.setFar ?_ (by dsimp only; omega) _)
    exact Hf.out
  · go_grown
end Go.Proofs.Ytcmkkjdleihjfaa
