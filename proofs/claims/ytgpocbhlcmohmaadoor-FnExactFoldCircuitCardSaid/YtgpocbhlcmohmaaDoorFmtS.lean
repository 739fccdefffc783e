/- FormatGate of the reference. -/
import Derived.Test.YtgpocbhlcmohmaaDoorFmtG
namespace Go.Proofs.YtgpocbhlcmohmaaDoor
open Go.RowKit

set_option maxRecDepth 100000 in
set_option maxHeartbeats 2000000 in
theorem l4Name_any (K : Nat) (w : World) (h1 : 1 ≤ K) (h12 : K ≤ 12) :
    Calls Tryd.prog 84 #[.int .i64 (K : Int)] w fun e w' => e = .returned (.string (nameB K)) ∧ Below w.heap.size w w' := by
  obtain rfl | rfl | rfl | rfl | rfl | rfl | rfl | rfl | rfl | rfl | rfl | rfl : K = 1 ∨ K = 2 ∨ K = 3 ∨ K = 4 ∨ K = 5 ∨ K = 6 ∨ K = 7 ∨ K = 8 ∨ K = 9 ∨ K = 10 ∨ K = 11 ∨ K = 12 := by omega
  all_goals
    go_enter Tryd.func84, Tryd.ntmps84
    go_wp2
    go_ret
    refine ⟨rfl, ?_⟩
    go_grown

set_option maxRecDepth 100000 in
set_option maxHeartbeats 2000000 in
theorem l4Text_any (K P Q : Nat) (w : World) (h1 : 1 ≤ K) (h12 : K ≤ 12) (hP : P < 5) (hQ : Q < 5) :
    Calls Tryd.prog 54 #[tv (K : Int) (P : Int) (Q : Int)] w fun e w' => e = .returned (.string (gtxt K P Q)) ∧ Below w.heap.size w w' := by
  obtain ⟨nm, hnm⟩ : ∃ nm, nm = nameB K := ⟨_, rfl⟩
  obtain ⟨dp, hdp⟩ : ∃ dp : ByteArray, dp = ⟨(Lib.decDigits P).toArray⟩ := ⟨_, rfl⟩
  obtain ⟨dq, hdq⟩ : ∃ dq : ByteArray, dq = ⟨(Lib.decDigits Q).toArray⟩ := ⟨_, rfl⟩
  have hns : nm.size ≤ 4 := by rw [hnm]; exact nameB_size K
  have hps : dp.size = 1 := by rw [hdp]; exact digit_size (by omega)
  have hqs : dq.size = 1 := by rw [hdq]; exact digit_size (by omega)
  have Cn : Hid (∀ W, Calls Tryd.prog 84 #[.int .i64 (K : Int)] W fun e w' => e = .returned (.string nm) ∧ Below W.heap.size W w') := fun W => by rw [hnm]; exact l4Name_any K W h1 h12
  have D1 : Hid (∀ W, Calls Tryd.prog 66 #[.int .i64 (P : Int)] W fun e w' => e = .returned (.string dp) ∧ Below W.heap.size W w') := fun W => by rw [hdp]; exact l1Num_any P (by omega) W
  have D2 : Hid (∀ W, Calls Tryd.prog 66 #[.int .i64 (Q : Int)] W fun e w' => e = .returned (.string dq) ∧ Below W.heap.size W w') := fun W => by rw [hdq]; exact l1Num_any Q (by omega) W
  have s1 : ¬ (9223372036854775807 < 1 + dp.size) := by omega
  have s2 : ¬ (9223372036854775807 < nm.size + (⟨#[32]⟩ ++ dp : ByteArray).size) := by rw [ByteArray.size_append]; show ¬ _ < _ + (1 + _); omega
  have s3 : ¬ (9223372036854775807 < 1 + dq.size) := by omega
  have s4 : ¬ (9223372036854775807 < (nm ++ (⟨#[32]⟩ ++ dp) : ByteArray).size + (⟨#[32]⟩ ++ dq : ByteArray).size) := by rw [ByteArray.size_append, ByteArray.size_append, ByteArray.size_append]; show ¬ _ < _ + (1 + _) + (1 + _); omega
  have Hr : Hid (gtxt K P Q = if K = 12 then nm else if 9 ≤ K ∧ K ≤ 11 then (nm ++ (⟨#[32]⟩ ++ dp)) ++ (⟨#[32]⟩ ++ dq) else nm ++ (⟨#[32]⟩ ++ dp)) := by show _ = _; rw [hnm, hdp, hdq]; rfl
  have Ct : Hid (∀ (b : Bool) W, inB (K : Int) 9 11 = b → Calls Tryd.prog 70 #[.int .i64 (K : Int), .int .i64 9, .int .i64 11] W fun e w' => e = .returned (.bool b) ∧ W = w') := fun b W hb => (l1In_any _ _ _ W).mono (by rintro e w' ⟨h, rfl⟩; exact ⟨by rw [h, hb], rfl⟩)
  clear hnm hdp hdq hps hqs hns hP hQ
  by_cases hk : K = 12
  · have Ht : Hid (inB (K : Int) 9 11 = false) := inB_f.2 (by omega)
    have Hr2 := Lib.hid (Hr.out.trans (if_pos hk))
    subst hk
    go_enter Tryd.func54, Tryd.ntmps54
    go_wp2_with fail
    refine (Cn.out _).mono ?_
    rintro e w1 ⟨rfl, b1⟩
    obtain ⟨b1c, b1f⟩ := bcell b1
    have z1 := b1.size
    try simp only [World.size_alloc] at z1
    have B1 : Below w.heap.size w w1 := Below.chain (Below.refl _ _) (by go_grown) b1 (by go_size)
    have y10 : w.heap.size < w1.heap.size := by omega
    go_wp2_with fail
    refine (Ct.out _ _ Ht.out).mono ?_
    rintro e w' ⟨rfl, rfl⟩
    go_wp2
    go_ret
    rw [Hr2.out]
    refine ⟨rfl, ?_⟩
    go_grown
  have hk12 : ¬ (K : Int) = 12 := by omega
  by_cases ht : 9 ≤ K ∧ K ≤ 11
  · have Ht : Hid (inB (K : Int) 9 11 = true) := inB_t.2 (by omega)
    have Hr2 := Lib.hid (Hr.out.trans ((if_neg hk).trans (if_pos ht)))
    clear hk ht
    go_enter Tryd.func54, Tryd.ntmps54
    go_wp2_with fail
    refine (Cn.out _).mono ?_
    rintro e w1 ⟨rfl, b1⟩
    obtain ⟨b1c, b1f⟩ := bcell b1
    have z1 := b1.size
    try simp only [World.size_alloc] at z1
    have B1 : Below w.heap.size w w1 := Below.chain (Below.refl _ _) (by go_grown) b1 (by go_size)
    have y10 : w.heap.size < w1.heap.size := by omega
    go_wp2_with fail
    refine (D1.out _).mono ?_
    rintro e w2 ⟨rfl, b2⟩
    have z2 := b2.size
    try simp only [World.size_alloc] at z2
    have C2 := Below.chain b1 (by go_grown) b2 (by go_size)
    have B2 : Below w.heap.size w w2 := Below.chain B1 (by go_grown) b2 (by go_size)
    obtain ⟨b2c, b2f⟩ := bcell b2
    obtain ⟨C2c, C2f⟩ := bcellB C2
    have y20 : w.heap.size < w2.heap.size := by omega
    try (have v21 : w1.heap.size < w2.heap.size := by omega)
    go_wp2_with fail
    refine (Ct.out _ _ Ht.out).mono ?_
    rintro e w' ⟨rfl, rfl⟩
    go_wp2_with fail
    refine (D2.out _).mono ?_
    rintro e w3 ⟨rfl, b3⟩
    have z3 := b3.size
    try simp only [World.size_alloc] at z3
    have C3 := Below.chain C2 (by go_grown) b3 (by go_size)
    have B3 : Below w.heap.size w w3 := Below.chain B2 (by go_grown) b3 (by go_size)
    obtain ⟨b3c, b3f⟩ := bcell b3
    obtain ⟨C3c, C3f⟩ := bcellB C3
    have y30 : w.heap.size < w3.heap.size := by omega
    try (have v31 : w1.heap.size < w3.heap.size := by omega)
    try (have v32 : w2.heap.size < w3.heap.size := by omega)
    go_wp2
    go_ret
    rw [Hr2.out]
    refine ⟨rfl, ?_⟩
    go_grown
  · have Ht : Hid (inB (K : Int) 9 11 = false) := inB_f.2 (by omega)
    have Hr2 := Lib.hid (Hr.out.trans ((if_neg hk).trans (if_neg ht)))
    clear hk ht
    go_enter Tryd.func54, Tryd.ntmps54
    go_wp2_with fail
    refine (Cn.out _).mono ?_
    rintro e w1 ⟨rfl, b1⟩
    obtain ⟨b1c, b1f⟩ := bcell b1
    have z1 := b1.size
    try simp only [World.size_alloc] at z1
    have B1 : Below w.heap.size w w1 := Below.chain (Below.refl _ _) (by go_grown) b1 (by go_size)
    have y10 : w.heap.size < w1.heap.size := by omega
    go_wp2_with fail
    refine (D1.out _).mono ?_
    rintro e w2 ⟨rfl, b2⟩
    have z2 := b2.size
    try simp only [World.size_alloc] at z2
    have C2 := Below.chain b1 (by go_grown) b2 (by go_size)
    have B2 : Below w.heap.size w w2 := Below.chain B1 (by go_grown) b2 (by go_size)
    obtain ⟨b2c, b2f⟩ := bcell b2
    obtain ⟨C2c, C2f⟩ := bcellB C2
    have y20 : w.heap.size < w2.heap.size := by omega
    try (have v21 : w1.heap.size < w2.heap.size := by omega)
    go_wp2_with fail
    refine (Ct.out _ _ Ht.out).mono ?_
    rintro e w' ⟨rfl, rfl⟩
    go_wp2
    go_ret
    rw [Hr2.out]
    refine ⟨rfl, ?_⟩
    go_grown

set_option maxRecDepth 100000 in
set_option maxHeartbeats 2000000 in
theorem specFmtGate_any (k a b : Int) (w : World) :
    Calls Tryd.prog 20 #[tv k a b] w fun e w' => e = .returned (fgRes (gateB 5 k a b) (gtxt k.toNat a.toNat b.toNat)) ∧ Below w.heap.size w w' := by
  have Cg : Hid (∀ W, Calls Tryd.prog 53 #[.int .i64 5, tv k a b] W fun e w' => e = .returned (.bool (gateB 5 k a b)) ∧ Below W.heap.size W w') := fun W => l4Gate_any 5 k a b W (by omega) (by omega)
  rcases hok : gateB 5 k a b with _ | _
  · go_enter Tryd.func20, Tryd.ntmps20
    go_wp2_with fail
    refine (Cg.out _).mono ?_
    rintro e w1 ⟨rfl, b1⟩
    obtain ⟨b1c, b1f⟩ := bcell b1
    have z1 := b1.size
    try simp only [World.size_alloc] at z1
    have B1 : Below w.heap.size w w1 := Below.chain (Below.refl _ _) (by go_grown) b1 (by go_size)
    have y10 : w.heap.size < w1.heap.size := by omega
    rw [hok]
    go_wp2
    go_ret2
    refine ⟨rfl, ?_⟩
    go_grown
  · obtain ⟨K, P, Q, rfl, rfl, rfl, h1, h12, hP, hQ⟩ := gate5_parts hok
    have Hok := Lib.hid hok
    have D3 : Hid (∀ W, Calls Tryd.prog 54 #[tv (K : Int) (P : Int) (Q : Int)] W fun e w' => e = .returned (.string (gtxt K P Q)) ∧ Below W.heap.size W w') := fun W => l4Text_any K P Q W h1 h12 hP hQ
    have Hr : Hid (fgRes true (gtxt (K : Int).toNat (P : Int).toNat (Q : Int).toNat) = .tuple #[.string (gtxt K P Q), .bool true]) := by show _ = _; simp [fgRes]
    clear hok h1 h12 hP hQ
    go_enter Tryd.func20, Tryd.ntmps20
    go_wp2_with fail
    refine (Cg.out _).mono ?_
    rintro e w1 ⟨rfl, b1⟩
    obtain ⟨b1c, b1f⟩ := bcell b1
    have z1 := b1.size
    try simp only [World.size_alloc] at z1
    have B1 : Below w.heap.size w w1 := Below.chain (Below.refl _ _) (by go_grown) b1 (by go_size)
    have y10 : w.heap.size < w1.heap.size := by omega
    rw [Hok.out]
    go_wp2_with fail
    refine (D3.out _).mono ?_
    rintro e w2 ⟨rfl, b2⟩
    have z2 := b2.size
    try simp only [World.size_alloc] at z2
    have C2 := Below.chain b1 (by go_grown) b2 (by go_size)
    have B2 : Below w.heap.size w w2 := Below.chain B1 (by go_grown) b2 (by go_size)
    obtain ⟨b2c, b2f⟩ := bcell b2
    obtain ⟨C2c, C2f⟩ := bcellB C2
    have y20 : w.heap.size < w2.heap.size := by omega
    try (have v21 : w1.heap.size < w2.heap.size := by omega)
    go_wp2
    go_ret2
    rw [Hr.out]
    refine ⟨rfl, ?_⟩
    go_grown
end Go.Proofs.YtgpocbhlcmohmaaDoor
