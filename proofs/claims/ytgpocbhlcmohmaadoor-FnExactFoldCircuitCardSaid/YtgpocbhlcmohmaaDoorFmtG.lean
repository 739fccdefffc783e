/- FormatGate, of the program and of the reference. -/
import Derived.Test.YtgpocbhlcmohmaaDoorGate
import Derived.Test.YtgpocbhlcmohmaaDoorNumT
import Derived.Test.YtgpocbhlcmohmaaDoorShs
import Derived.Deep.RegionHeld3
namespace Go.Proofs.YtgpocbhlcmohmaaDoor
open Go.RowKit

/-- the names of the kinds of gates -/
def namesB : List ByteArray := [⟨#[]⟩, ⟨#[72]⟩, ⟨#[88]⟩, ⟨#[89]⟩, ⟨#[90]⟩, ⟨#[83]⟩, ⟨#[83, 39]⟩, ⟨#[84]⟩, ⟨#[84, 39]⟩, ⟨#[67, 88]⟩, ⟨#[67, 90]⟩, ⟨#[83, 87, 65, 80]⟩, ⟨#[87]⟩]
def nameB (k : Nat) : ByteArray := namesB.getD k ⟨#[]⟩
theorem nameB_size (k : Nat) : (nameB k).size ≤ 4 := by
  unfold nameB
  by_cases h : k < 13
  · have : ∀ i : Fin 13, (namesB.getD i.val ⟨#[]⟩).size ≤ 4 := by decide
    exact this ⟨k, h⟩
  · rw [List.getD_eq_getElem?_getD, List.getElem?_eq_none (by simp [namesB]; omega)]
    decide
/-- a digit behind a blank -/
def blankB (a : Nat) : ByteArray := ⟨#[32]⟩ ++ ⟨(Lib.decDigits a).toArray⟩
/-- the text of a gate -/
def gtxt (k a b : Nat) : ByteArray :=
  if k = 12 then nameB k else if 9 ≤ k ∧ k ≤ 11 then (nameB k ++ blankB a) ++ blankB b else nameB k ++ blankB a
theorem digit_size {a : Nat} (h : a < 10) : (⟨(Lib.decDigits a).toArray⟩ : ByteArray).size = 1 := by
  rw [dec_small h]
  rfl

/-- the program's table of names lies in memory -/
def NamesAt (w : World) : Prop := ∀ i z, namesB[i]? = some z → w.cell? ⟨0, i, none⟩ = some (.string z)
theorem NamesAt.below {w w' : World} (h : NamesAt w) (hb : Below w.heap.size w w') : NamesAt w' := by
  intro i z hz
  have h1 := h i z hz
  exact (hb.cell (p := ⟨0, i, none⟩) (World.block_lt_of_cell? w ⟨0, i, none⟩ h1)).trans h1

def fgRes (ok : Bool) (s : ByteArray) : Value := .tuple #[.string (if ok then s else ⟨#[]⟩), .bool ok]

theorem gate5_parts {k a b : Int} (h : gateB 5 k a b = true) : ∃ K P Q : Nat, k = (K : Int) ∧ a = (P : Int) ∧ b = (Q : Int) ∧ 1 ≤ K ∧ K ≤ 12 ∧ P < 5 ∧ Q < 5 := by
  unfold gateB at h
  rcases h8 : inB k 1 8 with _ | _
  · rcases h11 : inB k 9 11 with _ | _
    · rw [h8, h11] at h
      obtain ⟨⟨h1, h2⟩, h3⟩ : (k = 12 ∧ a = 0) ∧ b = 0 := by simpa using h
      exact ⟨k.toNat, a.toNat, b.toNat, by omega, by omega, by omega, by omega, by omega, by omega, by omega⟩
    · rw [h8, h11] at h
      obtain ⟨⟨h1, h2⟩, h3⟩ : (inB a 0 (5 - 1) = true ∧ inB b 0 (5 - 1) = true) ∧ ¬ a = b := by simpa using h
      have h1 := inB_t.1 h1
      have h2 := inB_t.1 h2
      have h4 := inB_t.1 h11
      exact ⟨k.toNat, a.toNat, b.toNat, by omega, by omega, by omega, by omega, by omega, by omega, by omega⟩
  · rw [h8] at h
    obtain ⟨h1, h2⟩ : inB a 0 (5 - 1) = true ∧ b = 0 := by simpa using h
    have h1 := inB_t.1 h1
    have h4 := inB_t.1 h8
    exact ⟨k.toNat, a.toNat, b.toNat, by omega, by omega, by omega, by omega, by omega, by omega, by omega⟩

theorem itoaS_any (a : Nat) (w : World) (h : a < 10) : Calls Tryd.prog 56 #[.int .i64 (a : Int)] w fun e w' => e = .returned (.string ⟨(Lib.decDigits a).toArray⟩) ∧ w = w' :=
  (Tryd.strconv_Itoa_small a (by omega) w).mono fun _ _ ⟨h1, h2⟩ => ⟨h1, h2.symm⟩

set_option maxRecDepth 100000 in
set_option maxHeartbeats 2000000 in
theorem implFmtGate_yes (K P Q : Nat) (w : World) (hok : gateB 5 (K : Int) (P : Int) (Q : Int) = true) (h1 : 1 ≤ K) (h12 : K ≤ 12) (hP : P < 5) (hQ : Q < 5) (hN : Hid (NamesAt w)) :
    Calls Tryd.prog 22 #[tv (K : Int) (P : Int) (Q : Int)] w fun e w' => e = .returned (.tuple #[.string (gtxt K P Q), .bool true]) ∧ Below w.heap.size w w' := by
  have Hok : Hid (validB 5 (K : Int) (P : Int) (Q : Int) = true) := by show _ = _; rw [validB, hok]; decide
  obtain ⟨nm, hnm⟩ : ∃ nm, nm = nameB K := ⟨_, rfl⟩
  obtain ⟨dp, hdp⟩ : ∃ dp : ByteArray, dp = ⟨(Lib.decDigits P).toArray⟩ := ⟨_, rfl⟩
  obtain ⟨dq, hdq⟩ : ∃ dq : ByteArray, dq = ⟨(Lib.decDigits Q).toArray⟩ := ⟨_, rfl⟩
  have hns : nm.size ≤ 4 := by rw [hnm]; exact nameB_size K
  have hps : dp.size = 1 := by rw [hdp]; exact digit_size (by omega)
  have hqs : dq.size = 1 := by rw [hdq]; exact digit_size (by omega)
  have C1 : Hid (∀ W, Calls Tryd.prog 56 #[.int .i64 (P : Int)] W fun e w' => e = .returned (.string dp) ∧ W = w') := fun W => by rw [hdp]; exact itoaS_any P W (by omega)
  have C2 : Hid (∀ W, Calls Tryd.prog 56 #[.int .i64 (Q : Int)] W fun e w' => e = .returned (.string dq) ∧ W = w') := fun W => by rw [hdq]; exact itoaS_any Q W (by omega)
  have hnl : namesB[K]? = some nm := by
    have : namesB.length = 13 := rfl
    rw [hnm, nameB, List.getD_eq_getElem?_getD, List.getElem?_eq_getElem (by omega)]
    rfl
  have hc0 := hN.out K nm hnl
  have hg0 : 0 < w.heap.size := World.block_lt_of_cell? w ⟨0, K, none⟩ hc0
  have s1 : ¬ (9223372036854775807 < 1 + dp.size) := by omega
  have s2 : ¬ (9223372036854775807 < nm.size + (⟨#[32]⟩ ++ dp : ByteArray).size) := by rw [ByteArray.size_append]; show ¬ _ < _ + (1 + _); omega
  have s3 : ¬ (9223372036854775807 < 1 + dq.size) := by omega
  have s4 : ¬ (9223372036854775807 < (nm ++ (⟨#[32]⟩ ++ dp) : ByteArray).size + (⟨#[32]⟩ ++ dq : ByteArray).size) := by rw [ByteArray.size_append, ByteArray.size_append, ByteArray.size_append]; show ¬ _ < _ + (1 + _) + (1 + _); omega
  have hk13 : (K : Int) < 13 := by omega
  have Hr : Hid (gtxt K P Q = if K = 12 then nm else if 9 ≤ K ∧ K ≤ 11 then (nm ++ (⟨#[32]⟩ ++ dp)) ++ (⟨#[32]⟩ ++ dq) else nm ++ (⟨#[32]⟩ ++ dp)) := by show _ = _; rw [hnm, hdp, hdq]; rfl
  have Ct : Hid (∀ (b : Bool) W, inB (K : Int) 9 11 = b → Calls Tryd.prog 57 #[.int .i64 (K : Int)] W fun e w' => e = .returned (.bool b) ∧ W = w') := fun b W hb => (isTwo_any _ W).mono (by rintro e w' ⟨h, rfl⟩; exact ⟨by rw [h, hb], rfl⟩)
  have Cv : Hid (∀ W, Calls Tryd.prog 55 #[.int .i64 5, tv (K : Int) (P : Int) (Q : Int)] W fun e w' => e = .returned (.bool true) ∧ Below W.heap.size W w') := fun W => by have h := implValidGate_any 5 (K : Int) (P : Int) (Q : Int) W; rw [Hok.out] at h; exact h
  clear hnm hdp hdq hps hqs hns hnl hok hP hQ
  by_cases hk : K = 12
  · have Ht : Hid (inB (K : Int) 9 11 = false) := inB_f.2 (by omega)
    have Hr2 := Lib.hid (Hr.out.trans (if_pos hk))
    subst hk
    go_enter Tryd.func22, Tryd.ntmps22
    go_wp2_with fail
    refine (Cv.out _).mono ?_
    rintro e w1 ⟨rfl, b1⟩
    obtain ⟨b1c, b1f⟩ := bcell b1
    have z1 := b1.size
    try simp only [World.size_alloc] at z1
    have B1 : Below w.heap.size w w1 := Below.chain (Below.refl _ _) (by go_grown) b1 (by go_size)
    have y10 : w.heap.size < w1.heap.size := by omega
    have yg : 0 < w1.heap.size := by omega
    have hc1 := ((B1.cell (p := ⟨0, 12, none⟩) hg0).trans hc0)
    go_wp2_with fail
    refine (Ct.out _ _ Ht.out).mono ?_
    rintro e w' ⟨rfl, rfl⟩
    go_wp2
    go_ret2
    rw [Hr2.out]
    refine ⟨rfl, ?_⟩
    go_grown
  have hk12 : ¬ (K : Int) = 12 := by omega
  by_cases ht : 9 ≤ K ∧ K ≤ 11
  · have Ht : Hid (inB (K : Int) 9 11 = true) := inB_t.2 (by omega)
    have Hr2 := Lib.hid (Hr.out.trans ((if_neg hk).trans (if_pos ht)))
    clear hk ht
    go_enter Tryd.func22, Tryd.ntmps22
    go_wp2_with fail
    refine (Cv.out _).mono ?_
    rintro e w1 ⟨rfl, b1⟩
    obtain ⟨b1c, b1f⟩ := bcell b1
    have z1 := b1.size
    try simp only [World.size_alloc] at z1
    have B1 : Below w.heap.size w w1 := Below.chain (Below.refl _ _) (by go_grown) b1 (by go_size)
    have y10 : w.heap.size < w1.heap.size := by omega
    have yg : 0 < w1.heap.size := by omega
    have hc1 := ((B1.cell (p := ⟨0, K, none⟩) hg0).trans hc0)
    go_wp2_with fail
    refine (C1.out _).mono ?_
    rintro e w' ⟨rfl, rfl⟩
    go_wp2_with fail
    refine (Ct.out _ _ Ht.out).mono ?_
    rintro e w' ⟨rfl, rfl⟩
    go_wp2_with fail
    refine (C2.out _).mono ?_
    rintro e w' ⟨rfl, rfl⟩
    go_wp2
    go_ret2
    rw [Hr2.out]
    refine ⟨rfl, ?_⟩
    go_grown
  · have Ht : Hid (inB (K : Int) 9 11 = false) := inB_f.2 (by omega)
    have Hr2 := Lib.hid (Hr.out.trans ((if_neg hk).trans (if_neg ht)))
    clear hk ht
    go_enter Tryd.func22, Tryd.ntmps22
    go_wp2_with fail
    refine (Cv.out _).mono ?_
    rintro e w1 ⟨rfl, b1⟩
    obtain ⟨b1c, b1f⟩ := bcell b1
    have z1 := b1.size
    try simp only [World.size_alloc] at z1
    have B1 : Below w.heap.size w w1 := Below.chain (Below.refl _ _) (by go_grown) b1 (by go_size)
    have y10 : w.heap.size < w1.heap.size := by omega
    have yg : 0 < w1.heap.size := by omega
    have hc1 := ((B1.cell (p := ⟨0, K, none⟩) hg0).trans hc0)
    go_wp2_with fail
    refine (C1.out _).mono ?_
    rintro e w' ⟨rfl, rfl⟩
    go_wp2_with fail
    refine (Ct.out _ _ Ht.out).mono ?_
    rintro e w' ⟨rfl, rfl⟩
    go_wp2
    go_ret2
    rw [Hr2.out]
    refine ⟨rfl, ?_⟩
    go_grown

theorem implFmtGate_any (k a b : Int) (w : World) (hN : Hid (NamesAt w)) :
    Calls Tryd.prog 22 #[tv k a b] w fun e w' => e = .returned (fgRes (gateB 5 k a b) (gtxt k.toNat a.toNat b.toNat)) ∧ Below w.heap.size w w' := by
  rcases hok : gateB 5 k a b with _ | _
  · have Hok : Hid (validB 5 k a b = false) := by show _ = _; rw [validB, hok]; decide
    clear hN
    go_enter Tryd.func22, Tryd.ntmps22
    go_wp2_with fail
    refine (implValidGate_any 5 _ _ _ _).mono ?_
    rintro e w1 ⟨rfl, b1⟩
    obtain ⟨b1c, b1f⟩ := bcell b1
    have z1 := b1.size
    try simp only [World.size_alloc] at z1
    have B1 : Below w.heap.size w w1 := Below.chain (Below.refl _ _) (by go_grown) b1 (by go_size)
    have y10 : w.heap.size < w1.heap.size := by omega
    rw [Hok.out]
    go_wp2
    go_ret2
    refine ⟨rfl, ?_⟩
    go_grown
  · obtain ⟨K, P, Q, rfl, rfl, rfl, h1, h12, hP, hQ⟩ := gate5_parts hok
    exact (implFmtGate_yes K P Q w hok h1 h12 hP hQ hN).mono fun _ _ ⟨e1, e2⟩ => ⟨by rw [e1]; simp [fgRes], e2⟩
end Go.Proofs.YtgpocbhlcmohmaaDoor
