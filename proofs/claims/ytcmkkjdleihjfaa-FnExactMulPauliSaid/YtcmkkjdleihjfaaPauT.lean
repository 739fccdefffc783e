/- Products of Pauli operators, of the reference. -/
import Derived.Test.YtcmkkjdleihjfaaPauM
import Derived.Deep.RegionLaw
import Derived.Laws.StructEq
namespace Go.Proofs.Ytcmkkjdleihjfaa
open Go.RowKit

theorem BL_step {W w1 w2 : World} (h : Below W.heap.size W w1) (h2 : Below w1.heap.size w1 w2) : Below W.heap.size W w2 := h.trans (h2.mono h.size)
theorem BL_drew {W w1 : World} (h : Below W.heap.size W w1) : Below W.heap.size W w1.drew := ⟨h.os, h.tape, h.output, h.size, h.block⟩

set_option maxRecDepth 100000 in
set_option maxHeartbeats 8000000 in
theorem l7Mul_any (pa pb ax az bx bz : Nat) (w : World) (hpa : pa < 4) (hpb : pb < 4) (h1 : ax < 32) (h2 : az < 32) (h3 : bx < 32) (h4 : bz < 32) :
    Calls Try.prog 61 #[pv (pa : Int) (ax : Int) (az : Int), pv (pb : Int) (bx : Int) (bz : Int)] w fun e w' => e = .returned (pv ((phM pa pb ax az bx bz : Nat) : Int) ((ax ^^^ bx : Nat) : Int) ((az ^^^ bz : Nat) : Int)) ∧ Below w.heap.size w w' := by
  obtain ⟨X, hX⟩ : ∃ X, X = ax ^^^ bx := ⟨_, rfl⟩
  obtain ⟨Z, hZ⟩ : ∃ Z, Z = az ^^^ bz := ⟨_, rfl⟩
  have e1 : bits .xor .i64 (ax : Int) (bx : Int) = (X : Int) := by rw [hX]; exact xor_bits ⟨ax, h1⟩ ⟨bx, h3⟩
  have e2 : bits .xor .i64 (az : Int) (bz : Int) = (Z : Int) := by rw [hZ]; exact xor_bits ⟨az, h2⟩ ⟨bz, h4⟩
  rw [← hX, ← hZ]
  clear hX hZ
  have Hph : Hid (phM pa pb ax az bx bz = (pa + pb + sumT ax az bx bz 5) % 4) := rfl
  obtain ⟨s0, hs0⟩ : ∃ s0, s0 = pa + pb := ⟨_, rfl⟩
  have hs1 : (pa : Int) + (pb : Int) = (s0 : Int) := by omega
  have hs0b : s0 ≤ 6 := by omega
  have hs3 : IntKind.wrap .i64 (s0 : Int) = (s0 : Int) := IntWalk.i64_in _ (by omega)
  have hs2 : RowKit.wrap64 (s0 : Int) = (s0 : Int) := IntWalk.wrap64_in _ (by omega)
  rw [← hs0] at Hph
  have Hs0b := Lib.hid hs0b
  clear hs0 hs0b
  have H1 := Lib.hid h1
  have H2 := Lib.hid h2
  have H3 := Lib.hid h3
  have H4 := Lib.hid h4
  clear hpa hpb h1 h2 h3 h4
  go_enter Try.func61, Try.ntmps61
  go_wp2_with fail
  go_loopw [6] (fun i wr => ∃ k : Nat, i = .int .i64 k ∧ k ≤ 5 ∧ wr.heap[w.heap.size]? = some (.cells #[.int .i64 (pa : Int), .int .i64 (ax : Int), .int .i64 (az : Int)] 26 (0, 0)) ∧ wr.heap[w.heap.size + 1]? = some (.cells #[.int .i64 (pb : Int), .int .i64 (bx : Int), .int .i64 (bz : Int)] 26 (0, 0)) ∧ wr.heap[w.heap.size + 1 + 1]? = some (.cells #[.int .i64 0, .int .i64 0, .int .i64 0] 26 (0, 0)) ∧ wr.heap[w.heap.size + 1 + 1 + 1]? = some (.cells #[.int .i64 ((s0 + sumT ax az bx bz k : Nat) : Int), .int .i64 (X : Int), .int .i64 (Z : Int)] 26 (0, 0)) ∧ Below w.heap.size w wr) (fun i _ => 5 - (intOf i).toNat)
  case atStart =>
    refine ⟨0, rfl, by omega, ?_, ?_, ?_, ?_, by go_grown⟩
    · exact (Below.heap_alloc _ _ _ (by go_size)).trans ((Below.heap_alloc _ _ _ (by go_size)).trans ((Below.heap_alloc _ _ _ (by go_size)).trans (heap_top _ _ rfl)))
    · exact (Below.heap_alloc _ _ _ (by go_size)).trans ((Below.heap_alloc _ _ _ (by go_size)).trans (heap_top _ _ (by simp)))
    · exact (Below.heap_alloc _ _ _ (by go_size)).trans (heap_top _ _ (by simp))
    · exact heap_top _ _ (by simp)
  case round =>
    obtain ⟨k, rfl, hk, ha, hb, hz, ho, hB⟩ := hrel
    have zb := hB.size
    have y3 : w.heap.size + 1 + 1 + 1 < wr.heap.size := (Array.getElem?_eq_some_iff.1 ho).1
    have y0 : w.heap.size < wr.heap.size := by omega
    have y1 : w.heap.size + 1 < wr.heap.size := by omega
    have Ha := Lib.hid ha
    have Hb := Lib.hid hb
    have Hz := Lib.hid hz
    have Ho := Lib.hid ho
    have o0 := cell_of_row wr (w.heap.size + 1 + 1 + 1) 0 _ _ _ ho
    have of0 := frozen_of_row wr (w.heap.size + 1 + 1 + 1) 0 _ _ ho
    by_cases hlt : k < 5
    · have Hk := Lib.hid hlt
      have hle := sumT_le ax az bx bz k
      have hsg := sgn_small ⟨_, letN_lt ax az k⟩ ⟨_, letN_lt bx bz k⟩
      simp only at hsg
      have hst : sumT ax az bx bz (k + 1) = sumT ax az bx bz k + sgnT (letN ax az k) (letN bx bz k) := rfl
      have Hst := Lib.hid hst
      obtain ⟨S, hS⟩ : ∃ S, S = s0 + sumT ax az bx bz k := ⟨_, rfl⟩
      obtain ⟨T, hT⟩ : ∃ T, T = sgnT (letN ax az k) (letN bx bz k) := ⟨_, rfl⟩
      have HS := Lib.hid hS
      have HT := Lib.hid hT
      have hSb : S ≤ 30 := by have := Hs0b.out; omega
      have hTb : T < 4 := by omega
      obtain ⟨U, hU⟩ : ∃ U, U = S + T := ⟨_, rfl⟩
      have hu1 : (S : Int) + (T : Int) = (U : Int) := by omega
      have hw : IntKind.wrap .i64 (U : Int) = (U : Int) := IntWalk.i64_in _ (by omega)
      have hw' : RowKit.wrap64 (U : Int) = (U : Int) := IntWalk.wrap64_in _ (by omega)
      have HU := Lib.hid hU
      rw [← hS] at o0
      have a0 := cell_of_row wr w.heap.size 0 _ _ _ ha
      have a1 := cell_of_row wr w.heap.size 1 _ _ _ ha
      have a2 := cell_of_row wr w.heap.size 2 _ _ _ ha
      have b0 := cell_of_row wr (w.heap.size + 1) 0 _ _ _ hb
      have b1 := cell_of_row wr (w.heap.size + 1) 1 _ _ _ hb
      have b2 := cell_of_row wr (w.heap.size + 1) 2 _ _ _ hb
      have hB0 : Below wr.heap.size wr wr := Below.refl _ _
      clear ha hb hz ho hst hS hT hsg hle hs1 hs2 hU hSb hTb e1 e2
      go_wp2_with fail
      go_region_law (first | (go_simp; go_at_call 107; (first | with_reducible refine (l7Letter_any (pa : Int) ax az k _ H1.out H2.out Hk.out).mono ?_ | with_reducible refine (l7Letter_any (pb : Int) bx bz k _ H3.out H4.out Hk.out).mono ?_); rintro e wA ⟨rfl, bA⟩; have hBA := (by first | exact BL_step (by with_reducible assumption) bA | exact BL_step (BL_drew (by with_reducible assumption)) bA : Below wr.heap.size wr wA); obtain ⟨cA, fA⟩ := bcell hBA; have zA := hBA.size; clear bA) | (go_simp; go_at_call 109; refine (l7Sign_any (letN ax az k) (letN bx bz k) _ (letN_lt _ _ _) (letN_lt _ _ _)).mono ?_; rintro e wC ⟨rfl, bC⟩; rw [← HT.out]; have hBC := (by first | exact BL_step (by with_reducible assumption) bC | exact BL_step (BL_drew (by with_reducible assumption)) bC : Below wr.heap.size wr wC); obtain ⟨cC, fC⟩ := bcell hBC; have zC := hBC.size; clear bC))
      all_goals
        go_wp2
        go_roundw
        case rel =>
          have hset := heap_setCell_same wC (w.heap.size + 1 + 1 + 1) 0 _ _ (.int .i64 (U : Int)) ((hBC.block _ y3).trans Ho.out)
          refine ⟨k + 1, by go_num, by omega, (Below.heap_setCell _ _ _ _ (by dsimp only; omega)).trans ((hBC.block _ y0).trans Ha.out), (Below.heap_setCell _ _ _ _ (by dsimp only; omega)).trans ((hBC.block _ y1).trans Hb.out), (Below.heap_setCell _ _ _ _ (by dsimp only; omega)).trans ((hBC.block _ (by omega)).trans Hz.out), ?_, ?_⟩
          · rw [Hst.out, ← HT.out, show s0 + (sumT ax az bx bz k + T) = U from by have := HS.out; have := HU.out; omega]
            exact hset
          · exact (hB.trans (hBC.mono zb)).setCell (by dsimp only; omega) _
        case measure => simp [intOf]; omega
    · have hk5 : k = 5 := by omega
      subst hk5
      obtain ⟨F, hF⟩ : ∃ F, F = s0 + sumT ax az bx bz 5 := ⟨_, rfl⟩
      rw [← hF] at ho o0
      have hrem : (F : Int).tmod 4 = ((phM pa pb ax az bx bz : Nat) : Int) := by rw [Hph.out, ← hF]; rfl
      have hrem2 : (F : Int) % 4 = ((phM pa pb ax az bx bz : Nat) : Int) := by rw [Hph.out, ← hF]; rfl
      have hle := sumT_le ax az bx bz 5
      have hFb : F ≤ 30 := by have := Hs0b.out; omega
      have hpb : phM pa pb ax az bx bz < 4 := by rw [Hph.out]; omega
      have hrw : IntKind.wrap .i64 ((phM pa pb ax az bx bz : Nat) : Int) = ((phM pa pb ax az bx bz : Nat) : Int) := IntWalk.i64_in _ (by omega)
      have hrw' : RowKit.wrap64 ((phM pa pb ax az bx bz : Nat) : Int) = ((phM pa pb ax az bx bz : Nat) : Int) := IntWalk.wrap64_in _ (by omega)
      have o1 := cell_of_row wr (w.heap.size + 1 + 1 + 1) 1 _ _ _ ho
      have o2 := cell_of_row wr (w.heap.size + 1 + 1 + 1) 2 _ _ _ ho
      have z0 := cell_of_row wr (w.heap.size + 1 + 1) 0 _ _ _ hz
      have z1 := cell_of_row wr (w.heap.size + 1 + 1) 1 _ _ _ hz
      have z2 := cell_of_row wr (w.heap.size + 1 + 1) 2 _ _ _ hz
      have zf := fun o => frozen_of_row wr (w.heap.size + 1 + 1) o _ _ hz
      clear ha hb hz ho hF hFb hle hpb Ho
      go_wp2
      refine bodyPost_ret (by simp [results, Try.results61, go_sem, z0, z1, z2]) rfl ⟨rfl, ?_⟩
      go_grown
end Go.Proofs.Ytcmkkjdleihjfaa
