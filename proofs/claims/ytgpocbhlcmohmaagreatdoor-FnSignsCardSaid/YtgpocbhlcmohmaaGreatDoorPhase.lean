/- PhaseOf, of the program and of the reference. -/
import Derived.Test.YtgpocbhlcmohmaaGreatDoorLow
import Derived.Laws.StructEq
namespace Go.Proofs.YtgpocbhlcmohmaaGreatDoor
open Go.RowKit

/-- what '==' gives at two dyadic numbers -/
def dEq (a b c d e a' b' c' d' e' : Int) : Bool := (a == a' && (b == b' && (c == c' && d == d'))) && e == e'

theorem Tryz.stoodD : Tryz.prog.stoodInHeld 31 = false := by kernel_rfl
theorem Tryz.stoodR : Tryz.prog.stoodInHeld 29 = false := by kernel_rfl
theorem Tryz.guardD : Tryz.prog.eqGuardType Tryz.prog.depth 31 = false := by kernel_rfl
theorem Tryz.guardR : Tryz.prog.eqGuardType Tryz.prog.depth 29 = false := by kernel_rfl

theorem run_eqD (a b c d e a' b' c' d' e' : Int) (w : World) : (binOp .eql 31 (dv a b c d e) (dv a' b' c' d' e')).run Tryz.prog w = .ok (.bool (dEq a b c d e a' b' c' d' e')) w := by
  rw [run_eql_struct, run_equalIn_agg w 9999 31 _ _ (by kernel_rfl) Tryz.stoodD]
  simp only [Program.fieldsOf, Tryz.underlying31]
  by_cases h1 : a = a' <;> by_cases h2 : b = b' <;> by_cases h3 : c = c' <;> by_cases h4 : d = d' <;> by_cases h5 : e = e' <;> simp [go_sem, dEq, h1, h2, h3, h4, h5]
theorem run_gdD (op : BinOp) (t : TypeId) (x y : Operand) (xs ys : Array Value) (w : World) (ht : t = 31) : (eqGuard op t x y (.agg xs) (.agg ys)).run Tryz.prog w = .ok () w := by
  subst ht
  exact run_eqGuard_agg w op _ x y xs ys Tryz.guardD

def powQ (k : Nat) : Q4 := turnN k (1, 0, 0, 0)
def isPow (k : Nat) (a b c d e : Int) : Bool := dEq a b c d e (powQ k).1 (powQ k).2.1 (powQ k).2.2.1 (powQ k).2.2.2 0
/-- the search from k on, n tries -/
def phGo (a b c d e : Int) : Nat → Nat → Int × Bool
  | 0, _ => (0, false)
  | n + 1, k => if isPow k a b c d e then ((k : Int), true) else phGo a b c d e n (k + 1)
theorem phGo_yes {a b c d e : Int} {k : Nat} (hk : k < 8) (h : isPow k a b c d e = true) : phGo a b c d e (8 - k) k = ((k : Int), true) := by
  rw [show 8 - k = (7 - k) + 1 from by omega]
  simp [phGo, h]
theorem phGo_no {a b c d e : Int} {k : Nat} (hk : k < 8) (h : isPow k a b c d e = false) : phGo a b c d e (8 - k) k = phGo a b c d e (8 - (k + 1)) (k + 1) := by
  rw [show 8 - k = (8 - (k + 1)) + 1 from by omega]
  simp [phGo, h]
theorem omN_small {k : Nat} (hk : k < 8) : omN (k : Int) = k := by
  unfold omN
  rw [Int.tmod_eq_emod_of_nonneg (by omega)]
  omega
def phRes (a b c d e : Int) : Value := .tuple #[.int .i64 (phGo a b c d e 8 0).1, .bool (phGo a b c d e 8 0).2]

set_option maxHeartbeats 1000000 in
theorem l2Power_any (k : Nat) (w : World) (hk : k < 8) :
    Calls Tryz.prog 26 #[.int .i64 (k : Int)] w fun r w' => r = .returned (dv (powQ k).1 (powQ k).2.1 (powQ k).2.2.1 (powQ k).2.2.2 0) ∧ Below w.heap.size w w' := by
  have Hom := Lib.hid (omN_small hk)
  have H : Hid (∀ W, Calls Tryz.prog 41 #[rv 1 0 0 0, .int .i64 (k : Int)] W fun r w' => r = .returned (rv (powQ k).1 (powQ k).2.1 (powQ k).2.2.1 (powQ k).2.2.2) ∧ Below W.heap.size W w') := by
    intro W
    have := l1Turn_any 1 0 0 0 (k : Int) W (by decide)
    rw [Hom.out] at this
    exact this
  go_enter Tryz.func26, Tryz.ntmps26
  go_wp2_with fail
  refine (H.out _).mono ?_
  rintro e w1 ⟨rfl, b1⟩
  obtain ⟨b1c, b1f⟩ := bcell b1
  have z1 := b1.size
  try simp only [World.size_alloc] at z1
  have B1 : Below w.heap.size w w1 := Below.chain (Below.refl _ _) (by go_grown) b1 (by go_size)
  have y10 : w.heap.size < w1.heap.size := by omega
  go_wp2
  refine bodyPost_ret (by simp [results, Tryz.results26, go_sem, b1c]) rfl ⟨rfl, ?_⟩
  go_grown

set_option maxHeartbeats 1000000 in
theorem phase_any (k : Nat) (w : World) (hk : k < 8) :
    Calls Tryz.prog 25 #[.int .i64 (k : Int)] w fun r w' => r = .returned (dv (powQ k).1 (powQ k).2.1 (powQ k).2.2.1 (powQ k).2.2.2 0) ∧ Below w.heap.size w w' := by
  have Hom := Lib.hid (omN_small hk)
  have H : Hid (∀ W, Calls Tryz.prog 40 #[rv 1 0 0 0, .int .i64 (k : Int)] W fun r w' => r = .returned (.tuple #[rv (powQ k).1 (powQ k).2.1 (powQ k).2.2.1 (powQ k).2.2.2, .bool true]) ∧ Below W.heap.size W w') := by
    intro W
    have h := implOm_any 1 0 0 0 (k : Int) W
    have e : omRes 1 0 0 0 (k : Int) = .tuple #[rv (powQ k).1 (powQ k).2.1 (powQ k).2.2.1 (powQ k).2.2.2, .bool true] := by
      have h1 : omOk 1 0 0 0 (k : Int) = true := by
        have : inB (k : Int) (-1000) 1000 = true := inB_t.2 (by omega)
        simp [omOk, this]
        decide
      simp only [omRes, h1, rI_t, Hom.out]
      rfl
    rw [e] at h
    exact h
  go_enter Tryz.func25, Tryz.ntmps25
  go_wp2_with fail
  refine (H.out _).mono ?_
  rintro e w1 ⟨rfl, b1⟩
  obtain ⟨b1c, b1f⟩ := bcell b1
  have z1 := b1.size
  try simp only [World.size_alloc] at z1
  have B1 : Below w.heap.size w w1 := Below.chain (Below.refl _ _) (by go_grown) b1 (by go_size)
  have y10 : w.heap.size < w1.heap.size := by omega
  go_wp2
  refine bodyPost_ret (by simp [results, Tryz.results25, go_sem, b1c, y10]) rfl ⟨rfl, ?_⟩
  go_grown

set_option maxHeartbeats 2000000 in
theorem specPhase_any (a b c d e : Int) (w : World) :
    Calls Tryz.prog 12 #[dv a b c d e] w fun r w' => r = .returned (phRes a b c d e) ∧ Below w.heap.size w w' := by
  have heq := fun (a' b' c' d' e' : Int) (W : World) => run_eqD a b c d e a' b' c' d' e' W
  have hgd := fun (x y : Operand) (xs ys : Array Value) (W : World) => run_gdD .eql 31 x y xs ys W rfl
  go_enter Tryz.func12, Tryz.ntmps12
  go_wp2_with fail
  go_loopw [4] (fun i wr => ∃ k : Nat, i = .int .i64 k ∧ k ≤ 8 ∧ phGo a b c d e (8 - k) k = phGo a b c d e 8 0 ∧ Below w.heap.size w wr ∧ wr.heap[w.heap.size]? = some (.cells #[.int .i64 a, .int .i64 b, .int .i64 c, .int .i64 d, .int .i64 e] 31 (0, 0))) (fun i _ => 8 - (intOf i).toNat)
  case atStart => exact ⟨0, rfl, by omega, rfl, by go_grown, heap_top _ _ rfl⟩
  case round =>
    obtain ⟨k, rfl, hk, hgo, hbl, hb⟩ := hrel
    have Hgo := Lib.hid hgo
    have Hb := Lib.hid hb
    have hc := fun o => cell_of_row wr w.heap.size o _ _ _ hb
    have yr0 : w.heap.size < wr.heap.size := (Array.getElem?_eq_some_iff.1 hb).1
    clear hgo hb
    by_cases hlt : k < 8
    · have Hlt := Lib.hid hlt
      have Hp : Hid (isPow k a b c d e = dEq a b c d e (powQ k).1 (powQ k).2.1 (powQ k).2.2.1 (powQ k).2.2.2 0) := rfl
      rcases hp : isPow k a b c d e with _ | _
      · have hpe := Hp.out.symm.trans hp
        have Hno := Lib.hid (phGo_no hlt hp)
        go_wp2_with fail
        go_region_held3 (fun w' => (∀ b o, b < wr.heap.size → w'.cell? ⟨b, o, none⟩ = wr.cell? ⟨b, o, none⟩) ∧ Below wr.heap.size wr w') ((refine SB_mk ?_; go_grown)) (first | (go_at_call 26; refine (l2Power_any _ _ Hlt.out).mono ?_; rintro e wA ⟨rfl, bA⟩; obtain ⟨bAc, bAf⟩ := bcell bA; (try with_reducible have yA := lt_size bA); (try with_reducible have yA := lt_sizeD bA); (try with_reducible have yB := Nat.lt_of_lt_of_le (by assumption) bA.size); have sA := (SB_step (W := wr) (by with_reducible assumption) bA).2; have zA := sA.size))
        go_wp2
        go_roundw
        case rel => exact ⟨k + 1, by go_num, by omega, by rw [← Hno.out, Hgo.out], hbl.trans (sA.mono (by omega)), (sA.block _ yr0).trans Hb.out⟩
        case measure => simp [intOf]; omega
      · have hpe := Hp.out.symm.trans hp
        have Hyes := Lib.hid (phGo_yes hlt hp)
        go_wp2_with fail
        go_region_held3 (fun w' => (∀ b o, b < wr.heap.size → w'.cell? ⟨b, o, none⟩ = wr.cell? ⟨b, o, none⟩) ∧ Below wr.heap.size wr w') ((refine SB_mk ?_; go_grown)) (first | (go_at_call 26; refine (l2Power_any _ _ Hlt.out).mono ?_; rintro e wA ⟨rfl, bA⟩; obtain ⟨bAc, bAf⟩ := bcell bA; (try with_reducible have yA := lt_size bA); (try with_reducible have yA := lt_sizeD bA); (try with_reducible have yB := Nat.lt_of_lt_of_le (by assumption) bA.size); have sA := (SB_step (W := wr) (by with_reducible assumption) bA).2; have zA := sA.size))
        go_wp2
        go_ret2
        exact ⟨by simp only [phRes, ← Hgo.out, Hyes.out]; rfl, hbl.trans (sA.mono (by omega))⟩
    · have Hend : Hid (phGo a b c d e 8 0 = (0, false)) := by
        have := Hgo.out
        rw [show 8 - k = 0 from by omega] at this
        exact this.symm
      go_wp2
      go_ret2
      exact ⟨by simp only [phRes, Hend.out]; rfl, hbl⟩

set_option maxHeartbeats 2000000 in
theorem implPhase_any (a b c d e : Int) (w : World) :
    Calls Tryz.prog 11 #[dv a b c d e] w fun r w' => r = .returned (phRes a b c d e) ∧ Below w.heap.size w w' := by
  have heq := fun (a' b' c' d' e' : Int) (W : World) => run_eqD a b c d e a' b' c' d' e' W
  have hgd := fun (x y : Operand) (xs ys : Array Value) (W : World) => run_gdD .eql 31 x y xs ys W rfl
  go_enter Tryz.func11, Tryz.ntmps11
  go_wp2_with fail
  go_loopw [5] (fun i wr => ∃ k : Nat, i = .int .i64 k ∧ k ≤ 8 ∧ phGo a b c d e (8 - k) k = phGo a b c d e 8 0 ∧ Below w.heap.size w wr ∧ wr.heap[w.heap.size]? = some (.cells #[.int .i64 a, .int .i64 b, .int .i64 c, .int .i64 d, .int .i64 e] 31 (0, 0))) (fun i _ => 8 - (intOf i).toNat)
  case atStart => exact ⟨0, rfl, by omega, rfl, by go_grown, heap_top _ _ rfl⟩
  case round =>
    obtain ⟨k, rfl, hk, hgo, hbl, hb⟩ := hrel
    have Hgo := Lib.hid hgo
    have Hb := Lib.hid hb
    have hc := fun o => cell_of_row wr w.heap.size o _ _ _ hb
    have yr0 : w.heap.size < wr.heap.size := (Array.getElem?_eq_some_iff.1 hb).1
    clear hgo hb
    by_cases hlt : k < 8
    · have Hlt := Lib.hid hlt
      have Hp : Hid (isPow k a b c d e = dEq a b c d e (powQ k).1 (powQ k).2.1 (powQ k).2.2.1 (powQ k).2.2.2 0) := rfl
      rcases hp : isPow k a b c d e with _ | _
      · have hpe := Hp.out.symm.trans hp
        have Hno := Lib.hid (phGo_no hlt hp)
        go_wp2_with fail
        go_region_held3 (fun w' => (∀ b o, b < wr.heap.size → w'.cell? ⟨b, o, none⟩ = wr.cell? ⟨b, o, none⟩) ∧ Below wr.heap.size wr w') ((refine SB_mk ?_; go_grown)) (first | (go_at_call 25; refine (phase_any _ _ Hlt.out).mono ?_; rintro e wA ⟨rfl, bA⟩; obtain ⟨bAc, bAf⟩ := bcell bA; (try with_reducible have yA := lt_size bA); (try with_reducible have yA := lt_sizeD bA); (try with_reducible have yB := Nat.lt_of_lt_of_le (by assumption) bA.size); have sA := (SB_step (W := wr) (by with_reducible assumption) bA).2; have zA := sA.size))
        go_wp2
        go_roundw
        case rel => exact ⟨k + 1, by go_num, by omega, by rw [← Hno.out, Hgo.out], hbl.trans (sA.mono (by omega)), (sA.block _ yr0).trans Hb.out⟩
        case measure => simp [intOf]; omega
      · have hpe := Hp.out.symm.trans hp
        have Hyes := Lib.hid (phGo_yes hlt hp)
        go_wp2_with fail
        go_region_held3 (fun w' => (∀ b o, b < wr.heap.size → w'.cell? ⟨b, o, none⟩ = wr.cell? ⟨b, o, none⟩) ∧ Below wr.heap.size wr w') ((refine SB_mk ?_; go_grown)) (first | (go_at_call 25; refine (phase_any _ _ Hlt.out).mono ?_; rintro e wA ⟨rfl, bA⟩; obtain ⟨bAc, bAf⟩ := bcell bA; (try with_reducible have yA := lt_size bA); (try with_reducible have yA := lt_sizeD bA); (try with_reducible have yB := Nat.lt_of_lt_of_le (by assumption) bA.size); have sA := (SB_step (W := wr) (by with_reducible assumption) bA).2; have zA := sA.size))
        go_wp2
        go_ret2
        exact ⟨by simp only [phRes, ← Hgo.out, Hyes.out]; rfl, hbl.trans (sA.mono (by omega))⟩
    · have Hend : Hid (phGo a b c d e 8 0 = (0, false)) := by
        have := Hgo.out
        rw [show 8 - k = 0 from by omega] at this
        exact this.symm
      go_wp2
      go_ret2
      exact ⟨by simp only [phRes, Hend.out]; rfl, hbl⟩

end Go.Proofs.YtgpocbhlcmohmaaGreatDoor
