/- EqualMatrices, of the program and of the reference; slices.Equal at dyadic numbers. -/
import Derived.Test.YtcmkkjdleihjfaaMx
import Derived.Test.YtcmkkjdleihjfaaPhase
namespace Go.Proofs.Ytcmkkjdleihjfaa
open Go.RowKit

def dEqD (x y : D5) : Bool := dEq x.1.1 x.1.2.1 x.1.2.2.1 x.1.2.2.2 x.2 y.1.1 y.1.2.1 y.1.2.2.1 y.1.2.2.2 y.2
theorem dEqD_iff {x y : D5} : dEqD x y = true ↔ x = y := by
  obtain ⟨⟨a, b, c, d⟩, e⟩ := x
  obtain ⟨⟨a', b', c', d'⟩, e'⟩ := y
  simp [dEqD, dEq, and_assoc]
theorem run_neD (a b c d e a' b' c' d' e' : Int) (w : World) : (binOp .neq 52 (dv a b c d e) (dv a' b' c' d' e')).run Try.prog w = .ok (.bool (!dEq a b c d e a' b' c' d' e')) w := by
  rw [run_neq_struct, run_equalIn_agg w 9999 52 _ _ (by kernel_rfl) Try.stoodD]
  simp only [Program.fieldsOf, Try.underlying52]
  by_cases h1 : a = a' <;> by_cases h2 : b = b' <;> by_cases h3 : c = c' <;> by_cases h4 : d = d' <;> by_cases h5 : e = e' <;> simp [go_sem, dEq, h1, h2, h3, h4, h5]
theorem take_eq_step {xs ys : List D5} {k : Nat} {x y : D5} (hx : xs[k]? = some x) (hy : ys[k]? = some y) (h : xs.take k = ys.take k) : xs.take (k + 1) = ys.take (k + 1) ↔ x = y := by
  obtain ⟨h1, rfl⟩ := List.getElem?_eq_some_iff.1 hx
  obtain ⟨h2, rfl⟩ := List.getElem?_eq_some_iff.1 hy
  rw [List.take_succ_eq_append_getElem h1, List.take_succ_eq_append_getElem h2, h]
  exact ⟨fun e => by simpa using List.append_cancel_left e, fun e => by rw [e]⟩
theorem Below.drewN {B : Nat} {a w : World} (h : Below B a w) (n : Nat) : Below B a (w.drewN n) := ⟨h.os, h.tape, h.output, h.size, h.block⟩
def eqDs (xs ys : List D5) : Bool := decide (xs = ys)

set_option maxHeartbeats 4000000 in
theorem equalD_any (A A' : Option Addr) (cap cap' : Nat) (xs ys : List D5) (w : World) (hn : xs.length ≤ 1048576) (hx : Hid (FlatAt w A (flatD xs))) (hy : Hid (FlatAt w A' (flatD ys))) :
    Calls Try.prog 127 #[.slice A xs.length cap, .slice A' ys.length cap'] w fun e w' => e = .returned (.bool (eqDs xs ys)) ∧ Below w.heap.size w w' := by
  have heq := fun (a b c d e a' b' c' d' e' : Int) (W : World) => run_neD a b c d e a' b' c' d' e' W
  have hgd := fun (x y : Operand) (xs ys : Array Value) (W : World) => run_gdD .neq 52 x y xs ys W rfl
  by_cases hl : xs.length = ys.length
  · have Hl := Lib.hid hl
    have hli : (ys.length : Int) = (xs.length : Int) := by omega
    go_enter Try.func127, Try.ntmps127
    go_wp2_with fail
    go_loopw [13] (fun i wr => ∃ k : Nat, i = .int .i64 k ∧ k ≤ xs.length ∧ xs.take k = ys.take k ∧ Below w.heap.size w wr) (fun i _ => xs.length - (intOf i).toNat)
    case atStart => exact ⟨0, rfl, Nat.zero_le _, rfl, Below.refl _ _⟩
    case round =>
      obtain ⟨k, rfl, hk, htk, hb⟩ := hrel
      have Htk := Lib.hid htk
      clear htk
      by_cases hlt : k < xs.length
      · obtain ⟨x, hkx⟩ : ∃ x, xs[k]? = some x := ⟨_, List.getElem?_eq_getElem hlt⟩
        obtain ⟨y, hky⟩ : ∃ y, ys[k]? = some y := ⟨_, List.getElem?_eq_getElem (by have := Hl.out; omega)⟩
        obtain ⟨b, off, rfl, hbl, hc⟩ := hx.out.five hkx
        obtain ⟨b', off', rfl, hbl', hc'⟩ := hy.out.five hky
        have Hst := Lib.hid (take_eq_step hkx hky Htk.out)
        clear hkx hky
        obtain ⟨c0, c1, c2, c3, c4⟩ := hc.below hb hbl
        obtain ⟨c0', c1', c2', c3', c4'⟩ := hc'.below hb hbl'
        clear hc hc'
        have hki : (k : Int) < (xs.length : Int) := by omega
        have hki' : (k : Int) < (ys.length : Int) := by omega
        rcases hd : dEqD x y with _ | _
        · have hd' : dEq x.1.1 x.1.2.1 x.1.2.2.1 x.1.2.2.2 x.2 y.1.1 y.1.2.1 y.1.2.2.1 y.1.2.2.2 y.2 = false := hd
          go_wp2_with fail
          go_quiet (fail)
          go_wp2
          go_ret
          refine ⟨ret_bool ?_, ?_⟩
          · symm
            rw [eqDs, decide_eq_false_iff_not]
            intro h
            have := Hst.out.1 (by rw [h])
            rw [← dEqD_iff, hd] at this
            cases this
          · exact Below.drewN hb nq
        · have hd' : dEq x.1.1 x.1.2.1 x.1.2.2.1 x.1.2.2.2 x.2 y.1.1 y.1.2.1 y.1.2.2.1 y.1.2.2.2 y.2 = true := hd
          go_wp2_with fail
          go_quiet (fail)
          go_wp2
          go_roundw
          case rel => exact ⟨k + 1, by go_num, by omega, Hst.out.2 (dEqD_iff.1 hd), Below.drewN hb nq⟩
          case measure => simp [intOf]; omega
      · go_wp2
        go_ret
        refine ⟨ret_bool ?_, hb⟩
        have h := Htk.out
        rw [List.take_of_length_le (by omega), List.take_of_length_le (by have := Hl.out; omega)] at h
        simp [eqDs, h]
  · have hne : eqDs xs ys = false := by
      rw [eqDs, decide_eq_false_iff_not]
      intro h
      exact hl (by rw [h])
    have hli : ¬ (xs.length : Int) = (ys.length : Int) := by omega
    go_enter Try.func127, Try.ntmps127
    go_wp2
    go_ret
    exact ⟨ret_bool hne.symm, Below.refl _ _⟩
def meqB (r c : Int) (xs : List D5) (r' c' : Int) (ys : List D5) : Bool := r == r' && c == c' && eqDs xs ys

set_option maxHeartbeats 4000000 in
theorem implEqM_any (r c : Int) (A : Option Addr) (cap : Nat) (xs : List D5) (r' c' : Int) (A' : Option Addr) (cap' : Nat) (ys : List D5) (w : World) (hn : xs.length ≤ 1048576) (hx : Hid (FlatAt w A (flatD xs))) (hy : Hid (FlatAt w A' (flatD ys))) :
    Calls Try.prog 93 #[mv r c A xs.length cap, mv r' c' A' ys.length cap'] w fun e w' => e = .returned (.bool (meqB r c xs r' c' ys)) ∧ Below w.heap.size w w' := by
  by_cases h1 : r = r'
  · subst h1
    by_cases h2 : c = c'
    · subst h2
      go_enter Try.func93, Try.ntmps93
      go_wp2_with fail
      refine (equalD_any A A' cap cap' xs ys _ hn ((hx.out.alloc _).alloc _) ((hy.out.alloc _).alloc _)).mono ?_
      rintro e w1 ⟨rfl, b1⟩
      have B1 : Below w.heap.size w w1 := Below.chain (Below.refl _ _) (by go_grown) b1 (by go_size)
      go_wp2
      go_ret
      exact ⟨ret_bool (by simp [meqB]), B1⟩
    · go_enter Try.func93, Try.ntmps93
      go_wp2
      go_ret
      refine ⟨ret_bool (by simp [meqB, h2]), ?_⟩
      go_grown
  · go_enter Try.func93, Try.ntmps93
    go_wp2
    go_ret
    refine ⟨ret_bool (by simp [meqB, h1]), ?_⟩
    go_grown

end Go.Proofs.Ytcmkkjdleihjfaa
