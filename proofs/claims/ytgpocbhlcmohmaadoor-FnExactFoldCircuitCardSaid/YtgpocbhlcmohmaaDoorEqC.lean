/- EqualCircuits, of the program and of the reference; slices.Equal at gates. -/
import Derived.Test.YtgpocbhlcmohmaaDoorCx
import Derived.Laws.StructEq
namespace Go.Proofs.YtgpocbhlcmohmaaDoor
open Go.RowKit

theorem Tryd.stoodG : Tryd.prog.stoodInHeld 41 = false := by kernel_rfl
theorem Tryd.guardG : Tryd.prog.eqGuardType Tryd.prog.depth 41 = false := by kernel_rfl
/-- what '==' gives at two gates -/
def gEq (a b c a' b' c' : Int) : Bool := a == a' && (b == b' && c == c')
def gEqG (x y : G3) : Bool := gEq x.1 x.2.1 x.2.2 y.1 y.2.1 y.2.2
theorem gEqG_iff {x y : G3} : gEqG x y = true ↔ x = y := by
  obtain ⟨a, b, c⟩ := x
  obtain ⟨a', b', c'⟩ := y
  simp [gEqG, gEq]
theorem run_neG (a b c a' b' c' : Int) (w : World) : (binOp .neq 41 (tv a b c) (tv a' b' c')).run Tryd.prog w = .ok (.bool (!gEq a b c a' b' c')) w := by
  rw [run_neq_struct, run_equalIn_agg w 9999 41 _ _ (by kernel_rfl) Tryd.stoodG]
  simp only [Program.fieldsOf, Tryd.underlying41]
  by_cases h1 : a = a' <;> by_cases h2 : b = b' <;> by_cases h3 : c = c' <;> simp [go_sem, gEq, h1, h2, h3]
theorem run_gdG (op : BinOp) (t : TypeId) (x y : Operand) (xs ys : Array Value) (w : World) (ht : t = 41) : (eqGuard op t x y (.agg xs) (.agg ys)).run Tryd.prog w = .ok () w := by
  subst ht
  exact run_eqGuard_agg w op _ x y xs ys Tryd.guardG
theorem take_eq_stepG {xs ys : List G3} {k : Nat} {x y : G3} (hx : xs[k]? = some x) (hy : ys[k]? = some y) (h : xs.take k = ys.take k) : xs.take (k + 1) = ys.take (k + 1) ↔ x = y := by
  obtain ⟨h1, rfl⟩ := List.getElem?_eq_some_iff.1 hx
  obtain ⟨h2, rfl⟩ := List.getElem?_eq_some_iff.1 hy
  rw [List.take_succ_eq_append_getElem h1, List.take_succ_eq_append_getElem h2, h]
  exact ⟨fun e => by simpa using List.append_cancel_left e, fun e => by rw [e]⟩
theorem Below.drewNG {B : Nat} {a w : World} (h : Below B a w) (n : Nat) : Below B a (w.drewN n) := ⟨h.os, h.tape, h.output, h.size, h.block⟩
def eqGs (xs ys : List G3) : Bool := decide (xs = ys)

set_option maxHeartbeats 4000000 in
theorem equalG_any (A A' : Option Addr) (cap cap' : Nat) (xs ys : List G3) (w : World) (hn : xs.length ≤ 1048576) (hx : Hid (FlatAt w A (flatG xs))) (hy : Hid (FlatAt w A' (flatG ys))) :
    Calls Tryd.prog 89 #[.slice A xs.length cap, .slice A' ys.length cap'] w fun e w' => e = .returned (.bool (eqGs xs ys)) ∧ Below w.heap.size w w' := by
  have heq := fun (a b c a' b' c' : Int) (W : World) => run_neG a b c a' b' c' W
  have hgd := fun (x y : Operand) (xs ys : Array Value) (W : World) => run_gdG .neq 41 x y xs ys W rfl
  by_cases hl : xs.length = ys.length
  · have Hl := Lib.hid hl
    have hli : (ys.length : Int) = (xs.length : Int) := by omega
    go_enter Tryd.func89, Tryd.ntmps89
    go_wp2_with fail
    go_loopw [13] (fun i wr => ∃ k : Nat, i = .int .i64 k ∧ k ≤ xs.length ∧ xs.take k = ys.take k ∧ Below w.heap.size w wr) (fun i _ => xs.length - (intOf i).toNat)
    case atStart => exact ⟨0, rfl, Nat.zero_le _, rfl, Below.refl _ _⟩
    case round =>
      obtain ⟨k, rfl, hk, htk, hb⟩ := hrel
      have Htk := Lib.hid htk
      clear htk
      by_cases hlt : k < xs.length
      · obtain ⟨x, hkx⟩ : ∃ x, xs[k]? = some x := ⟨_, List.getElem?_eq_getElem hlt⟩
        obtain ⟨y, hky⟩ : ∃ y, ys[k]? = some y := ⟨_, List.getElem?_eq_getElem (by have := Hl.out; omega)⟩
        obtain ⟨b, off, rfl, hbl, hc⟩ := hx.out.three hkx
        obtain ⟨b', off', rfl, hbl', hc'⟩ := hy.out.three hky
        have Hst := Lib.hid (take_eq_stepG hkx hky Htk.out)
        clear hkx hky
        obtain ⟨c0, c1, c2⟩ := hc.below hb hbl
        obtain ⟨c0', c1', c2'⟩ := hc'.below hb hbl'
        clear hc hc'
        have hki : (k : Int) < (xs.length : Int) := by omega
        have hki' : (k : Int) < (ys.length : Int) := by omega
        rcases hd : gEqG x y with _ | _
        · have hd' : gEq x.1 x.2.1 x.2.2 y.1 y.2.1 y.2.2 = false := hd
          go_wp2_with fail
          go_quiet (fail)
          go_wp2
          go_ret
          refine ⟨ret_bool ?_, ?_⟩
          · symm
            rw [eqGs, decide_eq_false_iff_not]
            intro h
            have := Hst.out.1 (by rw [h])
            rw [← gEqG_iff, hd] at this
            cases this
          · exact Below.drewNG hb nq
        · have hd' : gEq x.1 x.2.1 x.2.2 y.1 y.2.1 y.2.2 = true := hd
          go_wp2_with fail
          go_quiet (fail)
          go_wp2
          go_roundw
          case rel => exact ⟨k + 1, by go_num, by omega, Hst.out.2 (gEqG_iff.1 hd), Below.drewNG hb nq⟩
          case measure => simp [intOf]; omega
      · go_wp2
        go_ret
        refine ⟨ret_bool ?_, hb⟩
        have h := Htk.out
        rw [List.take_of_length_le (by omega), List.take_of_length_le (by have := Hl.out; omega)] at h
        simp [eqGs, h]
  · have hne : eqGs xs ys = false := by
      rw [eqGs, decide_eq_false_iff_not]
      intro h
      exact hl (by rw [h])
    have hli : ¬ (xs.length : Int) = (ys.length : Int) := by omega
    go_enter Tryd.func89, Tryd.ntmps89
    go_wp2
    go_ret
    exact ⟨ret_bool hne.symm, Below.refl _ _⟩
def ceqB (q : Int) (xs : List G3) (q' : Int) (ys : List G3) : Bool := q == q' && eqGs xs ys

end Go.Proofs.YtgpocbhlcmohmaaDoor
