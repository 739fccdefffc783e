/- EqualCircuits, of the program and of the reference; slices.Equal at gates. -/
import Derived.Test.YtlihnipbdckmkaaCx
import Derived.Laws.StructEq
namespace Go.Proofs.Ytlihnipbdckmkaa
open Go.RowKit

theorem Try.stoodG : Try.prog.stoodInHeld 29 = false := by kernel_rfl
theorem Try.guardG : Try.prog.eqGuardType Try.prog.depth 29 = false := by kernel_rfl
/-- what '==' gives at two gates -/
def gEq (a b c a' b' c' : Int) : Bool := a == a' && (b == b' && c == c')
def gEqG (x y : G3) : Bool := gEq x.1 x.2.1 x.2.2 y.1 y.2.1 y.2.2
theorem gEqG_iff {x y : G3} : gEqG x y = true ↔ x = y := by
  obtain ⟨a, b, c⟩ := x
  obtain ⟨a', b', c'⟩ := y
  simp [gEqG, gEq]
theorem run_neG (a b c a' b' c' : Int) (w : World) : (binOp .neq 29 (tv a b c) (tv a' b' c')).run Try.prog w = .ok (.bool (!gEq a b c a' b' c')) w := by
  rw [run_neq_struct, run_equalIn_agg w 9999 29 _ _ (by kernel_rfl) Try.stoodG]
  simp only [Program.fieldsOf, Try.underlying29]
  by_cases h1 : a = a' <;> by_cases h2 : b = b' <;> by_cases h3 : c = c' <;> simp [go_sem, gEq, h1, h2, h3]
theorem run_gdG (op : BinOp) (t : TypeId) (x y : Operand) (xs ys : Array Value) (w : World) (ht : t = 29) : (eqGuard op t x y (.agg xs) (.agg ys)).run Try.prog w = .ok () w := by
  subst ht
  exact run_eqGuard_agg w op _ x y xs ys Try.guardG
theorem take_eq_stepG {xs ys : List G3} {k : Nat} {x y : G3} (hx : xs[k]? = some x) (hy : ys[k]? = some y) (h : xs.take k = ys.take k) : xs.take (k + 1) = ys.take (k + 1) ↔ x = y := by
  obtain ⟨h1, rfl⟩ := List.getElem?_eq_some_iff.1 hx
  obtain ⟨h2, rfl⟩ := List.getElem?_eq_some_iff.1 hy
  rw [List.take_succ_eq_append_getElem h1, List.take_succ_eq_append_getElem h2, h]
  exact ⟨fun e => by simpa using List.append_cancel_left e, fun e => by rw [e]⟩
theorem Below.drewNG {B : Nat} {a w : World} (h : Below B a w) (n : Nat) : Below B a (w.drewN n) := ⟨h.os, h.tape, h.output, h.size, h.block⟩
def eqGs (xs ys : List G3) : Bool := decide (xs = ys)

def ceqB (q : Int) (xs : List G3) (q' : Int) (ys : List G3) : Bool := q == q' && eqGs xs ys

set_option maxHeartbeats 4000000 in
theorem specEqC_any (q : Int) (A : Option Addr) (cap : Nat) (xs : List G3) (q' : Int) (A' : Option Addr) (cap' : Nat) (ys : List G3) (w : World) (hn : xs.length ≤ 1048576) (hx : Hid (FlatAt w A (flatG xs))) (hy : Hid (FlatAt w A' (flatG ys))) :
    Calls Try.prog 15 #[cv q A xs.length cap, cv q' A' ys.length cap'] w fun e w' => e = .returned (.bool (ceqB q xs q' ys)) ∧ Below w.heap.size w w' := by
  have heq := fun (a b c a' b' c' : Int) (W : World) => run_neG a b c a' b' c' W
  have hgd := fun (x y : Operand) (xs ys : Array Value) (W : World) => run_gdG .neq 29 x y xs ys W rfl
  by_cases h1 : q = q'
  · subst h1
    by_cases hl : xs.length = ys.length
    · have Hl := Lib.hid hl
      have hli : (ys.length : Int) = (xs.length : Int) := by omega
      clear hl
      go_enter Try.func15, Try.ntmps15
      go_wp2_with fail
      go_loopw [23] (fun i wr => ∃ k : Nat, i = .int .i64 k ∧ k ≤ xs.length ∧ xs.take k = ys.take k ∧ Below (w.heap.size + 2) ((w.alloc (.cells #[.int .i64 q, .slice A xs.length cap] 38)).alloc (.cells #[.int .i64 q, .slice A' ys.length cap'] 38)) wr) (fun i _ => xs.length - (intOf i).toNat)
      case atStart => exact ⟨0, rfl, Nat.zero_le _, rfl, Below.refl _ _⟩
      case round =>
        obtain ⟨k, rfl, hk, htk, hb0⟩ := hrel
        have Htk := Lib.hid htk
        have Hb0 := Lib.hid hb0
        have hb : Below w.heap.size w wr := Below.trans (by go_grown) (hb0.mono (by omega))
        have p0 : ∀ o, wr.cell? ⟨w.heap.size, o, none⟩ = _ := fun o => (hb0.cell (p := ⟨w.heap.size, o, none⟩) (by simp)).trans (cell_of_row _ w.heap.size o _ _ _ ((Below.heap_alloc _ _ _ (by go_size)).trans (heap_top _ _ rfl)))
        have p1 : ∀ o, wr.cell? ⟨w.heap.size + 1, o, none⟩ = _ := fun o => (hb0.cell (p := ⟨w.heap.size + 1, o, none⟩) (by simp)).trans (cell_of_row _ (w.heap.size + 1) o _ _ _ (heap_top _ _ (by simp)))
        clear htk hb0
        by_cases hlt : k < xs.length
        · obtain ⟨x, hkx⟩ : ∃ x, xs[k]? = some x := ⟨_, List.getElem?_eq_getElem hlt⟩
          obtain ⟨y, hky⟩ : ∃ y, ys[k]? = some y := ⟨_, List.getElem?_eq_getElem (by have := Hl.out; omega)⟩
          obtain ⟨b, off, rfl, hbl, hc⟩ := hx.out.three hkx
          obtain ⟨b', off', rfl, hbl', hc'⟩ := hy.out.three hky
          have Hst := Lib.hid (take_eq_stepG hkx hky Htk.out)
          clear hkx hky
          obtain ⟨c0, c1, c2⟩ := hc.below hb hbl
          obtain ⟨c0', c1', c2'⟩ := hc'.below hb hbl'
          clear hc hc'
          have hki : (k : Int) < (xs.length : Int) := by omega
          have hki' : (k : Int) < (ys.length : Int) := by omega
          rcases hd : gEqG x y with _ | _
          · have hd' : gEq x.1 x.2.1 x.2.2 y.1 y.2.1 y.2.2 = false := hd
            go_wp2_with fail
            go_quiet (fail)
            go_wp2
            go_ret
            refine ⟨ret_bool ?_, Below.drewNG hb nq⟩
            symm
            have : eqGs xs ys = false := by
              rw [eqGs, decide_eq_false_iff_not]
              intro h
              have := Hst.out.1 (by rw [h])
              rw [← gEqG_iff, hd] at this
              cases this
            simp [ceqB, this]
          · have hd' : gEq x.1 x.2.1 x.2.2 y.1 y.2.1 y.2.2 = true := hd
            go_wp2_with fail
            go_quiet (fail)
            go_wp2
            go_roundw
            case rel => exact ⟨k + 1, by go_num, by omega, Hst.out.2 (gEqG_iff.1 hd), Below.drewNG Hb0.out nq⟩
            case measure => simp [intOf]; omega
        · go_wp2
          go_ret
          refine ⟨ret_bool ?_, hb⟩
          have h := Htk.out
          rw [List.take_of_length_le (by omega), List.take_of_length_le (by have := Hl.out; omega)] at h
          simp [ceqB, eqGs, h]
    · have hne : eqGs xs ys = false := by
        rw [eqGs, decide_eq_false_iff_not]
        intro h
        exact hl (by rw [h])
      have hli : ¬ (xs.length : Int) = (ys.length : Int) := by omega
      go_enter Try.func15, Try.ntmps15
      go_wp2
      go_ret
      refine ⟨ret_bool (by simp [ceqB, hne]), ?_⟩
      go_grown
  · go_enter Try.func15, Try.ntmps15
    go_wp2
    go_ret
    refine ⟨ret_bool (by simp [ceqB, h1]), ?_⟩
    go_grown
end Go.Proofs.Ytlihnipbdckmkaa
