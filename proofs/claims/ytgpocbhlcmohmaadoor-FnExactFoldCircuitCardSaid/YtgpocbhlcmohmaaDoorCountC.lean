/- Counting gates: counted over any predicate, CountT, CountTwo, IsClifford, of the program and of the reference. -/
import Derived.Test.YtgpocbhlcmohmaaDoorGoodC
namespace Go.Proofs.YtgpocbhlcmohmaaDoor
open Go.RowKit

/-- how many gates are of a kind -/
def cntG (p : Int → Bool) (xs : List G3) : Nat := (xs.filter fun x => p x.1).length
theorem cntG_step {p : Int → Bool} {xs : List G3} {k : Nat} {x : G3} (h : xs[k]? = some x) : cntG p (xs.take (k + 1)) = cntG p (xs.take k) + (if p x.1 then 1 else 0) := by
  obtain ⟨hk, rfl⟩ := List.getElem?_eq_some_iff.1 h
  unfold cntG
  rw [List.take_succ_eq_append_getElem hk, List.filter_append, List.length_append]
  rcases hp : p (xs[k]).1 with _ | _ <;> simp [hp]
theorem cntG_le (p : Int → Bool) (xs : List G3) : cntG p xs ≤ xs.length := List.length_filter_le _ _
theorem cntG_take (p : Int → Bool) (xs : List G3) (k : Nat) : cntG p (xs.take k) ≤ xs.length := Nat.le_trans (cntG_le _ _) (by rw [List.length_take]; omega)
def cntRes (p : Int → Bool) (q : Int) (xs : List G3) : Value := .tuple #[.int .i64 (rI (cOk q xs) (cntG p xs : Int)), .bool (cOk q xs)]
theorem cOk_len {q : Int} {xs : List G3} (h : cOk q xs = true) : xs.length ≤ 400 := by
  simp only [cOk, Bool.and_eq_true, decide_eq_true_eq] at h
  exact h.1.2
theorem cOk_q {q : Int} {xs : List G3} (h : cOk q xs = true) : 1 ≤ q ∧ q ≤ 5 := by
  simp only [cOk, Bool.and_eq_true, decide_eq_true_eq] at h
  exact inB_t.1 h.1.1

def cliffK (k : Int) : Bool := inB k 7 8 || k == 12

theorem isTwo_any' (k : Int) (w : World) : Calls Tryd.prog 57 #[.int .i64 k] w fun e w' => e = .returned (.bool (inB k 9 11)) ∧ w = w' := isTwo_any k w

def cliffRes (q : Int) (xs : List G3) : Value := .tuple #[.bool (cOk q xs && cntG cliffK xs == 0), .bool (cOk q xs)]

theorem cliff_split (xs : List G3) : ((cntG (fun k => inB k 7 8) xs : Int) + (cntG (fun k => inB k 12 12) xs : Int) == 0) = (cntG cliffK xs == 0) := by
  have h : cntG cliffK xs = cntG (fun k => inB k 7 8) xs + cntG (fun k => inB k 12 12) xs := by
    induction xs with
    | nil => rfl
    | cons x xs ih =>
      have e12 : inB x.1 12 12 = (x.1 == 12) := by rw [Bool.eq_iff_iff, inB_t]; simp; omega
      unfold cntG at ih ⊢
      rcases h1 : inB x.1 7 8 with _ | _
      · rcases h2 : (x.1 == 12) with _ | _
        · simp only [List.filter_cons, cliffK, h1, h2, e12, Bool.or_self, Bool.false_eq_true, if_false]
          exact ih
        · simp only [List.filter_cons, cliffK, h1, h2, e12, Bool.or_true, Bool.false_eq_true, if_false, if_true, List.length_cons]
          simp only [cliffK] at ih
          omega
      · have h2 : (x.1 == 12) = false := by have := inB_t.1 h1; simp; omega
        simp only [List.filter_cons, cliffK, h1, h2, e12, Bool.true_or, Bool.false_eq_true, if_false, if_true, List.length_cons]
        simp only [cliffK] at ih
        omega
  rw [h, Bool.eq_iff_iff]
  simp
  omega

end Go.Proofs.YtgpocbhlcmohmaaDoor
