/- The inverse of a circuit: the plain law. -/
import Derived.Test.YtlihnipbdckmkaaCRes
namespace Go.Proofs.Ytlihnipbdckmkaa
open Go.RowKit

def invG (x : G3) : G3 := (invK x.1, x.2.1, x.2.2)
/-- how often the inverse of a gate is written -/
def invT (x : G3) : Nat := if x.1 = 12 then 7 else 1
def invL (xs : List G3) : List G3 := xs.reverse.flatMap fun x => List.replicate (invT x) (invG x)
theorem invT_cast (x : G3) : ((invT x : Nat) : Int) = invN x.1 := by
  unfold invT invN
  split <;> rfl
theorem invT_le (x : G3) : invT x ≤ 7 := by
  unfold invT
  split <;> omega
theorem invL_cons (x : G3) (ys : List G3) : invL (x :: ys) = invL ys ++ List.replicate (invT x) (invG x) := by simp [invL, List.flatMap_append]
theorem invL_nil : invL [] = [] := rfl
theorem invL_len : ∀ xs : List G3, (invL xs).length ≤ 7 * xs.length
  | [] => Nat.le_refl _
  | x :: ys => by
    have h := invL_len ys
    have h2 := invT_le x
    rw [invL_cons, List.length_append, List.length_replicate, List.length_cons]
    omega
theorem invL_step {xs : List G3} {k : Nat} {x : G3} (h : xs[k]? = some x) : invL (xs.drop k) = invL (xs.drop (k + 1)) ++ List.replicate (invT x) (invG x) := by
  obtain ⟨hk, rfl⟩ := List.getElem?_eq_some_iff.1 h
  rw [List.drop_eq_getElem_cons hk, invL_cons]
theorem repl_step (n : Nat) (x : G3) : List.replicate (n + 1) x = List.replicate n x ++ [x] := List.replicate_succ'
theorem gateB_inv (q k a b : Int) : gateB q (invK k) a b = gateB q k a b := by
  by_cases h5 : k = 5
  · subst h5; rfl
  by_cases h6 : k = 6
  · subst h6; rfl
  by_cases h7 : k = 7
  · subst h7; rfl
  by_cases h8 : k = 8
  · subst h8; rfl
  · have e : invK k = k := by simp [invK, h5, h6, h7, h8]
    rw [e]
theorem gOk_inv (q : Int) (x : G3) : gOkG q (invG x) = gOkG q x := gateB_inv q x.1 x.2.1 x.2.2
theorem all_inv (q : Int) : ∀ xs : List G3, xs.all (gOkG q) = true → (invL xs).all (gOkG q) = true
  | [], _ => rfl
  | x :: ys, h => by
    rw [List.all_cons, Bool.and_eq_true] at h
    rw [invL_cons, List.all_append, all_inv q ys h.2, Bool.true_and, List.all_eq_true]
    intro y hy
    rw [List.eq_of_mem_replicate hy, gOk_inv]
    exact h.1
def invOk (q : Int) (xs : List G3) : Bool := cOk q xs && decide ((invL xs).length ≤ 400)
theorem cOk_parts {q : Int} {xs : List G3} (h : cOk q xs = true) : inB q 1 5 = true ∧ xs.length ≤ 400 ∧ xs.all (gOkG q) = true := by
  unfold cOk at h
  rw [Bool.and_eq_true, Bool.and_eq_true, decide_eq_true_eq] at h
  exact ⟨h.1.1, h.1.2, h.2⟩
theorem cOk_inv {q : Int} {xs : List G3} (h : cOk q xs = true) : cOk q (invL xs) = decide ((invL xs).length ≤ 400) := by
  obtain ⟨h1, _, h3⟩ := cOk_parts h
  unfold cOk
  rw [h1, all_inv q xs h3, Bool.and_true, Bool.true_and]
theorem invOk_of {q : Int} {xs : List G3} (h : cOk q xs = true) : cOk q (invL xs) = invOk q xs := by
  rw [cOk_inv h, invOk, h, Bool.true_and]
theorem inv_one {q : Int} {xs : List G3} {k : Nat} {x : G3} (h : cOk q xs = true) (hk : xs[k]? = some x) : gateB 5 x.1 x.2.1 x.2.2 = true := by
  obtain ⟨h1, _, h3⟩ := cOk_parts h
  have h2 : gOkG q x = true := List.all_eq_true.1 h3 x (List.mem_of_getElem? hk)
  have hq := inB_t.1 h1
  have h4 : gateB q x.1 x.2.1 x.2.2 = true := h2
  revert h4
  unfold gateB
  have key : ∀ a : Int, inB a 0 (q - 1) = true → inB a 0 (5 - 1) = true := fun a ha => by
    have := inB_t.1 ha
    exact inB_yes (by omega) (by omega)
  split
  · intro h
    rw [Bool.and_eq_true] at h ⊢
    exact ⟨key _ h.1, h.2⟩
  · split
    · intro h
      rw [Bool.and_eq_true, Bool.and_eq_true] at h ⊢
      exact ⟨⟨key _ h.1.1, key _ h.1.2⟩, h.2⟩
    · exact id
end Go.Proofs.Ytlihnipbdckmkaa
