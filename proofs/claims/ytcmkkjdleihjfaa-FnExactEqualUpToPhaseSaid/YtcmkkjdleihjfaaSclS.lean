/- ScaleMatrix of the reference. -/
import Derived.Test.YtcmkkjdleihjfaaSclM
import Derived.Test.YtcmkkjdleihjfaaKeep
import Derived.Test.YtcmkkjdleihjfaaNormSq
import Derived.Deep.RegionLaw
namespace Go.Proofs.Ytcmkkjdleihjfaa
open Go.RowKit

theorem atD_idx {C t : Nat} {xs : List D5} : atD C xs (t / C) (t % C) = xs.getD t zeroD := by
  unfold atD
  rw [Nat.mul_comm, Nat.div_add_mod]
theorem scl_list {R C : Nat} {xs : List D5} (y : D5) (hn : xs.length = R * C) : sclL R C xs y = xs.map fun z => mulC z y := by
  apply List.ext_getElem?
  intro t
  by_cases ht : t < R * C
  · have h1 : (sclL R C xs y)[t]? = some (mulC (atD C xs (t / C) (t % C)) y) := by simp [sclL, cellsM, ht, sclC]
    rw [h1, atD_idx, List.getElem?_map, List.getD_eq_getElem?_getD, List.getElem?_eq_getElem (by omega)]
    rfl
  · rw [List.getElem?_eq_none (by rw [sclL, cellsM_len]; omega), List.getElem?_eq_none (by simp; omega)]
theorem scl_ok {R C : Nat} {xs : List D5} (y : D5) (hn : xs.length = R * C) (hall : xs.all dOkD = true) (hy : dOkD y = true) : okM C (R * C) (sclOk C xs y) = xs.all fun z => mulOk z y := by
  rw [Bool.eq_iff_iff, okM, List.all_eq_true, List.all_eq_true]
  constructor
  · intro h z hz
    obtain ⟨t, ht, rfl⟩ := List.getElem_of_mem hz
    have := h t (List.mem_range.2 (by omega))
    rw [sclOk, atD_idx, List.getD_eq_getElem?_getD, List.getElem?_eq_getElem ht] at this
    simp only [Bool.and_eq_true] at this
    exact this.2
  · intro h t ht
    have ht := List.mem_range.1 ht
    rw [sclOk, atD_idx, List.getD_eq_getElem?_getD, List.getElem?_eq_getElem (show t < xs.length by omega)]
    have hm : xs[t]'(by omega) ∈ xs := List.getElem_mem _
    show (dOkD (xs[t]'(by omega)) && dOkD y && mulOk (xs[t]'(by omega)) y) = true
    rw [List.all_eq_true.1 hall _ hm, hy, h _ hm]
    rfl
end Go.Proofs.Ytcmkkjdleihjfaa
