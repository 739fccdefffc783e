/- Renaming of qubits: the plain law; membership in a slice of ints. -/
import Derived.Test.YtlihnipbdckmkaaInvM
import Derived.Test.YtlihnipbdckmkaaHasI
import Derived.Test.YtlihnipbdckmkaaAll
namespace Go.Proofs.Ytlihnipbdckmkaa
open Go.RowKit

def mapG (ts : List Int) (x : G3) : G3 := (x.1, (if x.1 = 12 then x.2.1 else ts.getD x.2.1.toNat 0), (if inB x.1 9 11 then ts.getD x.2.2.toNat 0 else x.2.2))
def mapL (ts : List Int) (xs : List G3) : List G3 := xs.map (mapG ts)
/-- the first k numbers are all different -/
def diffN (ts : List Int) (k : Nat) : Bool := (List.range k).all fun i => !(ts.take i).contains (ts.getD i 0)
def mapOk (q : Int) (xs : List G3) (ts : List Int) (n : Int) : Bool := cOk q xs && inB n 1 5 && ((ts.length : Int) == q) && allIn ts 0 (n - 1) && diffN ts ts.length
theorem diffN_step (ts : List Int) (k : Nat) : diffN ts (k + 1) = (diffN ts k && !(ts.take k).contains (ts.getD k 0)) := by
  unfold diffN
  rw [List.range_succ, List.all_append]
  simp
theorem diffN_bad {ts : List Int} {k : Nat} (hk : k < ts.length) (h : (ts.take k).contains (ts.getD k 0) = true) : diffN ts ts.length = false := by
  unfold diffN
  rw [List.all_eq_false]
  exact ⟨k, List.mem_range.2 hk, by rw [h]; simp⟩
theorem getD_at {ts : List Int} {k : Nat} {t : Int} (h : ts[k]? = some t) : ts.getD k 0 = t := by rw [List.getD_eq_getElem?_getD, h]; rfl
theorem mapL_step {ts : List Int} {xs : List G3} {k : Nat} {x : G3} (h : xs[k]? = some x) : mapL ts (xs.take (k + 1)) = mapL ts (xs.take k) ++ [mapG ts x] := by
  obtain ⟨hk, rfl⟩ := List.getElem?_eq_some_iff.1 h
  rw [List.take_succ_eq_append_getElem hk, mapL, List.map_append]
  rfl
theorem mapL_len (ts : List Int) (xs : List G3) : (mapL ts xs).length = xs.length := by simp [mapL]
theorem mapL_take_len (ts : List Int) (xs : List G3) (k : Nat) (h : xs.length ≤ 400) : (mapL ts (xs.take k)).length ≤ 400 := by
  rw [mapL_len, List.length_take]
  omega
/-- what a valid gate's fields are: three kinds -/
theorem gate_three {q : Int} {xs : List G3} {k : Nat} {x : G3} {ts : List Int} (h : cOk q xs = true) (hk : xs[k]? = some x) (hl : (ts.length : Int) = q) :
    (x.1 = 12 ∧ mapG ts x = x) ∨
    (x.1 ≠ 12 ∧ inB x.1 9 11 = false ∧ ∃ (a : Nat) (t : Int), x.2.1 = (a : Int) ∧ ts[a]? = some t ∧ mapG ts x = (x.1, t, x.2.2)) ∨
    (x.1 ≠ 12 ∧ inB x.1 9 11 = true ∧ ∃ (a b : Nat) (t u : Int), x.2.1 = (a : Int) ∧ x.2.2 = (b : Int) ∧ ts[a]? = some t ∧ ts[b]? = some u ∧ mapG ts x = (x.1, t, u)) := by
  obtain ⟨_, _, h3⟩ := cOk_parts h
  have h2 : gateB q x.1 x.2.1 x.2.2 = true := List.all_eq_true.1 h3 x (List.mem_of_getElem? hk)
  obtain ⟨xk, xa, xb⟩ := x
  simp only at h2 ⊢
  have at' : ∀ z : Int, inB z 0 (q - 1) = true → ∃ (a : Nat) (t : Int), z = (a : Int) ∧ ts[a]? = some t := fun z hz => by
    have hz' := inB_t.1 hz
    exact ⟨z.toNat, _, by omega, List.getElem?_eq_getElem (by omega)⟩
  by_cases h12 : xk = 12
  · subst h12
    exact .inl ⟨rfl, rfl⟩
  · right
    unfold gateB at h2
    rcases hb : inB xk 9 11 with _ | _
    · left
      refine ⟨h12, rfl, ?_⟩
      by_cases h1 : inB xk 1 8 = true
      · rw [if_pos h1, Bool.and_eq_true] at h2
        obtain ⟨a, t, rfl, ht⟩ := at' xa h2.1
        exact ⟨a, t, rfl, ht, by simp [mapG, h12, hb, ht]⟩
      · rw [if_neg h1, hb] at h2
        simp [h12] at h2
    · right
      refine ⟨h12, rfl, ?_⟩
      have h1 : ¬ inB xk 1 8 = true := by
        have := inB_t.1 hb
        intro h
        have := inB_t.1 h
        omega
      rw [if_neg h1, hb, if_pos rfl, Bool.and_eq_true, Bool.and_eq_true] at h2
      obtain ⟨a, t, rfl, ht⟩ := at' xa h2.1.1
      obtain ⟨b, u, rfl, hu⟩ := at' xb h2.1.2
      exact ⟨a, b, t, u, rfl, rfl, ht, hu, by simp [mapG, h12, hb, ht, hu]⟩

theorem intsOf {w : World} {A : Option Addr} {zs : List Int} (h : FlatAt w A zs) : IntsAt w A zs := by
  intro k hk
  obtain ⟨b, off, rfl, _, hc⟩ := h k _ (List.getElem?_eq_getElem hk)
  refine ⟨_, _, rfl, List.getElem?_eq_getElem hk, ?_⟩
  have e : (⟨b, off, none⟩ : Addr).add k = ⟨b, off + k, none⟩ := by
    unfold Addr.add
    split
    · next h0 => subst h0; rfl
    · rfl
  rw [e]
  exact hc
end Go.Proofs.Ytlihnipbdckmkaa
