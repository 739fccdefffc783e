/- Arguments of the laws, opened: a slice of structs of whole numbers, laid flat. -/
import Derived.Test.YtlihnipbdckmkaaFlat
import Derived.Deep.Slices
import Derived.Lib.SmallJoins
namespace Go.Proofs.Ytlihnipbdckmkaa
open Go.RowKit Go.WideShapes Go.ChangeShapes Go.ChangeAt Go.Joins

theorem cell_spot {w : World} {a : Addr} {v : Value} (h : w.cell? a = some v) : a.spot = none ∧ a.block < w.heap.size := by
  have hlt : a.block < w.heap.size := by
    rcases Nat.lt_or_ge a.block w.heap.size with h1 | h1
    · exact h1
    · exfalso
      simp [World.cell?, Array.getElem?_eq_none h1] at h
  refine ⟨?_, hlt⟩
  cases hs : a.spot with
  | none => rfl
  | some s =>
    exfalso
    simp only [World.cell?, hs] at h
    split at h <;> simp_all
theorem add_off (b o j : Nat) : (⟨b, o, none⟩ : Addr).add j = ⟨b, o + j, none⟩ := by
  unfold Addr.add
  split
  · next h => subst h; rfl
  · rfl
theorem flat_len {f : Nat → List Int} {size : Nat} : ∀ k, (∀ i, i < k → (f i).length = size) → ((List.range k).flatMap f).length = k * size
  | 0, _ => by simp
  | k + 1, h => by
    rw [List.range_succ, List.flatMap_append, List.length_append, flat_len k (fun i hi => h i (by omega)), List.flatMap_singleton, h k (by omega), Nat.succ_mul]
theorem trod_slice_ints {H : Type} {enc : TypeId × Value → H} {P : Program} {W : World} {base : Nat} {sp : Nat → Bool} {hd : Bool} {t e : TypeId} {size fuel : Nat} {c : Value} {x : DataW H × List MemPlace}
    (ht : P.underlying t = some (.slice e)) (hsz : P.cellsOf e = size) (h : DataW.trod enc P W base sp hd fuel t [c] = some x)
    (hel : ∀ (cs : List Value) (n : Nat) (y : DataW H × List MemPlace), cs.length = size → DataW.trod enc P W base sp hd n e cs = some y → ∃ zs : List Int, zs.length = size ∧ cs = zs.map (Value.int .i64)) :
    ∃ (A : Option Addr) (len cap : Nat) (zs : List Int), c = .slice A len cap ∧ zs.length = len * size ∧ len ≤ maxLen ∧ FlatAt W A zs := by
  rcases Go.Deep.open_slice ht h with ⟨h1, _⟩ | ⟨a, len, cap, m, n, D, Pl, h1, _, hl, hm, hmm, _, hx⟩
  · refine ⟨none, 0, 0, [], by simpa using h1, by simp, by simp [maxLen], FlatAt.nil _ _⟩
  · have hle : len ≤ m := by rw [hmm]; split <;> omega
    obtain ⟨f, hf⟩ := Go.Deep.choose_lt (α := List Int) (n := len) (p := fun i zs => zs.length = size ∧ ∀ j z, zs[j]? = some z → W.cell? ((a.add (i * size)).add j) = some (.int .i64 z)) (fun i hi => by
      obtain ⟨cs, h2, h3⟩ := hx i (by omega)
      rw [hsz] at h2
      obtain ⟨_, h4, h5⟩ := World.cells?_some h2
      obtain ⟨zs, h6, rfl⟩ := hel cs _ _ h4 h3
      refine ⟨zs, h6, fun j z hz => ?_⟩
      have hj : j < size := by
        have := (List.getElem?_eq_some_iff.1 hz).1
        omega
      rw [h5 j hj]
      simp [hz])
    refine ⟨some a, len, cap, (List.range len).flatMap f, by simpa using h1, ?_, Nat.le_trans hl hm, ?_⟩
    · exact flat_len len fun i hi => (hf i hi).1
    · have key : ∀ k, k ≤ len → ∀ j z, ((List.range k).flatMap f)[j]? = some z → W.cell? (a.add j) = some (.int .i64 z) := by
        intro k
        induction k with
        | zero => intro _ j z hz; simp at hz
        | succ k ih =>
          intro hk j z hz
          have hlen : ((List.range k).flatMap f).length = k * size := flat_len k fun i hi => (hf i (by omega)).1
          rw [List.range_succ, List.flatMap_append, List.flatMap_singleton] at hz
          rcases Nat.lt_or_ge j (k * size) with h2 | h2
          · rw [List.getElem?_append_left (by omega)] at hz
            exact ih (by omega) j z hz
          · rw [List.getElem?_append_right (by omega), hlen] at hz
            have := (hf k (by omega)).2 _ z hz
            rw [Go.Deep.add_add] at this
            rw [show k * size + (j - k * size) = j from by omega] at this
            exact this
      intro j z hz
      have h2 := key len (Nat.le_refl _) j z hz
      have hj : 0 < ((List.range len).flatMap f).length := by
        have := (List.getElem?_eq_some_iff.1 hz).1
        omega
      have h3 := key len (Nat.le_refl _) 0 _ (List.getElem?_eq_getElem hj)
      obtain ⟨h4, h5⟩ := cell_spot h3
      obtain ⟨b, o, s⟩ := a
      have e0 : (⟨b, o, s⟩ : Addr).add 0 = ⟨b, o, s⟩ := by simp [Addr.add]
      rw [e0] at h4 h5
      simp only at h4 h5
      subst h4
      rw [add_off] at h2
      exact ⟨b, o, rfl, h5, h2⟩
end Go.Proofs.Ytlihnipbdckmkaa
