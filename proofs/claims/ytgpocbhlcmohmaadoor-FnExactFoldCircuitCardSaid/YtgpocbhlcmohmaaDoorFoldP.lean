/- FoldCircuit: the plain side: how often gates are repeated, the best length, the text. -/
import Derived.Test.YtgpocbhlcmohmaaDoorFmtC
import Derived.Test.YtgpocbhlcmohmaaDoorEqC
namespace Go.Proofs.YtgpocbhlcmohmaaDoor
open Go.RowKit

/-- the n-th piece of a length is the first -/
def pieceB (xs : List G3) (n L : Nat) : Bool := eqGs (xs.take L) ((xs.drop (n * L)).take L)
def timesF (xs : List G3) (L : Nat) : Nat → Nat → Nat
  | 0, n => n
  | f + 1, n => if (n + 1) * L ≤ xs.length ∧ pieceB xs n L = true then timesF xs L f (n + 1) else n
def times (xs : List G3) (L : Nat) : Nat := timesF xs L 98 1
theorem timesF_bd (xs : List G3) (L : Nat) : ∀ (f n : Nat), n * L ≤ xs.length → n ≤ timesF xs L f n ∧ timesF xs L f n ≤ n + f ∧ timesF xs L f n * L ≤ xs.length
  | 0, n, h => ⟨Nat.le_refl _, Nat.le_refl _, h⟩
  | f + 1, n, h => by
    rw [timesF]
    split
    · rename_i hc
      obtain ⟨h1, h2, h3⟩ := timesF_bd xs L f (n + 1) hc.1
      exact ⟨by omega, by omega, h3⟩
    · exact ⟨Nat.le_refl _, by omega, h⟩
theorem times_bd {xs : List G3} {L : Nat} (h : L ≤ xs.length) : 1 ≤ times xs L ∧ times xs L ≤ 99 ∧ times xs L * L ≤ xs.length := by
  obtain ⟨h1, h2, h3⟩ := timesF_bd xs L 98 1 (by omega)
  exact ⟨h1, h2, h3⟩
/-- the best length among the first ones, and how often its gates are repeated -/
def bestF (xs : List G3) : Nat → Nat × Nat
  | 0 => (0, 0)
  | k + 1 => if 1 < times xs (k + 1) ∧ (bestF xs k).1 * (bestF xs k).2 < times xs (k + 1) * (k + 1) then (k + 1, times xs (k + 1)) else bestF xs k
theorem bestF_bd (xs : List G3) : ∀ k, k ≤ xs.length → (bestF xs k = (0, 0)) ∨ (1 ≤ (bestF xs k).1 ∧ (bestF xs k).1 ≤ k ∧ 2 ≤ (bestF xs k).2 ∧ (bestF xs k).2 ≤ 99 ∧ (bestF xs k).1 * (bestF xs k).2 ≤ xs.length)
  | 0, _ => .inl rfl
  | k + 1, h => by
    have ht := times_bd (xs := xs) h
    rw [bestF]
    split
    · rename_i hc
      refine .inr ⟨by omega, Nat.le_refl _, hc.1, ht.2.1, ?_⟩
      rw [Nat.mul_comm]
      exact ht.2.2
    · rcases bestF_bd xs k (by omega) with h0 | ⟨h1, h2, h3, h4, h5⟩
      · exact .inl h0
      · exact .inr ⟨h1, by omega, h3, h4, h5⟩
def best (xs : List G3) : Nat × Nat := bestF xs (min 8 xs.length)
theorem best_bd (xs : List G3) : best xs = (0, 0) ∨ (1 ≤ (best xs).1 ∧ (best xs).1 ≤ 8 ∧ (best xs).1 ≤ xs.length ∧ 2 ≤ (best xs).2 ∧ (best xs).2 ≤ 99 ∧ (best xs).1 * (best xs).2 ≤ xs.length) := by
  rcases bestF_bd xs (min 8 xs.length) (Nat.min_le_right _ _) with h | ⟨h1, h2, h3, h4, h5⟩
  · exact .inl h
  · exact .inr ⟨h1, Nat.le_trans h2 (Nat.min_le_left _ _), Nat.le_trans h2 (Nat.min_le_right _ _), h3, h4, h5⟩
/-- the text of a block that is repeated -/
def repH (c : Nat) : ByteArray := (⟨#[114, 101, 112, 101, 97, 116, 32]⟩ ++ ⟨(Lib.decDigits c).toArray⟩) ++ ⟨#[32, 123, 10]⟩
def repB (xs : List G3) (b c : Nat) : ByteArray := (repH c ++ linesB (xs.take b)) ++ ⟨#[125, 10]⟩
def foldB : Nat → List G3 → ByteArray
  | 0, _ => ⟨#[]⟩
  | _ + 1, [] => ⟨#[]⟩
  | f + 1, x :: r => if (best (x :: r)).2 = 0 then gLine x ++ foldB f r else repB (x :: r) (best (x :: r)).1 (best (x :: r)).2 ++ foldB f ((x :: r).drop ((best (x :: r)).1 * (best (x :: r)).2))
theorem foldB_nil (f : Nat) : foldB f [] = ⟨#[]⟩ := by cases f <;> rfl
theorem nd_le2 {u : Nat} (h : u ≤ 99) : (⟨(Lib.decDigits u).toArray⟩ : ByteArray).size ≤ 2 := by
  show (Lib.decDigits u).toArray.size ≤ 2
  rw [List.size_toArray, Lib.decDigits_length]
  exact nd_le (by omega) (by omega)
theorem repH_size {c : Nat} (h : c ≤ 99) : (repH c).size ≤ 12 := by
  have := nd_le2 h
  rw [repH, ByteArray.size_append, ByteArray.size_append]
  show 7 + _ + 3 ≤ 12
  omega
theorem repB_size {xs : List G3} {b c : Nat} (h : c ≤ 99) (hx : xs.all (gOkG 5) = true) (hb : b ≤ 8) : (repB xs b c).size ≤ 86 := by
  have h1 := repH_size h
  have h2 := linesB_size (allG_take hx b)
  have h3 : (xs.take b).length ≤ b := by rw [List.length_take]; omega
  rw [repB, ByteArray.size_append, ByteArray.size_append]
  show _ + _ + 2 ≤ 86
  omega
def foldT (q : Nat) (xs : List G3) : ByteArray := headB q ++ foldB 400 xs
def foldOk (q : Int) (xs : List G3) : Bool := cOk q xs && decide ((foldT q.toNat xs).size ≤ 8000)
def foRes (q : Int) (xs : List G3) : Value := .tuple #[.string (if foldOk q xs then foldT q.toNat xs else ⟨#[]⟩), .bool (foldOk q xs)]
theorem allG_drop {p : G3 → Bool} {xs : List G3} (h : xs.all p = true) (k : Nat) : (xs.drop k).all p = true := by
  rw [List.all_eq_true] at h ⊢
  exact fun x hx => h x (List.mem_of_mem_drop hx)
theorem flatG_drop (xs : List G3) : ∀ k, flatG (xs.drop k) = (flatG xs).drop (k * 3) := by
  induction xs with
  | nil => intro k; simp [flatG]
  | cons x xs ih =>
    intro k
    rcases k with _ | k
    · simp
    · show flatG (xs.drop k) = ([x.1, x.2.1, x.2.2] ++ flatG xs).drop ((k + 1) * 3)
      rw [ih k, show (k + 1) * 3 = k * 3 + 3 by omega]
      simp
theorem FlatAt.dropG {w : World} {b off : Nat} {xs : List G3} (h : FlatAt w (some ⟨b, off, none⟩) (flatG xs)) (k : Nat) : FlatAt w (some ⟨b, off + k * 3, none⟩) (flatG (xs.drop k)) := by
  intro j z hz
  rw [flatG_drop, List.getElem?_drop] at hz
  obtain ⟨b', off', h1, h2, h3⟩ := h _ _ hz
  cases h1
  exact ⟨b, off + k * 3, rfl, h2, by rw [show off + k * 3 + j = off + (k * 3 + j) by omega]; exact h3⟩
theorem FlatAt.takeG {w : World} {A : Option Addr} {xs : List G3} (h : FlatAt w A (flatG xs)) (k : Nat) : FlatAt w A (flatG (xs.take k)) := by
  intro j z hz
  refine h j z ?_
  rw [show flatG xs = flatG (xs.take k) ++ flatG (xs.drop k) by rw [← flatG_append, List.take_append_drop]]
  rw [List.getElem?_append_left ((List.getElem?_eq_some_iff.1 hz).1)]
  exact hz
end Go.Proofs.YtgpocbhlcmohmaaDoor
