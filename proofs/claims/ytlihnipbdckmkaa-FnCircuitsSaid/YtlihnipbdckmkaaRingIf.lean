/- impl.ringIf: append, then a loop over ring numbers. -/
import Derived.Test.YtlihnipbdckmkaaRing
import Derived.OwnWalk
import Derived.Deep.AppendLies
namespace Go.Proofs.Ytlihnipbdckmkaa
open Go.RowKit

abbrev Q4 := Int × Int × Int × Int
def okQ (x : Q4) : Bool := rOk x.1 x.2.1 x.2.2.1 x.2.2.2
def cellsQ (xs : List Q4) : List Value := xs.flatMap fun x => [.int .i64 x.1, .int .i64 x.2.1, .int .i64 x.2.2.1, .int .i64 x.2.2.2]
theorem cellsQ_len (xs : List Q4) : (cellsQ xs).length = xs.length * 4 := by
  induction xs with
  | nil => rfl
  | cons x xs ih => show (_ ++ cellsQ xs).length = _; rw [List.length_append, ih]; simp; omega
theorem cellsQ_append (xs ys : List Q4) : cellsQ (xs ++ ys) = cellsQ xs ++ cellsQ ys := by simp [cellsQ]
theorem cellsQ_at (xs : List Q4) : ∀ (k : Nat) (x : Q4), xs[k]? = some x →
    (cellsQ xs)[k * 4]? = some (.int .i64 x.1) ∧ (cellsQ xs)[k * 4 + 1]? = some (.int .i64 x.2.1) ∧ (cellsQ xs)[k * 4 + 2]? = some (.int .i64 x.2.2.1) ∧ (cellsQ xs)[k * 4 + 3]? = some (.int .i64 x.2.2.2) := by
  induction xs with
  | nil => intro k x h; simp at h
  | cons y xs ih =>
    intro k x h
    have e : cellsQ (y :: xs) = [.int .i64 y.1, .int .i64 y.2.1, .int .i64 y.2.2.1, .int .i64 y.2.2.2] ++ cellsQ xs := rfl
    match k, h with
    | 0, h => simp at h; subst h; exact ⟨rfl, rfl, rfl, rfl⟩
    | k + 1, h =>
      have := ih k x (by simpa using h)
      rw [e]
      refine ⟨?_, ?_, ?_, ?_⟩ <;> rw [List.getElem?_append_right (by simp; omega)] <;> simp only [List.length_cons, List.length_nil]
      · rw [show (k + 1) * 4 - (0 + 1 + 1 + 1 + 1) = k * 4 from by omega]; exact this.1
      · rw [show (k + 1) * 4 + 1 - (0 + 1 + 1 + 1 + 1) = k * 4 + 1 from by omega]; exact this.2.1
      · rw [show (k + 1) * 4 + 2 - (0 + 1 + 1 + 1 + 1) = k * 4 + 2 from by omega]; exact this.2.2.1
      · rw [show (k + 1) * 4 + 3 - (0 + 1 + 1 + 1 + 1) = k * 4 + 3 from by omega]; exact this.2.2.2
theorem cellsQ_one (xs : List Q4) : ∀ u ∈ cellsQ xs, u.oneCell' = true := by
  intro u hu
  simp only [cellsQ, List.mem_flatMap] at hu
  obtain ⟨x, _, hx⟩ := hu
  simp at hx
  rcases hx with rfl | rfl | rfl | rfl <;> rfl
theorem okAll_step {xs : List Q4} {k : Nat} {x : Q4} (h : xs[k]? = some x) : (xs.take (k + 1)).all okQ = ((xs.take k).all okQ && okQ x) := by
  obtain ⟨hk, rfl⟩ := List.getElem?_eq_some_iff.1 h
  rw [List.take_succ_eq_append_getElem hk, List.all_append]
  simp
theorem okAll_bad {xs : List Q4} {k : Nat} {x : Q4} (h : xs[k]? = some x) (hb : okQ x = false) : xs.all okQ = false := by
  obtain ⟨hk, rfl⟩ := List.getElem?_eq_some_iff.1 h
  rw [List.all_eq_false]
  exact ⟨xs[k], List.getElem_mem hk, by simpa using hb⟩

theorem addr_at (g j : Nat) : (⟨g, 0, none⟩ : Addr).add j = ⟨g, j, none⟩ := by
  unfold Addr.add
  split
  · next h => subst h; rfl
  · simp

theorem own_lt {w : World} {base : Nat} {e : TypeId} {size n : Nat} {v : Value} {ys : List Value} (h : w.ownsRow base e size v n ys) : ∀ k, v.ownBlock = some k → base ≤ k ∧ k < w.heap.size := by
  intro k hk
  rcases h.2 with ⟨rfl, _⟩ | ⟨g, cap, cur, rfl, hb, hg, _⟩
  · simp [Value.ownBlock] at hk
  · simp [Value.ownBlock] at hk
    subst hk
    exact ⟨hb, (Array.getElem?_eq_some_iff.1 hg).1⟩

theorem Try.infoRing : (Try.prog.info? 58).map (fun i => (i.zero, i.size, i.bytes)) = some (some (rv 0 0 0 0), 4, 32) := by kernel_rfl

end Go.Proofs.Ytlihnipbdckmkaa
