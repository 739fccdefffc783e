/- Arguments of the laws, opened: a matrix by value. -/
import Derived.Test.YtgpocbhlcmohmaaDoorOpenS
import Derived.Test.YtgpocbhlcmohmaaDoorMx
namespace Go.Proofs.YtgpocbhlcmohmaaDoor
open Go.RowKit Go.WideShapes Go.ChangeShapes Go.ChangeAt Go.Joins

theorem unflatD : ∀ (n : Nat) (zs : List Int), zs.length = n * 5 → ∃ xs : List D5, xs.length = n ∧ flatD xs = zs
  | 0, zs, h => ⟨[], rfl, by
    match zs, h with
    | [], _ => rfl⟩
  | n + 1, zs, h => by
    match zs, h with
    | a :: b :: c :: d :: e :: r, h =>
      obtain ⟨xs, h1, h2⟩ := unflatD n r (by simp at h; omega)
      exact ⟨((a, b, c, d), e) :: xs, by simp [h1], by rw [← h2]; rfl⟩
    | [], h => simp at h
    | [_], h => simp at h; omega
    | [_, _], h => simp at h; omega
    | [_, _, _], h => simp at h; omega
    | [_, _, _, _], h => simp at h; omega

end Go.Proofs.YtgpocbhlcmohmaaDoor
