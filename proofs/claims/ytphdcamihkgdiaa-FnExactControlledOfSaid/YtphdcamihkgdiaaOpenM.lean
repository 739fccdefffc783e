/- Arguments of the laws, opened: a matrix by value. -/
import Derived.Test.YtphdcamihkgdiaaOpenS
import Derived.Test.YtphdcamihkgdiaaMx
namespace Go.Proofs.Ytphdcamihkgdiaa
open Go.RowKit Go.WideShapes Go.ChangeShapes Go.ChangeAt Go.Joins

theorem unflatD : ∀ (n : Nat) (zs : List Int), zs.length = n * 5 → ∃ xs : List D5, xs.length = n ∧ flatD xs = zs
  | 0, zs, h => ⟨[], rfl, by
    match zs, h with
    | [], _ => rfl⟩
  | n + 1, zs, h => by
    match zs, h with
    | a :: b :: c :: d :: e :: r, h =>
      obtain ⟨xs, h1, h2⟩ := unflatD n r (by simp at h; omega)
      exact ⟨((a, b, c, d), e) :: xs, by simp [h1], by rw [← h2]; rfl⟩
    | [], h => simp at h
    | [_], h => simp at h; omega
    | [_, _], h => simp at h; omega
    | [_, _, _], h => simp at h; omega
    | [_, _, _, _], h => simp at h; omega

theorem Try.cellsLMatrix : Try.prog.cellsOf 50 = 3 := by kernel_rfl

set_option maxRecDepth 100000 in
theorem open_matrix {H : Type} {enc : TypeId × Value → H} {W : World} {base : Nat} {v : Value} {d : DataW H} {p : List MemPlace} (hv : Value.okWide Try.prog W .any base 50 v)
    (h : DataW.Trod enc Try.prog W 0 (fun _ => true) true 50 v d p) : ∃ (r c : Int) (A : Option Addr) (cap : Nat) (xs : List D5), v = mv r c A xs.length cap ∧ xs.length ≤ maxLen ∧ FlatAt W A (flatD xs) := by
  obtain ⟨c0, c1, c2, y0, y1, y2, m, rfl, _, _, hy0, hy1, hy2⟩ := open_agg3 Try.underlying50 (by kernel_rfl) Try.cellsLMatrix hv h
  obtain ⟨a, e0, _, _⟩ := DataW.trod_int Try.underlying3 hy0
  obtain ⟨b, e1, _, _⟩ := DataW.trod_int Try.underlying3 hy1
  obtain ⟨A, len, cap, zs, rfl, hz, hlen, hf⟩ := trod_slice_ints (size := 5) Try.underlying48 Try.cellsLDyadic hy2 (fun cs n y hl hy => by
    match cs, hl with
    | [d0, d1, d2, d3, d4], _ =>
      obtain ⟨a, b, c, d, e, rfl, rfl, rfl, rfl, rfl⟩ := trod_dyadic hy
      exact ⟨[a, b, c, d, e], rfl, rfl⟩)
  simp at e0 e1
  subst e0 e1
  obtain ⟨xs, rfl, rfl⟩ := unflatD len zs hz
  exact ⟨_, _, _, _, _, rfl, hlen, hf⟩
end Go.Proofs.Ytphdcamihkgdiaa
