/- Arguments of the laws, opened: a slice of ints. -/
import Derived.Test.YtphdcamihkgdiaaOpenS
namespace Go.Proofs.Ytphdcamihkgdiaa
open Go.RowKit Go.WideShapes Go.ChangeShapes Go.ChangeAt Go.Joins

theorem Try.cellsIntI : Try.prog.cellsOf 3 = 1 := by kernel_rfl

set_option maxRecDepth 100000 in
theorem open_ints1 {H : Type} {enc : TypeId × Value → H} {W : World} {base : Nat} {v : Value} {d : DataW H} {p : List MemPlace} (hv : Value.okWide Try.prog W .any base 42 v)
    (h : DataW.Trod enc Try.prog W 0 (fun _ => true) true 42 v d p) : ∃ (A : Option Addr) (cap : Nat) (ts : List Int), v = .slice A ts.length cap ∧ ts.length ≤ maxLen ∧ FlatAt W A ts := by
  obtain ⟨a1, len, cap, rfl⟩ := okWide_slice Try.underlying42 hv
  obtain ⟨f, hf⟩ := h
  obtain ⟨A, n, c, zs, he, hz, hm, hfl⟩ := trod_slice_ints (size := 1) Try.underlying42 Try.cellsIntI hf (fun cs n y hl hy => by
    match cs, hl with
    | [d0], _ =>
      obtain ⟨a, e0, _, _⟩ := DataW.trod_int Try.underlying3 hy
      simp at e0
      subst e0
      exact ⟨[a], rfl, rfl⟩)
  cases he
  rw [Nat.mul_one] at hz
  subst hz
  exact ⟨_, _, zs, rfl, hm, hfl⟩
end Go.Proofs.Ytphdcamihkgdiaa
