/- Arguments of the laws, opened: a ring number by value. -/
import Derived.Test.YtgpocbhlcmohmaaDoorFrame
import Derived.Test.YtgpocbhlcmohmaaDoorRing
import Derived.Lib.SmallJoins
namespace Go.Proofs.YtgpocbhlcmohmaaDoor
open Go.RowKit Go.WideShapes Go.ChangeShapes Go.ChangeAt Go.Joins

theorem Tryd.cellsLRing : Tryd.prog.cellsOf 44 = 4 := by kernel_rfl

set_option maxRecDepth 100000 in
theorem open_ring {H : Type} {enc : TypeId × Value → H} {W : World} {base : Nat} {v : Value} {d : DataW H} {p : List MemPlace} (hv : Value.okWide Tryd.prog W .any base 44 v)
    (h : DataW.Trod enc Tryd.prog W 0 (fun _ => true) true 44 v d p) : ∃ a b c e : Int, v = rv a b c e := by
  obtain ⟨c0, c1, c2, c3, y0, y1, y2, y3, m, rfl, _, _, hy0, hy1, hy2, hy3⟩ := open_agg4 Tryd.underlying44 (by kernel_rfl) Tryd.cellsLRing hv h
  obtain ⟨a, e0, _, _⟩ := DataW.trod_int Tryd.underlying3 hy0
  obtain ⟨b, e1, _, _⟩ := DataW.trod_int Tryd.underlying3 hy1
  obtain ⟨c, e2, _, _⟩ := DataW.trod_int Tryd.underlying3 hy2
  obtain ⟨f, e3, _, _⟩ := DataW.trod_int Tryd.underlying3 hy3
  simp at e0 e1 e2 e3
  subst e0 e1 e2 e3
  exact ⟨_, _, _, _, rfl⟩
end Go.Proofs.YtgpocbhlcmohmaaDoor
