/- Arguments of the laws, opened: gates, Pauli operators, dyadic numbers by value. -/
import Derived.Test.YtgpocbhlcmohmaaDoorFrame
import Derived.Test.YtgpocbhlcmohmaaDoorNum
import Derived.Lib.SmallJoins
namespace Go.Proofs.YtgpocbhlcmohmaaDoor
open Go.RowKit Go.WideShapes Go.ChangeShapes Go.ChangeAt Go.Joins


theorem Tryd.cellsLGate : Tryd.prog.cellsOf 39 = 3 := by kernel_rfl

set_option maxRecDepth 100000 in
theorem open_gate {H : Type} {enc : TypeId × Value → H} {W : World} {base : Nat} {v : Value} {d : DataW H} {p : List MemPlace} (hv : Value.okWide Tryd.prog W .any base 39 v)
    (h : DataW.Trod enc Tryd.prog W 0 (fun _ => true) true 39 v d p) : ∃ a b c : Int, v = .agg #[.int .i64 a, .int .i64 b, .int .i64 c] := by
  obtain ⟨c0, c1, c2, y0, y1, y2, m, rfl, _, _, hy0, hy1, hy2⟩ := open_agg3 Tryd.underlying39 (by kernel_rfl) Tryd.cellsLGate hv h
  obtain ⟨a, e0, _, _⟩ := DataW.trod_int Tryd.underlying3 hy0
  obtain ⟨b, e1, _, _⟩ := DataW.trod_int Tryd.underlying3 hy1
  obtain ⟨c, e2, _, _⟩ := DataW.trod_int Tryd.underlying3 hy2
  simp at e0 e1 e2
  subst e0 e1 e2
  exact ⟨_, _, _, rfl⟩

end Go.Proofs.YtgpocbhlcmohmaaDoor
