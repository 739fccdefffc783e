/- NormSquare of the reference. -/
import Derived.Test.YtcmkkjdleihjfaaMulD
namespace Go.Proofs.Ytcmkkjdleihjfaa
open Go.RowKit

theorem Cur.new (w : World) (t : TypeId) (b : Bool) : Cur (w.alloc (.cells #[.bool b] t)) w.heap.size b :=
  ⟨by simp, cell_of_row _ _ 0 _ _ _ (heap_top _ _ rfl), frozen_of_row _ _ 0 _ _ (heap_top _ _ rfl)⟩

end Go.Proofs.Ytcmkkjdleihjfaa
