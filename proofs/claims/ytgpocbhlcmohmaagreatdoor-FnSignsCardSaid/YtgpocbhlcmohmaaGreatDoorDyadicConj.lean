/- ConjDyadic, of the program and of the reference; eqDyadic. -/
import Derived.Test.YtgpocbhlcmohmaaGreatDoorDyadic
import Derived.Test.YtgpocbhlcmohmaaGreatDoorRingOps
import Derived.Deep.DeepCutAuto
namespace Go.Proofs.YtgpocbhlcmohmaaGreatDoor
open Go.RowKit

def conjRes (a b c d e : Int) : Value := .tuple #[dv (rI (dOk a b c d e) a) (rI (dOk a b c d e) (-d)) (rI (dOk a b c d e) (-c)) (rI (dOk a b c d e) (-b)) (rI (dOk a b c d e) e), .bool (dOk a b c d e)]
theorem dOk_r {a b c d e : Int} (h : dOk a b c d e = true) : rOk a b c d = true := by
  simp only [dOk, Bool.and_eq_true] at h
  exact h.1.1

end Go.Proofs.YtgpocbhlcmohmaaGreatDoor
