/- Gates: validity, the laws' conversions, InverseGate. -/
import Derived.Test.YtgpocbhlcmohmaaGreatDoorNum
namespace Go.Proofs.YtgpocbhlcmohmaaGreatDoor
open Go.RowKit

abbrev tv (a b c : Int) : Value := .agg #[.int .i64 a, .int .i64 b, .int .i64 c]
/-- a gate for n qubits, by its kind -/
def gateB (n k a b : Int) : Bool :=
  if inB k 1 8 then inB a 0 (n - 1) && b == 0
  else if inB k 9 11 then inB a 0 (n - 1) && inB b 0 (n - 1) && a != b
  else k == 12 && a == 0 && b == 0

theorem i12a : inB 12 1 8 = false := rfl
theorem i12b : inB 12 9 11 = false := rfl

def validB (n k a b : Int) : Bool := inB n 1 5 && gateB n k a b

def invK (k : Int) : Int := if k = 5 then 6 else if k = 6 then 5 else if k = 7 then 8 else if k = 8 then 7 else k
def invN (k : Int) : Int := if k = 12 then 7 else 1
def invRes (k a b : Int) : Value := .tuple #[tv (rI (gateB 5 k a b) (invK k)) (rI (gateB 5 k a b) a) (rI (gateB 5 k a b) b), .int .i64 (rI (gateB 5 k a b) (invN k)), .bool (gateB 5 k a b)]

end Go.Proofs.YtgpocbhlcmohmaaGreatDoor
