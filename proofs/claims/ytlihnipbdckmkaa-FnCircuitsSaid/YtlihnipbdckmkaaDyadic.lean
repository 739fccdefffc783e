/- Dyadic numbers: validity, the laws' conversions. -/
import Derived.Test.YtlihnipbdckmkaaRingDiv
import Derived.Test.YtlihnipbdckmkaaDraw
import Derived.Test.YtlihnipbdckmkaaMem
import Derived.Lib.SmallJoins
import Derived.Test.YtlihnipbdckmkaaFrame
namespace Go.Proofs.Ytlihnipbdckmkaa
open Go.RowKit Go.WideShapes Go.ChangeShapes Go.ChangeAt Go.Joins

abbrev dv (a b c d e : Int) : Value := .agg #[.int .i64 a, .int .i64 b, .int .i64 c, .int .i64 d, .int .i64 e]
def dOk (a b c d e : Int) : Bool := rOk a b c d && inB e 0 60 && (e == 0 || !evenB a b c d)

theorem Try.cellsInt : Try.prog.cellsOf 3 = 1 := by kernel_rfl

end Go.Proofs.Ytlihnipbdckmkaa
