/- Arguments of the laws, opened: gates, Pauli operators, dyadic numbers by value. -/
import Derived.Test.YtogafcnaombpaaaFrame
import Derived.Test.YtogafcnaombpaaaNum
import Derived.Lib.SmallJoins
namespace Go.Proofs.Ytogafcnaombpaaa
open Go.RowKit Go.WideShapes Go.ChangeShapes Go.ChangeAt Go.Joins

end Go.Proofs.Ytogafcnaombpaaa
