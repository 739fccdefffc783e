/- Matrices by value: the laws' conversions, comparison of equals, marks. -/
import Derived.Test.YtgpocbhlcmohmaaDoorDs
namespace Go.Proofs.YtgpocbhlcmohmaaDoor
open Go.RowKit

abbrev mv (r c : Int) (A : Option Addr) (n cap : Nat) : Value := .agg #[.int .i64 r, .int .i64 c, .slice A n cap]

end Go.Proofs.YtgpocbhlcmohmaaDoor
