/- Circuits by value: the laws' conversions, comparison of equals, marks. -/
import Derived.Test.YtlihnipbdckmkaaGs
namespace Go.Proofs.Ytlihnipbdckmkaa
open Go.RowKit

abbrev cv (q : Int) (A : Option Addr) (n cap : Nat) : Value := .agg #[.int .i64 q, .slice A n cap]

end Go.Proofs.Ytlihnipbdckmkaa
