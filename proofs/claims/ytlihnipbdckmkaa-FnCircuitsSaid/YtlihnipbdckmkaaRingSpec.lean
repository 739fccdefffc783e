/- The ring operations of the reference: the same values as the program's. -/
import Derived.Test.YtlihnipbdckmkaaRingOps
namespace Go.Proofs.Ytlihnipbdckmkaa
open Go.RowKit


end Go.Proofs.Ytlihnipbdckmkaa
