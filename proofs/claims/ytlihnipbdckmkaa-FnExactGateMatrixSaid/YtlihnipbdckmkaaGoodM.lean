/- Validity of matrices: the loops. -/
import Derived.Test.YtlihnipbdckmkaaValM
namespace Go.Proofs.Ytlihnipbdckmkaa
open Go.RowKit

end Go.Proofs.Ytlihnipbdckmkaa
