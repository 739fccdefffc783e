/- The ring operations of the reference: the same values as the program's. -/
import Derived.Test.YtphdcamihkgdiaaRingOps
namespace Go.Proofs.Ytphdcamihkgdiaa
open Go.RowKit


end Go.Proofs.Ytphdcamihkgdiaa
