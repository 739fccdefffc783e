/- The ring operations of the reference: the same values as the program's. -/
import Derived.Test.YtgpocbhlcmohmaaDoorRingOps
namespace Go.Proofs.YtgpocbhlcmohmaaDoor
open Go.RowKit


end Go.Proofs.YtgpocbhlcmohmaaDoor
