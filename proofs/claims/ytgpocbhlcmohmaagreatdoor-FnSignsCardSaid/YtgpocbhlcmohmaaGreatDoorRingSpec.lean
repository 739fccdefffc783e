/- The ring operations of the reference: the same values as the program's. -/
import Derived.Test.YtgpocbhlcmohmaaGreatDoorRingOps
namespace Go.Proofs.YtgpocbhlcmohmaaGreatDoor
open Go.RowKit


end Go.Proofs.YtgpocbhlcmohmaaGreatDoor
