/- The ring operations of the reference: the same values as the program's. -/
import Derived.Test.YthniclfkbjpimaaRingOps
namespace Go.Proofs.Ythniclfkbjpimaa
open Go.RowKit


end Go.Proofs.Ythniclfkbjpimaa
