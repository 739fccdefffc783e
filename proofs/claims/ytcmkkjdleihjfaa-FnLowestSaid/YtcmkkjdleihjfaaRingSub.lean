/- spec.SubRing. -/
import Derived.Test.YtcmkkjdleihjfaaRingSpec
import Derived.Test.YtcmkkjdleihjfaaDraw
namespace Go.Proofs.Ytcmkkjdleihjfaa
open Go.RowKit

end Go.Proofs.Ytcmkkjdleihjfaa
