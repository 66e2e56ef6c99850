/- Lemmas. Conditions: those of each. -/
import Derived.Test.YtlpbeifnibodoaaGreatDoorY14
import Derived.Test.YtlpbeifnibodoaaGreatDoorY10
set_option linter.all false
set_option maxRecDepth 100000
set_option maxHeartbeats 16000000
namespace Go.Proofs.YtlpbeifnibodoaaGreatDoor
open Go.RowKit

end Go.Proofs.YtlpbeifnibodoaaGreatDoor
