/- A part of the claim: see its last text. -/
import Derived.Test.YtaepcjklimigmaaGreatDoorDK10
import Derived.Test.YtaepcjklimigmaaGreatDoorDK32

set_option maxRecDepth 100000
set_option maxHeartbeats 16000000
namespace Go.Proofs.YtaepcjklimigmaaGreatDoor
open Go Go.RowKit Go.Proofs
end Go.Proofs.YtaepcjklimigmaaGreatDoor
