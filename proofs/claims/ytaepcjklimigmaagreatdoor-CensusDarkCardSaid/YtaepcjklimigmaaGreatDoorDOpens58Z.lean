/- A part of the claim: see its last text. -/
import Derived.Test.YtaepcjklimigmaaGreatDoorDOpens14Z
import Derived.Test.YtaepcjklimigmaaGreatDoorDK08

set_option maxRecDepth 100000
set_option maxHeartbeats 16000000
namespace Go.Proofs.YtaepcjklimigmaaGreatDoor
open Go Go.Proofs Go.RowKit Go.Joins Go.ChangeShapes Go.WideShapes Go.Deep
section
variable {H : Type} {enc : TypeId × Value → H} {P : Program} {w : World} {held : Bool}
end
end Go.Proofs.YtaepcjklimigmaaGreatDoor
