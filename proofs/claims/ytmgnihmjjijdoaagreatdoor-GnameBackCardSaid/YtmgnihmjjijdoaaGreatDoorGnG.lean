/- The functions of package subtree: clone. -/
import Derived.Test.YtmgnihmjjijdoaaGreatDoorGGnC
import Derived.Deep.RegionHeld3
namespace Go.Proofs.YtmgnihmjjijdoaaGreatDoor
open Go.RowKit
end Go.Proofs.YtmgnihmjjijdoaaGreatDoor
