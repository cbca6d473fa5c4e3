/- The functions of package subtree: Add. -/
import Derived.Test.YtmgnihmjjijdoaaGreatDoorGnH
namespace Go.Proofs.YtmgnihmjjijdoaaGreatDoor
open Go.RowKit
end Go.Proofs.YtmgnihmjjijdoaaGreatDoor
