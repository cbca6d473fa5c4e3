/- The functions of package subtree: each, over name constraints. -/
import Derived.Test.YtmgnihmjjijdoaaGreatDoorGnG
namespace Go.Proofs.YtmgnihmjjijdoaaGreatDoor
open Go.RowKit
end Go.Proofs.YtmgnihmjjijdoaaGreatDoor
