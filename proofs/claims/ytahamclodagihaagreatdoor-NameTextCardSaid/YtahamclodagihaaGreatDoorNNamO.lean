/- The law NameOrder, its walk. -/
import Derived.Test.YtahamclodagihaaGreatDoorNGNamY
import Derived.Test.YtahamclodagihaaGreatDoorNGNenI
import Derived.Deep.RegionHeld3
import Derived.Deep.DeepCutAuto
namespace Go.Proofs.YtahamclodagihaaGreatDoor
open Go.RowKit
end Go.Proofs.YtahamclodagihaaGreatDoor
