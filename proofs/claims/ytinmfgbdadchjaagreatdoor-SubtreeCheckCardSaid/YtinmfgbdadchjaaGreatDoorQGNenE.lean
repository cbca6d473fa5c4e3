/- dname.Decode. -/
import Derived.Test.YtinmfgbdadchjaaGreatDoorQGNenP
namespace Go.Proofs.YtinmfgbdadchjaaGreatDoor
open Go.RowKit
end Go.Proofs.YtinmfgbdadchjaaGreatDoor
namespace Go.Proofs.YtinmfgbdadchjaaGreatDoor
open Go.RowKit
end Go.Proofs.YtinmfgbdadchjaaGreatDoor
