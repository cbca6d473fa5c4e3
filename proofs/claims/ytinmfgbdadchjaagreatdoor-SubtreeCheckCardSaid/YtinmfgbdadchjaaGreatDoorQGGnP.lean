/- The functions of package gname: small, Same; subtree.known. -/
import Derived.Test.YtinmfgbdadchjaaGreatDoorQGHosI
import Derived.Test.YtinmfgbdadchjaaGreatDoorQGHosF
import Derived.Deep.RegionHeld3
import Derived.Test.YtinmfgbdadchjaaGreatDoorQGGnC
namespace Go.Proofs.YtinmfgbdadchjaaGreatDoor
open Go.RowKit
end Go.Proofs.YtinmfgbdadchjaaGreatDoor
namespace Go.Proofs.YtinmfgbdadchjaaGreatDoor
open Go.RowKit
end Go.Proofs.YtinmfgbdadchjaaGreatDoor
