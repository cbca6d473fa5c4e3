/- The functions of package gname: small, Same; subtree.known. -/
import Derived.Test.YtahamclodagihaaGreatDoorRGHosI
import Derived.Test.YtahamclodagihaaGreatDoorRGHosF
import Derived.Deep.RegionHeld3
import Derived.Test.YtahamclodagihaaGreatDoorRGGnC
namespace Go.Proofs.YtahamclodagihaaGreatDoor
open Go.RowKit
end Go.Proofs.YtahamclodagihaaGreatDoor
namespace Go.Proofs.YtahamclodagihaaGreatDoor
open Go.RowKit
end Go.Proofs.YtahamclodagihaaGreatDoor
