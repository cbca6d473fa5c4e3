/- The functions of package gname: small, Same; subtree.known. -/
import Derived.Test.YtahamclodagihaaGreatDoorTGHosI
import Derived.Test.YtahamclodagihaaGreatDoorTGHosF
import Derived.Deep.RegionHeld3
import Derived.Test.YtahamclodagihaaGreatDoorTGGnC
namespace Go.Proofs.YtahamclodagihaaGreatDoor
open Go.RowKit
end Go.Proofs.YtahamclodagihaaGreatDoor
namespace Go.Proofs.YtahamclodagihaaGreatDoor
open Go.RowKit
end Go.Proofs.YtahamclodagihaaGreatDoor
