/- dname.Decode. -/
import Derived.Test.YtahamclodagihaaGreatDoorNGNenP
namespace Go.Proofs.YtahamclodagihaaGreatDoor
open Go.RowKit
end Go.Proofs.YtahamclodagihaaGreatDoor
namespace Go.Proofs.YtahamclodagihaaGreatDoor
open Go.RowKit
end Go.Proofs.YtahamclodagihaaGreatDoor
