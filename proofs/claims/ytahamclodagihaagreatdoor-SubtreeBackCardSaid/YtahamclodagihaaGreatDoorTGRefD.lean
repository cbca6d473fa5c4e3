/- The reference's parts, Mail. -/
import Derived.Test.YtahamclodagihaaGreatDoorTGHosF
import Derived.Deep.QuietTactic
namespace Go.Proofs.YtahamclodagihaaGreatDoor
open Go.RowKit
end Go.Proofs.YtahamclodagihaaGreatDoor
namespace Go.Proofs.YtahamclodagihaaGreatDoor
open Go.RowKit
end Go.Proofs.YtahamclodagihaaGreatDoor
