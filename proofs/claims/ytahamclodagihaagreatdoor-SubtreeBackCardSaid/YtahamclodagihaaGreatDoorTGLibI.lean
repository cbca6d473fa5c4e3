/- A region that draws its order, by a condition that every operation keeps. -/
import Derived.Test.YtahamclodagihaaGreatDoorTLib
import Derived.Deep.RegionHeld3
import Derived.Test.YtahamclodagihaaGreatDoorTGNenE
namespace Go.Proofs.YtahamclodagihaaGreatDoor
open Go.RowKit
section
variable {P : Program} {ops : Array Oper} {Q : Exit → Act → World → Prop} {I : (Nat → Bool) → Act → World → Prop}
end
section
variable {P : Program} {ops : Array Oper} {Q : Exit → Act → World → Prop}
end
end Go.Proofs.YtahamclodagihaaGreatDoor
namespace Go.Proofs.YtahamclodagihaaGreatDoor
open Go.RowKit
end Go.Proofs.YtahamclodagihaaGreatDoor
namespace Go.Proofs.YtahamclodagihaaGreatDoor
open Go.RowKit
end Go.Proofs.YtahamclodagihaaGreatDoor
