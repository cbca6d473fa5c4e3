/- Check of name constraints, the reference. -/
import Derived.Test.YtahamclodagihaaGreatDoorTSbB
import Derived.Test.YtahamclodagihaaGreatDoorTGLibI
import Derived.Test.YtahamclodagihaaGreatDoorTGnI
namespace Go.Proofs.YtahamclodagihaaGreatDoor
open Go.RowKit
section
variable {P : Program} {α : Type} {R : Rep α} {size : Nat} {w : World} {ops : Array Oper} {o : Oper} {a : Act} {Q : Exit → Act → World → Prop} {K : Act → World → Prop}
end
end Go.Proofs.YtahamclodagihaaGreatDoor
