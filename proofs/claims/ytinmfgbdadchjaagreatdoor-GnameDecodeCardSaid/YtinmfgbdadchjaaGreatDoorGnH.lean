/- The functions of package subtree: each, over name constraints. -/
import Derived.Test.YtinmfgbdadchjaaGreatDoorGnG
namespace Go.Proofs.YtinmfgbdadchjaaGreatDoor
open Go.RowKit
def CpS (s : Sub) : Prop := CpL s.1 ∧ CpL s.2
end Go.Proofs.YtinmfgbdadchjaaGreatDoor
