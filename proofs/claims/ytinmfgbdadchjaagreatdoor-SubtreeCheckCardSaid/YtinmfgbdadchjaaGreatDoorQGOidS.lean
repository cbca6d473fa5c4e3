/- The functions of package oid: Decode. -/
import Derived.Test.YtinmfgbdadchjaaGreatDoorQGOidL
import Derived.Test.YtinmfgbdadchjaaGreatDoorQGSplit
import Derived.Test.YtinmfgbdadchjaaGreatDoorQGTlvA
import Derived.Deep.RegionLaw
import Derived.Lib.LaidTab
namespace Go.Proofs.YtinmfgbdadchjaaGreatDoor
open Go.RowKit
theorem info_str : (Tryz.prog.info? 9).map (fun i => (i.zero, i.size, i.bytes)) = some (some (.string ⟨#[]⟩), 1, 16) := by kernel_rfl
end Go.Proofs.YtinmfgbdadchjaaGreatDoor
namespace Go.Proofs.YtinmfgbdadchjaaGreatDoor
open Go.RowKit
end Go.Proofs.YtinmfgbdadchjaaGreatDoor
