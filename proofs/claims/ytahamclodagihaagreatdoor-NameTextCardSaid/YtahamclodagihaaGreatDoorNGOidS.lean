/- The functions of package oid: Decode. -/
import Derived.Test.YtahamclodagihaaGreatDoorNGOidL
import Derived.Test.YtahamclodagihaaGreatDoorNGSplit
import Derived.Test.YtahamclodagihaaGreatDoorNGTlvA
import Derived.Deep.RegionLaw
import Derived.Lib.LaidTab
namespace Go.Proofs.YtahamclodagihaaGreatDoor
open Go.RowKit
theorem info_str : (Tryz.prog.info? 9).map (fun i => (i.zero, i.size, i.bytes)) = some (some (.string ⟨#[]⟩), 1, 16) := by kernel_rfl
end Go.Proofs.YtahamclodagihaaGreatDoor
namespace Go.Proofs.YtahamclodagihaaGreatDoor
open Go.RowKit
end Go.Proofs.YtahamclodagihaaGreatDoor
