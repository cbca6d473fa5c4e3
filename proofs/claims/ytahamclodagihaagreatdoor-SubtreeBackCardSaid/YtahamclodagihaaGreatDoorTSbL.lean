/- The law SubtreeDecode, its walk. -/
import Derived.Test.YtahamclodagihaaGreatDoorTGSbH
import Derived.Test.YtahamclodagihaaGreatDoorTSbD
import Derived.Test.YtahamclodagihaaGreatDoorTGTlvJ
import Derived.Test.YtahamclodagihaaGreatDoorTGHosI
import Derived.Test.YtahamclodagihaaGreatDoorTGnM
namespace Go.Proofs.YtahamclodagihaaGreatDoor
open Go.RowKit
theorem encS_len (s : Sub) : (encS s).1.length ≤ 131077 := by
  rw [encS]
  split
  · cases hp : encSO (partO 160 s.1) (partO 161 s.2) with
    | none => rw [limR]; simp
    | some b =>
      rw [limR]
      unfold encSO at hp
      split at hp
      · rename_i a9 b9 _ _
        obtain ⟨h1, rfl⟩ := wrapO_some hp
        rw [wrapW_len]
        have := lenB_le (a9 ++ b9).length
        omega
      · cases hp
  · simp
end Go.Proofs.YtahamclodagihaaGreatDoor
