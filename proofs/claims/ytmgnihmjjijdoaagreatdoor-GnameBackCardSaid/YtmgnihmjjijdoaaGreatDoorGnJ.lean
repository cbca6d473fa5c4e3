/- Name constraints that the laws make. -/
import Derived.Test.YtmgnihmjjijdoaaGreatDoorGnI
namespace Go.Proofs.YtmgnihmjjijdoaaGreatDoor
open Go.RowKit
theorem GoodN.cp {n : Name} (h : GoodN n) : CpN n := ⟨by have := h.1; omega, fun r hr => by
 rcases h.2 r hr with ⟨a, _, rfl⟩ | ⟨a, _, b, _, rfl, _⟩
 ·simp
 ·simp⟩
theorem CpN.nil : CpN [] := ⟨by simp, fun r hr => by cases hr⟩
theorem GoodBase.cp {g : Gen} (h : GoodBase g) : CpN g.2.2 := by
 rcases h with ⟨_, _, rfl⟩ | ⟨_, _, rfl⟩ | ⟨_, _, rfl⟩ | ⟨n, hn, rfl⟩
 ·exact CpN.nil
 ·exact CpN.nil
 ·exact CpN.nil
 ·exact hn.cp
theorem GoodGen.cp {g : Gen} (h : GoodGen g) : CpN g.2.2 := by
 rcases h with ⟨_, _, rfl⟩ | ⟨_, _, rfl⟩ | ⟨_, _, rfl⟩ | ⟨n, hn, rfl⟩
 ·exact CpN.nil
 ·exact CpN.nil
 ·exact CpN.nil
 ·exact hn.cp
end Go.Proofs.YtmgnihmjjijdoaaGreatDoor
