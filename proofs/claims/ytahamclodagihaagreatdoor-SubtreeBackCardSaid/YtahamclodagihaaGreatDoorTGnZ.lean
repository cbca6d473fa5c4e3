/- The laws of layer 9: awake, short, some. -/
import Derived.Test.YtahamclodagihaaGreatDoorTGGnX
import Derived.Test.YtahamclodagihaaGreatDoorTGnJ
import Derived.Test.YtahamclodagihaaGreatDoorTGHosI
namespace Go.Proofs.YtahamclodagihaaGreatDoor
open Go.RowKit
theorem gen_cells9 {w W : World} {t : ByteArray} {k : Int} {v : Value} {T : TypeId} (h : W = w.alloc (.cells #[.int .i64 k, .string t, v] T)) :
  W.cell? ⟨w.heap.size, 0, none⟩ = some (.int .i64 k) ∧ W.cell? ⟨w.heap.size, 1, none⟩ = some (.string t) ∧ W.cell? ⟨w.heap.size, 2, none⟩ = some v := by
 subst h
 refine ⟨?_, ?_, ?_⟩ <;> (rw [World.cell?_alloc_new]; rfl)
end Go.Proofs.YtahamclodagihaaGreatDoor
