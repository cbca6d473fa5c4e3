/- The functions of package subtree: Add. -/
import Derived.Test.YtinmfgbdadchjaaGreatDoorGnH
namespace Go.Proofs.YtinmfgbdadchjaaGreatDoor
open Go.RowKit
def TB (g : Nat) (u : Value) (W : World) : Prop := W.heap[g]? = some (.cells #[u] 124 (0, 0))
theorem TB.facts {g : Nat} {u : Value} {W : World} (h : TB g u W) : W.cell? ⟨g, 0, none⟩ = some u ∧ W.frozen? ⟨g, 0, none⟩ = false := by
 unfold TB at h
 simp [World.cell?, World.frozen?, h]
theorem TB.lt {g : Nat} {u : Value} {W : World} (h : TB g u W) : g < W.heap.size := (Array.getElem?_eq_some_iff.1 h).1
theorem TB.below {g B : Nat} {u : Value} {W W' : World} (h : TB g u W) (hb : Below B W W') (hg : g < B) : TB g u W' := (hb.block g hg).trans h
theorem TB.store {g : Nat} {u : Value} {W : World} (h : TB g u W) (a : Value) : TB g a (W.setCell ⟨g, 0, none⟩ a) := by
 unfold TB at *
 simp [World.setCell, Array.getElem?_modify, h]
end Go.Proofs.YtinmfgbdadchjaaGreatDoor
