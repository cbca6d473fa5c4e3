/- The functions of package subtree: clone. -/
import Derived.Test.YtinmfgbdadchjaaGreatDoorGGnC
import Derived.Deep.RegionHeld3
namespace Go.Proofs.YtinmfgbdadchjaaGreatDoor
open Go.RowKit
def SB (g : Nat) (u v : Value) (W : World) : Prop := W.heap[g]? = some (.cells #[u, v] 60 (0, 0))
theorem SB.facts {g : Nat} {u v : Value} {W : World} (h : SB g u v W) : W.cell? ⟨g, 0, none⟩ = some u ∧ W.cell? ⟨g, 1, none⟩ = some v ∧ W.frozen? ⟨g, 0, none⟩ = false ∧ W.frozen? ⟨g, 1, none⟩ = false := by
 unfold SB at h
 simp [World.cell?, World.frozen?, h]
theorem SB.lt {g : Nat} {u v : Value} {W : World} (h : SB g u v W) : g < W.heap.size := (Array.getElem?_eq_some_iff.1 h).1
theorem SB.below {g : Nat} {u v : Value} {W W' : World} (h : SB g u v W) (hb : Below W.heap.size W W') : SB g u v W' := (hb.block g h.lt).trans h
theorem SB.store {g : Nat} {u v : Value} {W : World} (h : SB g u v W) (a b : Value) : SB g a b ((W.setCell ⟨g, 0, none⟩ a).setCell ⟨g, 1, none⟩ b) := by
 unfold SB at *
 simp [World.setCell, Array.getElem?_modify, h]
theorem sl_st2 {α : Type} {R : Rep α} {size : Nat} (hR : RepOk R size) {W : World} {g B B0 : Nat} {l : List α} {v a b : Value} (h : Sl R size W (Btw B0 W.heap.size) l [v]) (hg : g < B0) (hB : B ≤ B0) :
  Sl R size ((W.setCell ⟨g, 0, none⟩ a).setCell ⟨g, 1, none⟩ b) (Btw B ((W.setCell ⟨g, 0, none⟩ a).setCell ⟨g, 1, none⟩ b).heap.size) l [v] :=
 (Sl.ok hR).mono h (fun k hk => by
  have hne : k ≠ g := by have := hk.1; omega
  rw [Below.heap_setCell _ ⟨g, 1, none⟩ b k hne, Below.heap_setCell _ ⟨g, 0, none⟩ a k hne]) (fun k hk => ⟨by have := hk.1; omega, by have := hk.2; simp; omega⟩)
def CpL (l : List Gen) : Prop := l.length ≤ 1000 ∧ ∀ g ∈ l, CpN g.2.2
end Go.Proofs.YtinmfgbdadchjaaGreatDoor
