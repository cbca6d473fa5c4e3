/- The functions of package dname: parseAttribute. -/
import Derived.Test.YtodapmkdmkhhfaaGreatDoorNamP
namespace Go.Proofs.YtodapmkdmkhhfaaGreatDoor
open Go.RowKit

def ResAtt (g : Nat) (W : World) : Prop := W.heap[g]? = some (.cells #[.string ⟨#[]⟩, .int .i64 0, .string ⟨#[]⟩] 74 (0, 0))
theorem ResAtt.facts {g : Nat} {W : World} (h : ResAtt g W) : W.cell? ⟨g, 0, none⟩ = some (.string ⟨#[]⟩) ∧ W.cell? ⟨g, 1, none⟩ = some (.int .i64 0) ∧ W.cell? ⟨g, 2, none⟩ = some (.string ⟨#[]⟩) ∧
    W.frozen? ⟨g, 0, none⟩ = false ∧ W.frozen? ⟨g, 1, none⟩ = false ∧ W.frozen? ⟨g, 2, none⟩ = false := by
  unfold ResAtt at h
  simp [World.cell?, World.frozen?, h]
theorem ResAtt.below {g : Nat} {W W' : World} (h : ResAtt g W) (hb : Below W.heap.size W W') : ResAtt g W' := by
  have hlt : g < W.heap.size := (Array.getElem?_eq_some_iff.1 h).1
  exact (hb.block g hlt).trans h
theorem ResAtt.store {g : Nat} {W : World} (h : ResAtt g W) (a b c : Value) :
    (((W.setCell ⟨g, 0, none⟩ a).setCell ⟨g, 1, none⟩ b).setCell ⟨g, 2, none⟩ c).cell? ⟨g, 0, none⟩ = some a ∧ (((W.setCell ⟨g, 0, none⟩ a).setCell ⟨g, 1, none⟩ b).setCell ⟨g, 2, none⟩ c).cell? ⟨g, 1, none⟩ = some b ∧
    (((W.setCell ⟨g, 0, none⟩ a).setCell ⟨g, 1, none⟩ b).setCell ⟨g, 2, none⟩ c).cell? ⟨g, 2, none⟩ = some c := by
  unfold ResAtt at h
  simp [World.cell?, World.setCell, Array.getElem?_modify, h]
theorem below_store3 {B g : Nat} {w W : World} (h : Below B w W) (hg : B ≤ g) (a b c : Value) : Below B w (((W.setCell ⟨g, 0, none⟩ a).setCell ⟨g, 1, none⟩ b).setCell ⟨g, 2, none⟩ c) :=
  ((h.setCell (p := ⟨g, 0, none⟩) hg a).setCell (p := ⟨g, 1, none⟩) hg b).setCell (p := ⟨g, 2, none⟩) hg c
theorem cut_len (s : List UInt8) : (cutL s).1.length ≤ s.length ∧ (cutL s).2.1.length ≤ s.length := by
  unfold cutL Lib.cut
  split
  · simp; omega
  · simp
theorem unesc_len {l o : List UInt8} (h : unesc l = some o) : o.length ≤ l.length := by
  have h1 := (unesc_iff l o).1 h
  have h2 := esc_len o
  rw [h1] at h2
  exact h2



end Go.Proofs.YtodapmkdmkhhfaaGreatDoor
