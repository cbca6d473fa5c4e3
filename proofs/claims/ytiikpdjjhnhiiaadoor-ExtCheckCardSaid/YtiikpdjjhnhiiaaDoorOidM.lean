/- The texts that the laws of package oid try: pieces. -/
import Derived.Test.YtiikpdjjhnhiiaaDoorOidI
namespace Go.Proofs.YtiikpdjjhnhiiaaDoor
open Go.RowKit

def opcTab : List (List UInt8) := [[48], [49], [50], [51, 57], [52, 48], [49, 50, 55], [49, 50, 56], [50, 49, 52, 55, 52, 56, 51, 54, 52, 55], [50, 49, 52, 55, 52, 56, 51, 54, 52, 56], [57, 57, 57, 57, 57, 57, 57, 57, 57, 57, 57], [48, 48, 55], [46], [46], [46], [46], [46, 53, 46], [45], [97], [32]]
def opcAt (m : Nat) : List UInt8 := opcTab.getD m []
def opcG (l : List UInt8) : List UInt8 := (l.take 30).flatMap fun c => opcAt (c.toNat % 19)
theorem opcAt_len (m : Nat) (h : m < 19) : (opcAt m).length ≤ 11 := by
  have : ∀ n : Fin 19, (opcAt n.1).length ≤ 11 := by decide
  exact this ⟨m, h⟩
theorem opcG_len (l : List UInt8) : (opcG l).length ≤ 11 * 30 := by
  unfold opcG
  have h : ∀ r : List UInt8, (r.flatMap fun c => opcAt (c.toNat % 19)).length ≤ 11 * r.length := by
    intro r
    induction r with
    | nil => simp
    | cons c r ih =>
      rw [List.flatMap_cons, List.length_append, List.length_cons]
      have := opcAt_len (c.toNat % 19) (by omega)
      omega
  have := h (l.take 30)
  rw [List.length_take] at this
  omega
theorem opc_get (m : Nat) (h : m < 19) : (opcTab.map fun l => Value.string ⟨l.toArray⟩)[m]? = some (.string ⟨(opcAt m).toArray⟩) := by
  rw [List.getElem?_map, List.getElem?_eq_getElem (by exact h)]
  simp [opcAt, List.getD, List.getElem?_eq_getElem (show m < opcTab.length from h)]
  rfl


end Go.Proofs.YtiikpdjjhnhiiaaDoor
