/- The functions of package oid: Less, Under. -/
import Derived.Test.YtepibepgfackkaaDoorOidD
namespace Go.Proofs.YtepibepgfackkaaDoor
open Go.RowKit

def lessL : List Nat → List Nat → Bool
  | [], [] => false
  | [], _ :: _ => true
  | _ :: _, [] => false
  | a :: x, b :: y => if a = b then lessL x y else decide (a < b)
def lessO : Option (List Nat) → Option (List Nat) → Bool
  | some x, some y => lessL x y
  | _, _ => false
def lessP (a b : List UInt8) : Bool := lessO (arcsP a) (arcsP b)
theorem lessL_end : ∀ (x y : List Nat), (x = [] ∨ y = []) → lessL x y = decide (x.length < y.length)
  | [], [], _ => rfl
  | [], _ :: _, _ => by simp [lessL]
  | _ :: _, [], _ => by simp [lessL]
  | _ :: _, _ :: _, h => by rcases h with h | h <;> cases h

/-- the two slices of arcs, cell by cell -/
def NatsAt (w : World) (g : Nat) (l : List Nat) : Prop := ∀ i (h : i < l.length), w.cell? ⟨g, i, none⟩ = some (.int .i64 (l[i] : Int))
theorem Sl.nats {w : World} {S : Nat → Prop} {g : Nat} {n c : Nat} {l : List Nat} (h : Sl RNat 1 w S l [.slice (some ⟨g, 0, none⟩) n c]) : NatsAt w g l := fun i hi => by
  obtain ⟨b, off, hA, hb', hc⟩ := h.natAt hi
  cases hA
  simpa using hc
theorem Sl.nats_lt {w : World} {S : Nat → Prop} {g : Nat} {n c : Nat} {l : List Nat} (h : Sl RNat 1 w S l [.slice (some ⟨g, 0, none⟩) n c]) (h0 : 0 < l.length) : S g := by
  obtain ⟨b, off, hA, hb', hc⟩ := h.natAt h0
  cases hA
  exact hb'
theorem NatsAt.below {w w' : World} {g : Nat} {l : List Nat} (h : NatsAt w g l) {B : Nat} (hg : g < B) (hb : Below B w w') : NatsAt w' g l := fun i hi => (hb.cell hg).trans (h i hi)



def underP (s b : List UInt8) : Bool := validB s && validB b && (decide (s = b) || Lib.hasPrefix s (b ++ [46]))
end Go.Proofs.YtepibepgfackkaaDoor
