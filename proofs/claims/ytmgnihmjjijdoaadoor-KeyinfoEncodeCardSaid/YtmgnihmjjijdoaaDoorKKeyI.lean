/- The reference's DecodeKey. -/
import Derived.Test.YtmgnihmjjijdoaaDoorKKeyG
namespace Go.Proofs.YtmgnihmjjijdoaaDoor
open Go.RowKit
def KX (g : Nat) (h : Int) (i r : ByteArray) (W : World) : Prop := W.heap[g]? = some (.cells #[.int .i64 h, .string i, .string r] 23 (0, 0))
theorem KX.facts {g : Nat} {h : Int} {i r : ByteArray} {W : World} (k : KX g h i r W) : W.cell? ⟨g, 0, none⟩ = some (.int .i64 h) ∧ W.cell? ⟨g, 1, none⟩ = some (.string i) ∧ W.cell? ⟨g, 2, none⟩ = some (.string r) ∧
  W.frozen? ⟨g, 0, none⟩ = false ∧ W.frozen? ⟨g, 1, none⟩ = false ∧ W.frozen? ⟨g, 2, none⟩ = false := by
 unfold KX at k
 simp [World.cell?, World.frozen?, k]
theorem KX.lt {g : Nat} {h : Int} {i r : ByteArray} {W : World} (k : KX g h i r W) : g < W.heap.size := (Array.getElem?_eq_some_iff.1 k).1
theorem KX.below {g : Nat} {h : Int} {i r : ByteArray} {W W' : World} (k : KX g h i r W) (hb : Below W.heap.size W W') : KX g h i r W' := (hb.block g k.lt).trans k
theorem KX.ex {g d : Nat} {h : Int} {i r : ByteArray} {W W' : World} (k : KX g h i r W) (hx : Ex d W W') (hne : g ≠ d) : KX g h i r W' := (hx.block g k.lt (fun e => hne (Option.some.inj e))).trans k
theorem KX.new (w : World) (h : Int) (i r : ByteArray) : KX w.heap.size h i r (w.alloc (.cells #[.int .i64 h, .string i, .string r] 23)) := heap_alloc_new w _
theorem KX.store {g : Nat} {h : Int} {i r : ByteArray} {W : World} (k : KX g h i r W) (a b c : Value) :
  (((W.setCell ⟨g, 0, none⟩ a).setCell ⟨g, 1, none⟩ b).setCell ⟨g, 2, none⟩ c).cell? ⟨g, 0, none⟩ = some a ∧ (((W.setCell ⟨g, 0, none⟩ a).setCell ⟨g, 1, none⟩ b).setCell ⟨g, 2, none⟩ c).cell? ⟨g, 1, none⟩ = some b ∧
  (((W.setCell ⟨g, 0, none⟩ a).setCell ⟨g, 1, none⟩ b).setCell ⟨g, 2, none⟩ c).cell? ⟨g, 2, none⟩ = some c := by
 unfold KX at k
 simp [World.cell?, World.setCell, Array.getElem?_modify, k]
def decKR : Except Int Key → Value
 | .error k => .tuple #[.agg #[.int .i64 0, .string ⟨#[]⟩, .string ⟨#[]⟩], .int .i64 k]
 | .ok k => .tuple #[.agg #[.int .i64 k.1, .string ⟨k.2.1.toArray⟩, .string ⟨k.2.2.toArray⟩], .int .i64 0]
def decKG : Except Int (List Elt) → Except Int Key
 | .error k => .error k
 | .ok l => decKl l
def decKO : Except Int Elt → Except Int Key
 | .error k => .error k
 | .ok e => if e.1 ≠ 48 then .error 5 else decKG (listF e.2.1)
theorem decK_one (b : List UInt8) : decK b = decKO (oneF b) := by
  unfold decK decKO
  cases oneF b with
  | error k => rfl
  | ok e =>
    simp only
    split
    · rfl
    · cases listF e.2.1 <;> rfl
theorem two_keys (w : World) : ∃ W, W = (w.alloc (.cells #[.int .i64 0, .string ⟨#[]⟩, .string ⟨#[]⟩] 23)).alloc (.cells #[.int .i64 0, .string ⟨#[]⟩, .string ⟨#[]⟩] 23) ∧
  Below w.heap.size w W ∧ KX w.heap.size 0 ⟨#[]⟩ ⟨#[]⟩ W ∧ KX (w.heap.size + 1) 0 ⟨#[]⟩ ⟨#[]⟩ W ∧ W.heap.size = w.heap.size + 2 := by
 have z1 : (w.alloc (.cells #[.int .i64 0, .string ⟨#[]⟩, .string ⟨#[]⟩] 23)).heap.size = w.heap.size + 1 := by simp
 have h1 := KX.new (w.alloc (.cells #[.int .i64 0, .string ⟨#[]⟩, .string ⟨#[]⟩] 23)) 0 ⟨#[]⟩ ⟨#[]⟩
 rw [z1] at h1
 refine ⟨_, rfl, ((Below.refl _ _).alloc (Nat.le_refl _) _).alloc (by omega) _, (KX.new w 0 ⟨#[]⟩ ⟨#[]⟩).below ((Below.refl _ _).alloc (Nat.le_refl _) _), h1, by simp⟩
end Go.Proofs.YtmgnihmjjijdoaaDoor
