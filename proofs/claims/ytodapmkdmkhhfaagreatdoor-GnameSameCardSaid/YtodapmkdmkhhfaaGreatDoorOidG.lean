/- The reference of package oid: the walk of arcs. -/
import Derived.Test.YtodapmkdmkhhfaaGreatDoorOid1
namespace Go.Proofs.YtodapmkdmkhhfaaGreatDoor
open Go.RowKit

def RefPost (w : World) (r : Option (List Nat)) (e : Ending) (w' : World) : Prop :=
  Below w.heap.size w w' ∧ match r with
    | none => e = .returned (.tuple #[.slice none 0 0, .bool false])
    | some l => ∃ g c, e = .returned (.tuple #[.slice (some ⟨g, 0, none⟩) l.length c, .bool true]) ∧ w.heap.size ≤ g ∧ Sl RNat 1 w' (Lt w'.heap.size) l [.slice (some ⟨g, 0, none⟩) l.length c]
theorem RefPost.none_ {w : World} {e : Ending} {w' : World} {r : Option (List Nat)} (h : r.bind refEnd = none) (hb : Below w.heap.size w w') (he : e = .returned (.tuple #[.slice Option.none 0 0, .bool false])) : RefPost w (r.bind refEnd) e w' := by rw [h]; exact ⟨hb, he⟩
theorem arcG_dig (d : List UInt8) (h1 : d.length ≠ 0) (h2 : d.length ≤ 10) (h3 : d.getD 0 0 = 48 → d.length = 1) : arcG d = arcK 0 d := by
  rw [arcG, if_neg]
  rintro (h | h | ⟨h, h'⟩)
  · omega
  · omega
  · have := h3 h; omega

theorem arcM_none {d : List UInt8} {n : Nat} (h : n = 12 ∨ d.length = 0 ∨ 10 < d.length ∨ (d.getD 0 0 = 48 ∧ 1 < d.length)) : arcM d n = none := by
  unfold arcM
  split
  · rfl
  · rw [arcG, if_pos]
    rcases h with h | h
    · contradiction
    · exact h
theorem getD0 (s : ByteArray) (hp : 0 < s.size) : s.data.toList.getD 0 0 = s[0] := by
  have := drop_string s 0 hp
  rw [List.drop_zero] at this
  rw [this]; rfl
theorem mem_byte (s : ByteArray) (k : Nat) (h : k < s.size) : s[k] ∈ s.data.toList := by
  have h2 : s[k] = s.data.toList[k]'(by simpa using h) := by simp [ByteArray.getElem_eq_getElem_data]
  rw [h2]; exact List.getElem_mem _
theorem isDig_le {c : UInt8} (h : isDig c = true) : 48 ≤ (c.toNat : Int) ∧ (c.toNat : Int) ≤ 57 := by simpa [isDig] using h
theorem isDig_no {c : UInt8} (h : ¬ (48 ≤ (c.toNat : Int) ∧ (c.toNat : Int) ≤ 57)) : isDig c = false := by simp [isDig]; omega
theorem refEnd_eq {l : List Nat} {a b : Nat} (h2 : ¬ l.length < 2) (ha : l.getD 0 0 = a) (hb : l.getD 1 0 = b) : refEnd l = if 2 < a ∨ (a < 2 ∧ 39 < b) then none else some l := by
  rw [refEnd, ha, hb]
  by_cases h : 2 < a ∨ (a < 2 ∧ 39 < b)
  · rw [if_pos h, if_pos (.inr h)]
  · rw [if_neg h, if_neg]
    rintro (h' | h')
    · exact h2 h'
    · exact h h'


end Go.Proofs.YtodapmkdmkhhfaaGreatDoor
