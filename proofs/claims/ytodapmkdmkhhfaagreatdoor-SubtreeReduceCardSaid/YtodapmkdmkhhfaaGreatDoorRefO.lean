/- The reference's Reduce, in plain Lean: the kinds that are limited. -/
import Derived.Test.YtodapmkdmkhhfaaGreatDoorGn3
namespace Go.Proofs.YtodapmkdmkhhfaaGreatDoor
open Go.RowKit

theorem insK_sorted {l : List Int} {k : Int} (h : l.Pairwise (fun a b => a < b)) : (insK l k).Pairwise (fun a b => a < b) := by
  unfold insK
  split
  · rename_i hc
    have hp := posK_le l k
    have hlow : ∀ x ∈ l.take (posK l k), x < k := fun x hx => by
      obtain ⟨i, hi, rfl⟩ := List.getElem_of_mem hx
      rw [List.length_take] at hi
      obtain ⟨_, h2⟩ := posK_lt l k i (by omega)
      rw [List.getElem_take]
      exact h2
    have hhigh : ∀ x ∈ l.drop (posK l k), k < x := fun x hx => by
      obtain ⟨i, hi, rfl⟩ := List.getElem_of_mem hx
      rw [List.length_drop] at hi
      have hlt : posK l k < l.length := by omega
      have h0 := posK_at l k hlt
      have hne : l[posK l k] ≠ k := by
        rcases hc with hc | hc
        · omega
        · rw [List.getD_eq_getElem?_getD, List.getElem?_eq_getElem hlt] at hc
          exact hc
      rw [List.getElem_drop]
      rcases Nat.eq_zero_or_pos i with rfl | hi0
      · simp only [Nat.add_zero]; omega
      · have := List.pairwise_iff_getElem.1 h (posK l k) (posK l k + i) hlt (by omega) (by omega)
        omega
    rw [List.pairwise_append]
    refine ⟨h.sublist (List.take_sublist _ _), List.pairwise_cons.2 ⟨hhigh, h.sublist (List.drop_sublist _ _)⟩, fun x hx y hy => ?_⟩
    rcases List.mem_cons.1 hy with rfl | hy
    · exact hlow x hx
    · have h1 := hlow x hx
      have h2 := hhigh y hy
      omega
  · exact h
theorem limFold_sorted : ∀ (l : List Gen) (acc : List Int), acc.Pairwise (fun a b => a < b) → (l.foldl limStep acc).Pairwise (fun a b => a < b)
  | [], _, h => h
  | g :: l, acc, h => by
    rw [List.foldl_cons]
    refine limFold_sorted l _ ?_
    unfold limStep
    split
    · exact insK_sorted h
    · exact h
theorem limAll_sorted : ∀ (st : List Sub) (acc : List Int), acc.Pairwise (fun a b => a < b) → (st.foldl (fun l s => s.1.foldl limStep l) acc).Pairwise (fun a b => a < b)
  | [], _, h => h
  | s :: st, acc, h => by
    rw [List.foldl_cons]
    exact limAll_sorted st _ (limFold_sorted s.1 acc h)
theorem sorted_ext : ∀ {a b : List Int}, a.Pairwise (fun a b => a < b) → b.Pairwise (fun a b => a < b) → (∀ x, x ∈ a ↔ x ∈ b) → a = b
  | [], [], _, _, _ => rfl
  | [], y :: b, _, _, h => by have := (h y).2 (by simp); simp at this
  | x :: a, [], _, _, h => by have := (h x).1 (by simp); simp at this
  | x :: a, y :: b, ha, hb, h => by
    obtain ⟨ha1, ha2⟩ := List.pairwise_cons.1 ha
    obtain ⟨hb1, hb2⟩ := List.pairwise_cons.1 hb
    have hxy : x = y := by
      rcases List.mem_cons.1 ((h x).1 (by simp)) with e | h1
      · exact e
      · rcases List.mem_cons.1 ((h y).2 (by simp)) with e | h2
        · exact e.symm
        · have := ha1 y h2
          have := hb1 x h1
          omega
    subst hxy
    rw [sorted_ext ha2 hb2 (fun z => ⟨fun hz => ?_, fun hz => ?_⟩)]
    · rcases List.mem_cons.1 ((h z).1 (by simp [hz])) with e | h1
      · have := ha1 z hz; omega
      · exact h1
    · rcases List.mem_cons.1 ((h z).2 (by simp [hz])) with e | h1
      · have := hb1 z hz; omega
      · exact h1

def limAny (st : List Sub) (k : Int) : Bool := st.any (fun s => limitsG s.1 k)
/-- the kinds that are limited, as the reference finds them -/
def refLim (st : List Sub) : List Int := ([1, 2, 4, 7] : List Int).filter (limAny st)
theorem knownK_iff (k : Int) : knownK k = true ↔ k ∈ ([1, 2, 4, 7] : List Int) := by
  unfold knownK
  simp [or_assoc]
theorem redLim_eq (st : List Sub) : redLim st = refLim st := by
  refine sorted_ext (limAll_sorted st [] List.Pairwise.nil) ((List.Pairwise.sublist List.filter_sublist (by decide : ([1, 2, 4, 7] : List Int).Pairwise (fun a b => a < b)))) (fun x => ?_)
  rw [redLim, limAll, refLim, List.mem_filter, ← knownK_iff]
  simp [limAny, limits_iff]
/-- what the reference does with a kind -/
def refStep (st : List Sub) (l : List Gen) (k : Int) : List Gen := if limAny st k = true then st.foldl (fun l s => s.1.foldl (perStep st k) l) l else l
theorem refPer_eq (st : List Sub) : redPer st (redLim st) = ([1, 2, 4, 7] : List Int).foldl (refStep st) [] := by
  rw [redLim_eq, redPer, refLim, List.foldl_filter]
  rfl
def everyG (st : List Sub) (k : Int) (g : Gen) : Bool := st.all (fun o => !(limitsG o.1 k) || insideG g o.1)
theorem every_allows (st : List Sub) (k : Int) (g : Gen) : (g.1 == k && everyG st k g) = (g.1 == k && allowsG st g) := by
  by_cases h : g.1 = k
  · subst h; rfl
  · rw [beq_false_of_ne h, Bool.false_and, Bool.false_and]
end Go.Proofs.YtodapmkdmkhhfaaGreatDoor
