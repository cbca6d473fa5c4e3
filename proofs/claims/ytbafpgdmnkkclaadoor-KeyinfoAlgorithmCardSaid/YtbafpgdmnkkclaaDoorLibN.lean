/- Arguments opened: strings, integers, slices of what can be opened, structs. -/
import Derived.Test.YtbafpgdmnkkclaaDoorLibR
import Derived.Deep.Slices
namespace Go.Proofs.YtbafpgdmnkkclaaDoor
open Go.RowKit Go.ChangeShapes Go.WideShapes Go.ChangeAt Go.Deep

section
variable {H : Type} {enc : TypeId × Value → H} {P : Program} {W : World}

/-- the cells from an address on -/
def w_cells (W : World) (a : Addr) (k : Nat) (cs : List Value) : Prop := ∀ j u, cs[j]? = some u → W.cell? (a.add (k + j)) = some u
/-- what is read at a type is there, and stands for something -/
def Opn {α : Type} (enc : TypeId × Value → H) (P : Program) (W : World) (t : TypeId) (R : Rep α) : Prop :=
  ∀ (fuel : Nat) (cs : List Value) (x : DataW H × List MemPlace), DataW.trod enc P W 0 (fun _ => true) true fuel t cs = some x → ∃ a, R W (Lt W.heap.size) a cs
theorem Opn.string {t : TypeId} (ht : P.underlying t = some .string) : Opn enc P W t RStr := fun fuel cs x h => by
  obtain ⟨s, rfl, _, _⟩ := DataW.trod_string ht h
  exact ⟨s.data.toList, rfl⟩
theorem Opn.int {t : TypeId} (ht : P.underlying t = some (.int .i64)) : Opn enc P W t RInt := fun fuel cs x h => by
  obtain ⟨n, rfl, _, _⟩ := DataW.trod_int ht h
  exact ⟨n, rfl⟩
theorem Opn.slice {α : Type} {R : Rep α} {size : Nat} {t e : TypeId} (ht : P.underlying t = some (.slice e)) (hc : P.cellsOf e = size) (hz : 0 < size) (hR : RepOk R size) (ho : Opn enc P W e R) : Opn enc P W t (Sl R size) := fun fuel cs x h => by
  subst hc
  rcases open_slice ht h with ⟨rfl, _⟩ | ⟨a, len, cap, m, n, D, Pl, rfl, _, hl, hm, hmm, _, hi⟩
  · exact ⟨[], Sl.nil _ _ _ _⟩
  · simp only [if_true] at hmm
    have hall : ∀ i, i < len → ∃ y cs', w_cells W a (i * P.cellsOf e) cs' ∧ R W (Lt W.heap.size) y cs' := fun i hil => by
      obtain ⟨cs', hcs, ht'⟩ := hi i (by omega)
      obtain ⟨y, hy⟩ := ho _ _ _ ht'
      obtain ⟨_, hcl, hat⟩ := World.cells?_some hcs
      refine ⟨y, cs', fun j u hu => ?_, hy⟩
      have hj : j < P.cellsOf e := by have := (List.getElem?_eq_some_iff.1 hu).1; omega
      rw [← Addr.add_add, hat j hj, hu]
    obtain ⟨f, hf⟩ : ∃ f : (i : Nat) → i < len → α, ∀ i (hil : i < len), ∃ cs', w_cells W a (i * P.cellsOf e) cs' ∧ R W (Lt W.heap.size) (f i hil) cs' :=
      ⟨fun i hil => (hall i hil).choose, fun i hil => (hall i hil).choose_spec⟩
    have hlen : (List.ofFn fun i : Fin len => f i.1 i.2).length = len := by simp
    refine ⟨List.ofFn fun i : Fin len => f i.1 i.2, some a, cap, by rw [hlen], by rw [hlen]; exact hl, hm, fun h0 => ?_⟩
    rw [hlen] at h0
    obtain ⟨cs', hw, hr⟩ := hf 0 h0
    have hcl := hR.len hr
    have h1 : W.cell? a = some (cs'[0]'(by omega)) := by
      have := hw 0 _ (List.getElem?_eq_getElem (by omega))
      simpa [Addr.add] using this
    obtain ⟨b, off, sp⟩ := a
    obtain rfl : sp = none := by
      unfold World.cell? at h1
      split at h1
      · cases sp with
        | none => rfl
        | some s => simp at h1
      · cases h1
    refine ⟨b, off, rfl, World.block_lt_of_cell? W _ h1, fun i y hy => ?_⟩
    obtain ⟨hil, hy⟩ := List.getElem?_eq_some_iff.1 hy
    rw [hlen] at hil
    obtain ⟨cs', hw, hr⟩ := hf i hil
    refine ⟨cs', by rw [← hy]; simpa using hr, fun j u hu => ?_⟩
    have := hw j u hu
    rw [Addr.add_lit] at this
    exact this
end
end Go.Proofs.YtbafpgdmnkkclaaDoor
