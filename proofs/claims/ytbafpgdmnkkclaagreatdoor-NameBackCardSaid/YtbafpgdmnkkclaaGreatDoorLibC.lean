/- More laws for memory: a copy of a slice that came in, 'append([]T(nil), l...)'. -/
import Derived.Test.YtbafpgdmnkkclaaGreatDoorLib3
namespace Go.Proofs.YtbafpgdmnkkclaaGreatDoor
open Go.RowKit

section
variable {P : Program} {α : Type} {R : Rep α} {size : Nat} {w : World} {ops : Array Oper} {rest : List Oper} {o : Oper} {a : Act} {Q : Exit → Act → World → Prop} {K : Act → World → Prop}
theorem run_append_owned_zero (base : Nat) (t ty e : TypeId) (i : TypeInfo) (size : Nat) (ht : P.underlying t = some (.slice e)) (hi : P.info? e = some i)
    (v : Value) (n : Nat) (xs : List Value) (hown : w.ownsRow base e size v n xs) (A : Option Addr) (c : Nat) :
    (Builtin.append_ #[t, t] ty #[v, .slice A 0 c]).run P w = .ok v w := by
  rcases hown.2 with ⟨rfl, rfl⟩ | ⟨g, cap, cur, rfl, _, _, hnc, _⟩
  · cases A <;> simp [Builtin.append_, run_underlying ht, sizeOf, typeInfo, hi, Builtin.lenOf, Builtin.firstCells, loadCells, loadCellsFrom]
  · cases A <;> simp [Builtin.append_, run_underlying ht, sizeOf, typeInfo, hi, Builtin.lenOf, Builtin.firstCells, hnc, storeCells, loadCells, loadCellsFrom]
/-- where the elements of a slice that is not empty lie -/
theorem sl_src {S : Nat → Prop} {A : Option Addr} {c : Nat} {l : List α} (h : Sl R size w S l [.slice A l.length c]) (hl : l ≠ []) :
    ∃ ad : Addr, A = some ad ∧ ∀ i y, l[i]? = some y → ∃ cs, R w S y cs ∧ ∀ j u, cs[j]? = some u → w.cell? (ad.add (i * size + j)) = some u := by
  obtain ⟨A', c', e, _, _, h3⟩ := h
  simp only [List.cons.injEq, Value.slice.injEq, and_true] at e
  obtain ⟨rfl, -, rfl⟩ := e
  obtain ⟨b, off, hA, hb, hh⟩ := h3 (List.length_pos_iff.2 hl)
  refine ⟨_, hA, fun i y hy => ?_⟩
  obtain ⟨cs, h1, h2⟩ := hh i y hy
  refine ⟨cs, h1, fun j u hu => ?_⟩
  rw [Addr.add_lit]
  exact h2 j u hu
theorem wp_copy (hR : RepOk R size) (w : World) (s x : Operand) (t : TypeId) (ho : o.op = .call { callee := .builtin .append, args := #[s, x], argTypes := #[t, t] })
    (base : Nat) (e : TypeId) (z : Value) (bytes : Nat) (ht : P.underlying t = some (.slice e))
    (hi : (P.info? e).map (fun i => (i.zero, i.size, i.bytes)) = some (some z, size, bytes)) (hzs : z.cells.size = size) (hsz : 0 < size)
    (S S' : Nat → Prop) (hRS : ∀ y cs, R w S y cs → R w S' y cs) (hs : a.eval s = .slice none 0 0) (A : Option Addr) (c : Nat) (l : List α) (hx : a.eval x = .slice A l.length c) (hsrc : Sl R size w S l [.slice A l.length c])
    (hS : ∀ k, S' k → k < w.heap.size) (hbytes : l.length * bytes ≤ 140737488355328) (hbase : base ≤ w.heap.size)
    (h : ∀ v' w', Own R size e w' base S' v' l → Below w.heap.size w w' → (v' = .slice none 0 0 ∨ v'.ownBlock = some w.heap.size) → K (a.put o.dst v') w') : o.wp P a w K Q := by
  have hlen := hsrc.len_
  by_cases hl : l = []
  · subst hl
    obtain ⟨i0, hi0, hz0, hz1, hz2⟩ := info_parts hi
    have hnil := Own.nil R size e w base S'
    obtain ⟨xs, h1, h2, h3⟩ := hnil
    have hrun := run_append_owned_zero (P := P) (w := w) base t o.type e i0 size ht hi0 (.slice none 0 0) 0 xs h1 A c
    have hK := h (.slice none 0 0) w (Own.nil R size e w base S') (Below.refl _ _) (.inl rfl)
    have hx' : a.eval x = .slice A 0 c := hx
    unfold Oper.wp execOp
    simp [ho, resolve, invoke, builtin, hs, hx', hrun, Result.andThen]
    exact hK
  · obtain ⟨ad, rfl, hy⟩ := sl_src hsrc hl
    refine wp_app hR w s x t ho base e z bytes ht hi hzs hsz S' (.slice none 0 0) [] hs (Own.nil R size e w base S') ad l.length c l hx rfl (fun i y hi => (hy i y hi).imp fun cs h => ⟨hRS y cs h.1, h.2⟩) hS (by simpa using hbytes) (by have := hlen.2; unfold maxLen at *; simp only [List.length_nil, Nat.zero_add]; omega) hbase (fun v' w' h2 h3 h4 h5 => ?_)
    rw [List.nil_append] at h2
    refine h v' w' h2 ⟨h3.os, h3.tape, h3.output, h3.size, fun k hk => h3.block k hk (by simp [Value.ownBlock])⟩ ?_
    rcases h5 with h5 | h5
    · exfalso
      have hb : v'.ownBlock = none := by rw [h5]; rfl
      obtain ⟨xs, h6, -, -⟩ := h2
      rcases h6.2 with ⟨-, h7⟩ | ⟨g, cap, cur, rfl, -⟩
      · exact hl (List.eq_nil_of_length_eq_zero h7)
      · simp [Value.ownBlock] at hb
    · exact .inr h5
theorem wpList_copy (hR : RepOk R size) (w : World) (hgd : o.guard = none) (s x : Operand) (t : TypeId) (ho : o.op = .call { callee := .builtin .append, args := #[s, x], argTypes := #[t, t] })
    (base : Nat) (e : TypeId) (z : Value) (bytes : Nat) (ht : P.underlying t = some (.slice e))
    (hi : (P.info? e).map (fun i => (i.zero, i.size, i.bytes)) = some (some z, size, bytes)) (hzs : z.cells.size = size) (hsz : 0 < size)
    (S S' : Nat → Prop) (hRS : ∀ y cs, R w S y cs → R w S' y cs) (hs : a.eval s = .slice none 0 0) (A : Option Addr) (c : Nat) (l : List α) (hx : a.eval x = .slice A l.length c) (hsrc : Sl R size w S l [.slice A l.length c])
    (hS : ∀ k, S' k → k < w.heap.size) (hbytes : l.length * bytes ≤ 140737488355328) (hbase : base ≤ w.heap.size)
    (h : ∀ v' w', Own R size e w' base S' v' l → Below w.heap.size w w' → (v' = .slice none 0 0 ∨ v'.ownBlock = some w.heap.size) → wpList P ops Q rest (a.put o.dst v') w') : wpList P ops Q (o :: rest) a w :=
  wpList_plain hgd fun _ hK => wp_copy hR w s x t ho base e z bytes ht hi hzs hsz S S' hRS hs A c l hx hsrc hS hbytes hbase fun v' w' h2 h3 h4 => hK _ _ (h v' w' h2 h3 h4)
end
end Go.Proofs.YtbafpgdmnkkclaaGreatDoor
