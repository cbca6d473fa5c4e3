/- More laws for memory: append from a source that may be nil. -/
import Derived.Test.YtbafpgdmnkkclaaDoorLib
import Derived.Laws.AppendOwnNone
namespace Go.Proofs.YtbafpgdmnkkclaaDoor
open Go.RowKit

/-- where the elements that are appended lie: nowhere, or behind an address -/
def Src {α : Type} (R : Rep α) (size : Nat) (w : World) (S : Nat → Prop) (x : Value) (ys : List α) : Prop :=
  (x = .slice none 0 0 ∧ ys = []) ∨ ∃ ad m c, x = .slice (some ad) m c ∧ m = ys.length ∧ ∀ i y, ys[i]? = some y → ∃ cs, R w S y cs ∧ ∀ j u, cs[j]? = some u → w.cell? (ad.add (i * size + j)) = some u
theorem Own.src {α : Type} {R : Rep α} {size : Nat} {e : TypeId} {w : World} {base : Nat} {S : Nat → Prop} {v : Value} {l : List α} (h : Own R size e w base S v l) : Src R size w S v l := by
  have h' := h
  obtain ⟨xs, ⟨hl, h1⟩, h2, h3⟩ := h
  rcases h1 with ⟨rfl, hn⟩ | ⟨g, cap, cur, rfl, hb, hg, hnc, hcm, hsz, htk⟩
  · exact .inl ⟨rfl, List.eq_nil_of_length_eq_zero hn⟩
  · refine .inr ⟨⟨g, 0, none⟩, l.length, cap, rfl, rfl, fun i y hy => ?_⟩
    obtain ⟨hi, rfl⟩ := List.getElem?_eq_some_iff.1 hy
    obtain ⟨g', cap', ys, hv, _, _, _, _, hr, hc, _⟩ := h'.at_ hi
    cases hv
    refine ⟨ys, hr, fun j u hu => ?_⟩
    rw [Addr.add_lit, Nat.zero_add]
    exact hc j u hu
theorem Src.keep {α : Type} {R : Rep α} {size : Nat} {w w' : World} {S S' : Nat → Prop} {x : Value} {ys : List α} (hR : RepOk R size) (h : Src R size w S x ys) (hk : ∀ k, S k → w'.heap[k]? = w.heap[k]?) (hS : ∀ k, S k → S' k)
    (hc : ∀ a u, w.cell? a = some u → w'.cell? a = some u) : Src R size w' S' x ys := by
  rcases h with h | ⟨ad, m, c, h1, h2, h3⟩
  · exact .inl h
  · refine .inr ⟨ad, m, c, h1, h2, fun i y hy => ?_⟩
    obtain ⟨cs, c1, c2⟩ := h3 i y hy
    exact ⟨cs, hR.mono c1 hk hS, fun j u hu => hc _ _ (c2 j u hu)⟩
theorem cell_grows {w w' : World} (h : Below w.heap.size w w') : ∀ (a : Addr) u, w.cell? a = some u → w'.cell? a = some u := fun a _ hu =>
  (h.cell (World.block_lt_of_cell? w a hu)).trans hu
theorem Src.grow {α : Type} {R : Rep α} {size : Nat} {w w' : World} {S : Nat → Prop} {x : Value} {ys : List α} (hR : RepOk R size) (h : Src R size w S x ys) (hS : ∀ k, S k → k < w.heap.size) (hb : Below w.heap.size w w') : Src R size w' S x ys :=
  h.keep hR (fun k hk => hb.block k (hS k hk)) (fun _ hk => hk) (cell_grows hb)

theorem BytesAt.src {w : World} {e : TypeId} {g : Nat} {l : List UInt8} (h : BytesAt w e g l) (S : Nat → Prop) {n c : Nat} (hn : n = l.length) : Src RByte 1 w S (.slice (some ⟨g, 0, none⟩) n c) l :=
  .inr ⟨⟨g, 0, none⟩, n, c, rfl, hn, fun i y hy => ⟨_, rfl, fun j u hu => by
    obtain ⟨hi, rfl⟩ := List.getElem?_eq_some_iff.1 hy
    match j, hu with
    | 0, hu =>
      simp [byteC] at hu; subst hu
      rw [Addr.add_lit, Nat.zero_add, Nat.mul_one, Nat.add_zero]
      exact h.cell hi⟩⟩

section
variable {P : Program} {α : Type} {R : Rep α} {size : Nat} {w : World} {ops : Array Oper} {rest : List Oper} {o : Oper} {a : Act} {Q : Exit → Act → World → Prop} {K : Act → World → Prop}
theorem wp_apps (hR : RepOk R size) (w : World) (s x : Operand) (t : TypeId) (ho : o.op = .call { callee := .builtin .append, args := #[s, x], argTypes := #[t, t] })
    (base : Nat) (e : TypeId) (z : Value) (bytes : Nat) (ht : P.underlying t = some (.slice e))
    (hi : (P.info? e).map (fun i => (i.zero, i.size, i.bytes)) = some (some z, size, bytes)) (hzs : z.cells.size = size) (hsz : 0 < size)
    (S : Nat → Prop) (v : Value) (l : List α) (hs : a.eval s = v) (hown : Own R size e w base S v l) (xv : Value) (ys : List α) (hx : a.eval x = xv) (hsrc : Src R size w S xv ys)
    (hS : ∀ k, S k → k < w.heap.size) (hbytes : (l.length + ys.length) * bytes ≤ 140737488355328) (h63 : l.length + ys.length ≤ maxLen) (hbase : base ≤ w.heap.size)
    (h : ∀ v' w', Own R size e w' base S v' (l ++ ys) → w.grownBy w' v.ownBlock → Below base w w' → (v'.ownBlock = v.ownBlock ∨ v'.ownBlock = some w.heap.size) → K (a.put o.dst v') w') : o.wp P a w K Q := by
  rcases hsrc with ⟨hxn, rfl⟩ | ⟨ad, m, c, hxs, hm, hys⟩
  · obtain ⟨i0, hi0, hz0, hz1, hz2⟩ := info_parts hi
    obtain ⟨xs, h1, h2, h3⟩ := hown
    have hrun := run_append_owned_none (P := P) (w := w) base t o.type e i0 size ht hi0 v l.length xs h1
    have hK := h v w (by rw [List.append_nil]; exact ⟨xs, h1, h2, h3⟩) ⟨rfl, rfl, rfl, Nat.le_refl _, fun _ _ _ => rfl⟩ (Below.refl _ _) (.inl rfl)
    unfold Oper.wp execOp
    simp [ho, resolve, invoke, builtin, hs, hx, hxn, hrun, Result.andThen]
    exact hK
  · exact wp_app hR w s x t ho base e z bytes ht hi hzs hsz S v l hs hown ad m c ys (hx.trans hxs) hm hys hS hbytes h63 hbase h
theorem wpList_apps (hR : RepOk R size) (w : World) (hgd : o.guard = none) (s x : Operand) (t : TypeId) (ho : o.op = .call { callee := .builtin .append, args := #[s, x], argTypes := #[t, t] })
    (base : Nat) (e : TypeId) (z : Value) (bytes : Nat) (ht : P.underlying t = some (.slice e))
    (hi : (P.info? e).map (fun i => (i.zero, i.size, i.bytes)) = some (some z, size, bytes)) (hzs : z.cells.size = size) (hsz : 0 < size)
    (S : Nat → Prop) (v : Value) (l : List α) (hs : a.eval s = v) (hown : Own R size e w base S v l) (xv : Value) (ys : List α) (hx : a.eval x = xv) (hsrc : Src R size w S xv ys)
    (hS : ∀ k, S k → k < w.heap.size) (hbytes : (l.length + ys.length) * bytes ≤ 140737488355328) (h63 : l.length + ys.length ≤ maxLen) (hbase : base ≤ w.heap.size)
    (h : ∀ v' w', Own R size e w' base S v' (l ++ ys) → w.grownBy w' v.ownBlock → Below base w w' → (v'.ownBlock = v.ownBlock ∨ v'.ownBlock = some w.heap.size) → wpList P ops Q rest (a.put o.dst v') w') : wpList P ops Q (o :: rest) a w :=
  wpList_plain hgd fun _ hK => wp_apps hR w s x t ho base e z bytes ht hi hzs hsz S v l hs hown xv ys hx hsrc hS hbytes h63 hbase fun v' w' h2 h3 h4 h5 => hK _ _ (h v' w' h2 h3 h4 h5)
theorem step_apps {E : Prop} (hR : RepOk R size) (w : World) (hgd : o.guard = none) (s x : Operand) (t : TypeId) (ho : o.op = .call { callee := .builtin .append, args := #[s, x], argTypes := #[t, t] })
    (base : Nat) (e : TypeId) (z : Value) (bytes : Nat) (ht : P.underlying t = some (.slice e))
    (hi : (P.info? e).map (fun i => (i.zero, i.size, i.bytes)) = some (some z, size, bytes)) (hzs : z.cells.size = size) (hsz : 0 < size)
    (S : Nat → Prop) (v : Value) (l : List α) (hs : a.eval s = v) (hown : Own R size e w base S v l) (xv : Value) (ys : List α) (hx : a.eval x = xv) (hsrc : Src R size w S xv ys)
    (hS : ∀ k, S k → k < w.heap.size) (hbytes : (l.length + ys.length) * bytes ≤ 140737488355328) (h63 : l.length + ys.length ≤ maxLen) (hbase : base ≤ w.heap.size)
    (h : ∀ v' w', Own R size e w' base S v' (l ++ ys) → w.grownBy w' v.ownBlock → Below base w w' → (v'.ownBlock = v.ownBlock ∨ v'.ownBlock = some w.heap.size) → K (a.put o.dst v') w') :
    if Region.wanted o (yielded ops a.tmps) = true then Oper.wp P o a w K Q else E := by
  have hw : Region.wanted o (yielded ops a.tmps) = true := by simp [Region.wanted, hgd]
  rw [if_pos hw]
  exact wp_apps hR w s x t ho base e z bytes ht hi hzs hsz S v l hs hown xv ys hx hsrc hS hbytes h63 hbase h
end
end Go.Proofs.YtbafpgdmnkkclaaDoor
