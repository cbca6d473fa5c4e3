/- The reference's Reduce: what its variables hold. -/
import Derived.Test.YtodapmkdmkhhfaaGreatDoorRefP
import Derived.Test.YtodapmkdmkhhfaaGreatDoorRefO
import Derived.Test.YtodapmkdmkhhfaaGreatDoorGn4
namespace Go.Proofs.YtodapmkdmkhhfaaGreatDoor
open Go.RowKit

/-- the list of the four kinds -/
def KB (g : Nat) (W : World) : Prop := W.heap[g]? = some (.cells #[.int .i64 1, .int .i64 2, .int .i64 4, .int .i64 7] 3 (0, 0))
theorem KB.facts {g : Nat} {W : World} (h : KB g W) : W.cell? ⟨g, 0, none⟩ = some (.int .i64 1) ∧ W.cell? ⟨g, 1, none⟩ = some (.int .i64 2) ∧ W.cell? ⟨g, 2, none⟩ = some (.int .i64 4) ∧ W.cell? ⟨g, 3, none⟩ = some (.int .i64 7) := by
  unfold KB at h
  simp [World.cell?, h]
theorem KB.at_ {g : Nat} {W : World} (h : KB g W) {u : Nat} (hu : u < 4) {kk : Int} (hkk : ([1, 2, 4, 7] : List Int)[u]? = some kk) : W.cell? ⟨g, u, none⟩ = some (.int .i64 kk) := by
  obtain ⟨h0, h1, h2, h3⟩ := h.facts
  match u, hu, hkk with
  | 0, _, hkk => simp at hkk; subst hkk; exact h0
  | 1, _, hkk => simp at hkk; subst hkk; exact h1
  | 2, _, hkk => simp at hkk; subst hkk; exact h2
  | 3, _, hkk => simp at hkk; subst hkk; exact h3
theorem KB.lt {g : Nat} {W : World} (h : KB g W) : g < W.heap.size := (Array.getElem?_eq_some_iff.1 h).1
theorem KB.base {g B : Nat} {W W' : World} (h : KB g W) (hb : Below B W W') (hg : g < B) : KB g W' := (hb.block g hg).trans h
theorem KB.other {g k j : Nat} {W : World} (h : KB g W) (hk : g ≠ k) (a : Value) : KB g (W.setCell ⟨k, j, none⟩ a) := (Below.heap_setCell W ⟨k, j, none⟩ a g hk).trans h

/-- an own list, while another own list grows and a variable below is set -/
theorem Own.aside {α : Type} {R : Rep α} {size : Nat} {e : TypeId} {w W : World} {base g j : Nat} {S0 : Nat → Prop} {v : Value} {l : List α} (hR : RepOk R size) (h : Own R size e w base S0 v l) {o : Option Nat} (hg : w.grownBy W o) (ho : ∀ b, v.ownBlock = some b → o ≠ some b) (hob : ∀ b, o = some b → base ≤ b) (hs : ∀ k, S0 k → k < g) (hgb : g < base) (hbw : base ≤ w.heap.size) (u : Value) :
    Own R size e (W.setCell ⟨g, j, none⟩ u) base S0 v l := by
  refine Own.keep hR h (fun k hk => ?_) (fun k hk => ?_) (fun _ hk => hk) (by obtain ⟨_, _, h2, _⟩ := h; exact h2)
  · have hlt := h.lt k hk
    exact (Below.heap_setCell W ⟨g, j, none⟩ u k (by show k ≠ g; omega)).trans (hg.block k hlt.2 (fun e => ho k hk e.symm))
  · have hk' := hs k hk
    exact (Below.heap_setCell W ⟨g, j, none⟩ u k (by show k ≠ g; omega)).trans (hg.block k (by omega) (fun e => by have := hob k e.symm; omega))
theorem Own.mine {α : Type} {R : Rep α} {size : Nat} {e : TypeId} {W : World} {base g j : Nat} {S0 : Nat → Prop} {v : Value} {l : List α} (hR : RepOk R size) (h : Own R size e W base S0 v l) (hs : ∀ k, S0 k → k < g) (hgb : g < base) (u : Value) :
    Own R size e (W.setCell ⟨g, j, none⟩ u) base S0 v l :=
  Own.keep hR h (fun k hk => Below.heap_setCell W ⟨g, j, none⟩ u k (by have := (h.lt k hk).1; show k ≠ g; omega)) (fun k hk => Below.heap_setCell W ⟨g, j, none⟩ u k (by have hk' := hs k hk; show k ≠ g; omega)) (fun _ hk => hk) (by obtain ⟨_, _, h2, _⟩ := h; exact h2)

/-- the state of the reference's Reduce -/
def QI (w : World) (S0 : Nat → Prop) (base g1 g2 g3 g4 : Nat) (vs : Value) (L P X : Option Addr) (cl cp cx : Nat) (lim : List Int) (per ex : List Gen) (wr : World) : Prop :=
  Below w.heap.size w wr ∧ base ≤ wr.heap.size ∧ TB g1 vs wr ∧ RB g2 (.slice none 0 0) (.slice none 0 0) (.slice none 0 0) wr ∧ RB g3 (.slice L lim.length cl) (.slice P per.length cp) (.slice X ex.length cx) wr ∧ KB g4 wr ∧
    Own RInt 1 3 wr base S0 (.slice L lim.length cl) lim ∧ Own RGen 3 32 wr base S0 (.slice P per.length cp) per ∧ Own RGen 3 32 wr base S0 (.slice X ex.length cx) ex ∧
    (∀ b, (Value.slice L lim.length cl).ownBlock = some b → (Value.slice P per.length cp).ownBlock ≠ some b ∧ (Value.slice X ex.length cx).ownBlock ≠ some b) ∧ (∀ b, (Value.slice P per.length cp).ownBlock = some b → (Value.slice X ex.length cx).ownBlock ≠ some b) ∧ ∀ k, S0 k → k < w.heap.size
section
variable {w : World} {S0 : Nat → Prop} {base g1 g2 g3 g4 : Nat} {vs : Value} {L P X : Option Addr} {cl cp cx : Nat} {lim : List Int} {per ex : List Gen} {wr W : World}
theorem QI.below (h : QI w S0 base g1 g2 g3 g4 vs L P X cl cp cx lim per ex wr) (hb : Below wr.heap.size wr W) : QI w S0 base g1 g2 g3 g4 vs L P X cl cp cx lim per ex W := by
  obtain ⟨h1, h2, h3, h4, h5, h6, h7, h8, h9, h10, h11, h12⟩ := h
  have hz := hb.size
  have hl : ∀ k, S0 k → k < wr.heap.size := fun k hk => Nat.lt_of_lt_of_le (h12 k hk) h1.size
  exact ⟨h1.trans (hb.mono h1.size), by omega, h3.base hb h3.lt, h4.base hb h4.lt, h5.base hb h5.lt, h6.base hb h6.lt, h7.below RInt.ok hl hb, h8.below RGen.ok hl hb, h9.below RGen.ok hl hb, h10, h11, h12⟩
theorem QI.lim_ {L' : Option Addr} {cl' : Nat} {lim' : List Int} (h : QI w S0 base g1 g2 g3 g4 vs L P X cl cp cx lim per ex wr) (hw : w.heap.size ≤ g3) (hwb : w.heap.size ≤ base) (h1b : g1 < base) (h2b : g2 < base) (h4b : g4 < base) (h13 : g1 ≠ g3) (h23 : g2 ≠ g3) (h43 : g4 ≠ g3) (h3b : g3 < base)
    (hg : wr.grownBy W (Value.slice L lim.length cl).ownBlock) (hown : Own RInt 1 3 W base S0 (.slice L' lim'.length cl') lim') (hat : (Value.slice L' lim'.length cl').ownBlock = (Value.slice L lim.length cl).ownBlock ∨ ∃ g, (Value.slice L' lim'.length cl').ownBlock = some g ∧ wr.heap.size ≤ g) :
    QI w S0 base g1 g2 g3 g4 vs L' P X cl' cp cx lim' per ex (W.setCell ⟨g3, 0, none⟩ (.slice L' lim'.length cl')) := by
  obtain ⟨h1, h2, h3, h4, h5, h6, h7, h8, h9, h10, h11, h12⟩ := h
  have hgz := hg.size
  have hz : (W.setCell ⟨g3, 0, none⟩ (.slice L' lim'.length cl')).heap.size = W.heap.size := by simp
  have hb : Below base wr W := ⟨hg.os, hg.tape, hg.output, hg.size, fun k hk => hg.block k (by omega) (fun e => by have := (h7.lt k e.symm).1; omega)⟩
  have hob : ∀ b, (Value.slice L lim.length cl).ownBlock = some b → base ≤ b := fun b hb => (h7.lt b hb).1
  refine ⟨(h1.trans (hb.mono hwb)).setCell (p := ⟨g3, 0, none⟩) hw _, by omega, (h3.base hb h1b).other h13 _, (h4.base hb h2b).other h23 _, (h5.base hb h3b).store0 _, (h6.base hb h4b).other h43 _, hown.mine RInt.ok (fun k hk => Nat.lt_of_lt_of_le (h12 k hk) hw) h3b _, h8.aside RGen.ok hg (fun b hb e => (h10 b e).1 hb) hob (fun k hk => Nat.lt_of_lt_of_le (h12 k hk) hw) h3b h2 _, h9.aside RGen.ok hg (fun b hb e => (h10 b e).2 hb) hob (fun k hk => Nat.lt_of_lt_of_le (h12 k hk) hw) h3b h2 _, fun b hb' => ?_, h11, h12⟩
  rcases hat with h | ⟨g, hgv, hgl⟩
  · exact h10 b (h ▸ hb')
  · rw [hgv] at hb'
    simp only [Option.some.injEq] at hb'
    exact ⟨fun e => by have := (h8.lt b e).2; omega, fun e => by have := (h9.lt b e).2; omega⟩
theorem QI.per_ {P' : Option Addr} {cp' : Nat} {per' : List Gen} (h : QI w S0 base g1 g2 g3 g4 vs L P X cl cp cx lim per ex wr) (hw : w.heap.size ≤ g3) (hwb : w.heap.size ≤ base) (h1b : g1 < base) (h2b : g2 < base) (h4b : g4 < base) (h13 : g1 ≠ g3) (h23 : g2 ≠ g3) (h43 : g4 ≠ g3) (h3b : g3 < base)
    (hg : wr.grownBy W (Value.slice P per.length cp).ownBlock) (hown : Own RGen 3 32 W base S0 (.slice P' per'.length cp') per') (hat : (Value.slice P' per'.length cp').ownBlock = (Value.slice P per.length cp).ownBlock ∨ ∃ g, (Value.slice P' per'.length cp').ownBlock = some g ∧ wr.heap.size ≤ g) :
    QI w S0 base g1 g2 g3 g4 vs L P' X cl cp' cx lim per' ex (W.setCell ⟨g3, 1, none⟩ (.slice P' per'.length cp')) := by
  obtain ⟨h1, h2, h3, h4, h5, h6, h7, h8, h9, h10, h11, h12⟩ := h
  have hgz := hg.size
  have hz : (W.setCell ⟨g3, 1, none⟩ (.slice P' per'.length cp')).heap.size = W.heap.size := by simp
  have hb : Below base wr W := ⟨hg.os, hg.tape, hg.output, hg.size, fun k hk => hg.block k (by omega) (fun e => by have := (h8.lt k e.symm).1; omega)⟩
  have hob : ∀ b, (Value.slice P per.length cp).ownBlock = some b → base ≤ b := fun b hb => (h8.lt b hb).1
  refine ⟨(h1.trans (hb.mono hwb)).setCell (p := ⟨g3, 1, none⟩) hw _, by omega, (h3.base hb h1b).other h13 _, (h4.base hb h2b).other h23 _, (h5.base hb h3b).store1 _, (h6.base hb h4b).other h43 _, h7.aside RInt.ok hg (fun b hb => (h10 b hb).1) hob (fun k hk => Nat.lt_of_lt_of_le (h12 k hk) hw) h3b h2 _, hown.mine RGen.ok (fun k hk => Nat.lt_of_lt_of_le (h12 k hk) hw) h3b _, h9.aside RGen.ok hg (fun b hb e => h11 b e hb) hob (fun k hk => Nat.lt_of_lt_of_le (h12 k hk) hw) h3b h2 _, fun b hb' => ?_, fun b hb' => ?_, h12⟩
  · refine ⟨fun e => ?_, (h10 b hb').2⟩
    rcases hat with h | ⟨g, hgv, hgl⟩
    · exact (h10 b hb').1 (h ▸ e)
    · rw [hgv] at e
      simp only [Option.some.injEq] at e
      have := (h7.lt b hb').2; omega
  · rcases hat with h | ⟨g, hgv, hgl⟩
    · exact h11 b (h ▸ hb')
    · rw [hgv] at hb'
      simp only [Option.some.injEq] at hb'
      intro e
      have := (h9.lt b e).2; omega
theorem QI.ex_ {X' : Option Addr} {cx' : Nat} {ex' : List Gen} (h : QI w S0 base g1 g2 g3 g4 vs L P X cl cp cx lim per ex wr) (hw : w.heap.size ≤ g3) (hwb : w.heap.size ≤ base) (h1b : g1 < base) (h2b : g2 < base) (h4b : g4 < base) (h13 : g1 ≠ g3) (h23 : g2 ≠ g3) (h43 : g4 ≠ g3) (h3b : g3 < base)
    (hg : wr.grownBy W (Value.slice X ex.length cx).ownBlock) (hown : Own RGen 3 32 W base S0 (.slice X' ex'.length cx') ex') (hat : (Value.slice X' ex'.length cx').ownBlock = (Value.slice X ex.length cx).ownBlock ∨ ∃ g, (Value.slice X' ex'.length cx').ownBlock = some g ∧ wr.heap.size ≤ g) :
    QI w S0 base g1 g2 g3 g4 vs L P X' cl cp cx' lim per ex' (W.setCell ⟨g3, 2, none⟩ (.slice X' ex'.length cx')) := by
  obtain ⟨h1, h2, h3, h4, h5, h6, h7, h8, h9, h10, h11, h12⟩ := h
  have hgz := hg.size
  have hz : (W.setCell ⟨g3, 2, none⟩ (.slice X' ex'.length cx')).heap.size = W.heap.size := by simp
  have hb : Below base wr W := ⟨hg.os, hg.tape, hg.output, hg.size, fun k hk => hg.block k (by omega) (fun e => by have := (h9.lt k e.symm).1; omega)⟩
  have hob : ∀ b, (Value.slice X ex.length cx).ownBlock = some b → base ≤ b := fun b hb => (h9.lt b hb).1
  refine ⟨(h1.trans (hb.mono hwb)).setCell (p := ⟨g3, 2, none⟩) hw _, by omega, (h3.base hb h1b).other h13 _, (h4.base hb h2b).other h23 _, (h5.base hb h3b).store2 _, (h6.base hb h4b).other h43 _, h7.aside RInt.ok hg (fun b hb => (h10 b hb).2) hob (fun k hk => Nat.lt_of_lt_of_le (h12 k hk) hw) h3b h2 _, h8.aside RGen.ok hg (fun b hb => h11 b hb) hob (fun k hk => Nat.lt_of_lt_of_le (h12 k hk) hw) h3b h2 _, hown.mine RGen.ok (fun k hk => Nat.lt_of_lt_of_le (h12 k hk) hw) h3b _, fun b hb' => ⟨(h10 b hb').1, fun e => ?_⟩, fun b hb' e => ?_, h12⟩
  · rcases hat with h | ⟨g, hgv, hgl⟩
    · exact (h10 b hb').2 (h ▸ e)
    · rw [hgv] at e
      simp only [Option.some.injEq] at e
      have := (h7.lt b hb').2; omega
  · rcases hat with h | ⟨g, hgv, hgl⟩
    · exact h11 b hb' (h ▸ e)
    · rw [hgv] at e
      simp only [Option.some.injEq] at e
      have := (h8.lt b hb').2; omega
end
end Go.Proofs.YtodapmkdmkhhfaaGreatDoor
