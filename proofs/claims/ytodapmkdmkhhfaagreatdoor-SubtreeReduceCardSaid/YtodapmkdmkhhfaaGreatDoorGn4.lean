/- The function Reduce of package subtree: what its variables hold. -/
import Derived.Test.YtodapmkdmkhhfaaGreatDoorGn3
import Derived.Test.YtodapmkdmkhhfaaGreatDoorGn5
namespace Go.Proofs.YtodapmkdmkhhfaaGreatDoor
open Go.RowKit

/-- a variable that holds a reduced state -/
def RB (g : Nat) (u v x : Value) (W : World) : Prop := W.heap[g]? = some (.cells #[u, v, x] 53 (0, 0))
theorem RB.facts {g : Nat} {u v x : Value} {W : World} (h : RB g u v x W) : W.cell? ⟨g, 0, none⟩ = some u ∧ W.cell? ⟨g, 1, none⟩ = some v ∧ W.cell? ⟨g, 2, none⟩ = some x ∧ W.frozen? ⟨g, 0, none⟩ = false ∧ W.frozen? ⟨g, 1, none⟩ = false ∧ W.frozen? ⟨g, 2, none⟩ = false := by
  unfold RB at h
  simp [World.cell?, World.frozen?, h]
theorem RB.lt {g : Nat} {u v x : Value} {W : World} (h : RB g u v x W) : g < W.heap.size := (Array.getElem?_eq_some_iff.1 h).1
theorem RB.base {g B : Nat} {u v x : Value} {W W' : World} (h : RB g u v x W) (hb : Below B W W') (hg : g < B) : RB g u v x W' := (hb.block g hg).trans h
theorem RB.store0 {g : Nat} {u v x : Value} {W : World} (h : RB g u v x W) (a : Value) : RB g a v x (W.setCell ⟨g, 0, none⟩ a) := by
  unfold RB at *
  simp [World.setCell, Array.getElem?_modify, h]
theorem RB.store1 {g : Nat} {u v x : Value} {W : World} (h : RB g u v x W) (a : Value) : RB g u a x (W.setCell ⟨g, 1, none⟩ a) := by
  unfold RB at *
  simp [World.setCell, Array.getElem?_modify, h]
theorem RB.store2 {g : Nat} {u v x : Value} {W : World} (h : RB g u v x W) (a : Value) : RB g u v a (W.setCell ⟨g, 2, none⟩ a) := by
  unfold RB at *
  simp [World.setCell, Array.getElem?_modify, h]
theorem RB.other {g k j : Nat} {u v x : Value} {W : World} (h : RB g u v x W) (hk : g ≠ k) (a : Value) : RB g u v x (W.setCell ⟨k, j, none⟩ a) :=
  (Below.heap_setCell W ⟨k, j, none⟩ a g hk).trans h
theorem Own.lower {α : Type} {R : Rep α} {size : Nat} {e : TypeId} {w : World} {base base' : Nat} {S : Nat → Prop} {v : Value} {l : List α} (h : Own R size e w base' S v l) (hb : base ≤ base') : Own R size e w base S v l := by
  obtain ⟨xs, ⟨hl, h1⟩, h2, h3⟩ := h
  refine ⟨xs, ⟨hl, ?_⟩, h2, h3⟩
  rcases h1 with h1 | ⟨g, cap, cur, hv, hg, r⟩
  · exact .inl h1
  · exact .inr ⟨g, cap, cur, hv, Nat.le_trans hb hg, r⟩

/-- the state of Reduce while it reads the constraints -/
def RI (w : World) (base g1 g2 g3 : Nat) (vs : Value) (L X : Option Addr) (cl cx : Nat) (S : Nat → Prop) (lim : List Int) (ex : List Gen) (wr : World) : Prop :=
  Below w.heap.size w wr ∧ base ≤ wr.heap.size ∧ TB g1 vs wr ∧ RB g2 (.slice none 0 0) (.slice none 0 0) (.slice none 0 0) wr ∧ RB g3 (.slice L lim.length cl) (.slice none 0 0) (.slice X ex.length cx) wr ∧
    Own RInt 1 3 wr base No (.slice L lim.length cl) lim ∧ Own RGen 3 32 wr base S (.slice X ex.length cx) ex ∧ (∀ b, S b → base ≤ b ∧ b < wr.heap.size) ∧
    ∀ b, (Value.slice L lim.length cl).ownBlock = some b → ¬ S b ∧ (Value.slice X ex.length cx).ownBlock ≠ some b
theorem RI.below {w : World} {base g1 g2 g3 : Nat} {vs : Value} {L X : Option Addr} {cl cx : Nat} {S : Nat → Prop} {lim : List Int} {ex : List Gen} {wr wr' : World} (h : RI w base g1 g2 g3 vs L X cl cx S lim ex wr) (hb : Below wr.heap.size wr wr') : RI w base g1 g2 g3 vs L X cl cx S lim ex wr' := by
  obtain ⟨h1, h2, h3, h4, h5, h6, h7, h8, h9⟩ := h
  have hz := hb.size
  exact ⟨h1.trans (hb.mono h1.size), by omega, h3.base hb h3.lt, h4.base hb h4.lt, h5.base hb h5.lt, h6.below RInt.ok (no_lt _) hb, h7.below RGen.ok (fun b hb => (h8 b hb).2) hb, fun b hb => ⟨(h8 b hb).1, by have := (h8 b hb).2; omega⟩, h9⟩
theorem RI.lim {w : World} {base g1 g2 g3 : Nat} {vs : Value} {L X L' : Option Addr} {cl cx cl' : Nat} {S : Nat → Prop} {lim lim' : List Int} {ex : List Gen} {wr W : World} (h : RI w base g1 g2 g3 vs L X cl cx S lim ex wr) (hb : Below wr.heap.size wr W)
    (hw : w.heap.size ≤ g3) (h13 : g1 ≠ g3) (h23 : g2 ≠ g3) (h3b : g3 < base) (hown : Own RInt 1 3 W wr.heap.size No (.slice L' lim'.length cl') lim') : RI w base g1 g2 g3 vs L' X cl' cx S lim' ex (W.setCell ⟨g3, 0, none⟩ (.slice L' lim'.length cl')) := by
  obtain ⟨h1, h2, h3, h4, h5, h6, h7, h8, h9⟩ := h.below hb
  obtain ⟨-, k2, -, -, -, -, k7, k8, -⟩ := h
  have hz : (W.setCell ⟨g3, 0, none⟩ (.slice L' lim'.length cl')).heap.size = W.heap.size := by simp
  refine ⟨h1.setCell (p := ⟨g3, 0, none⟩) hw _, by omega, h3.other h13 _, h4.other h23 _, h5.store0 _, (hown.lower k2).other RInt.ok (fun k hk => hk.elim) h3b _, h7.other RGen.ok (fun k hk => (h8 k hk).1) h3b _, fun b hb => ⟨(h8 b hb).1, by have := (h8 b hb).2; omega⟩, fun b hb' => ?_⟩
  have hlt := hown.lt b hb'
  refine ⟨fun hS => ?_, fun he => ?_⟩
  · have := (k8 b hS).2; omega
  · have := (k7.lt b he).2; omega
theorem RI.ex {w : World} {base g1 g2 g3 : Nat} {vs : Value} {L X X' : Option Addr} {cl cx cx' : Nat} {S S' : Nat → Prop} {lim : List Int} {ex ex' : List Gen} {wr W : World} (h : RI w base g1 g2 g3 vs L X cl cx S lim ex wr)
    (hw : w.heap.size ≤ g3) (hwb : w.heap.size ≤ base) (h1b : g1 < base) (h2b : g2 < base) (h13 : g1 ≠ g3) (h23 : g2 ≠ g3) (h3b : g3 < base) (hg : wr.grownBy W (Value.slice X ex.length cx).ownBlock) (hown : Own RGen 3 32 W base S' (.slice X' ex'.length cx') ex')
    (hS : ∀ j, S' j → S j ∨ (wr.heap.size ≤ j ∧ j < W.heap.size)) (hat : (Value.slice X' ex'.length cx').ownBlock = (Value.slice X ex.length cx).ownBlock ∨ ∃ g, (Value.slice X' ex'.length cx').ownBlock = some g ∧ wr.heap.size ≤ g) :
    RI w base g1 g2 g3 vs L X' cl cx' S' lim ex' (W.setCell ⟨g3, 2, none⟩ (.slice X' ex'.length cx')) := by
  obtain ⟨h1, h2, h3, h4, h5, h6, h7, h8, h9⟩ := h
  have hz : (W.setCell ⟨g3, 2, none⟩ (.slice X' ex'.length cx')).heap.size = W.heap.size := by simp
  have hgz := hg.size
  have hb : Below base wr W := ⟨hg.os, hg.tape, hg.output, hg.size, fun k hk => hg.block k (by omega) (fun e => by have := (h7.lt k e.symm).1; omega)⟩
  have hS2 : ∀ j, S' j → base ≤ j ∧ j < W.heap.size := fun j hj => by
    rcases hS j hj with h | h
    · have := h8 j h; omega
    · omega
  have h6W : Own RInt 1 3 W base No (.slice L lim.length cl) lim := h6.keep RInt.ok (fun g hgv => hg.block g (h6.lt g hgv).2 (fun e => (h9 g hgv).2 e.symm)) (fun k hk => hk.elim) (fun _ hk => hk) (fun _ _ hk => hk)
  refine ⟨(h1.trans (hb.mono hwb)).setCell (p := ⟨g3, 2, none⟩) hw _, by omega, (h3.base hb h1b).other h13 _, (h4.base hb h2b).other h23 _, (h5.base hb h3b).store2 _, h6W.other RInt.ok (fun k hk => hk.elim) h3b _, hown.other RGen.ok (fun k hk => (hS2 k hk).1) h3b _, fun b hb => by have := hS2 b hb; omega, fun b hb' => ?_⟩
  have hlt := h6.lt b hb'
  have h9b := h9 b hb'
  refine ⟨fun hs => ?_, fun he => ?_⟩
  · rcases hS b hs with h | h
    · exact h9b.1 h
    · omega
  · rcases hat with h | ⟨g, hgv, hgl⟩
    · exact h9b.2 (h ▸ he)
    · rw [hgv] at he
      simp only [Option.some.injEq] at he
      omega
end Go.Proofs.YtodapmkdmkhhfaaGreatDoor

/- The function Reduce of package subtree: what its variables hold in its second half. -/
namespace Go.Proofs.YtodapmkdmkhhfaaGreatDoor
open Go.RowKit

/-- the state of Reduce while it gathers the permitted names: what lies in blocks from base to base2 stays -/
def PI (w w2 : World) (base base2 g1 g2 g3 : Nat) (vs lv xv : Value) (P : Option Addr) (cp : Nat) (S : Nat → Prop) (per : List Gen) (wr : World) : Prop :=
  Below w.heap.size w wr ∧ base2 ≤ wr.heap.size ∧ TB g1 vs wr ∧ RB g2 (.slice none 0 0) (.slice none 0 0) (.slice none 0 0) wr ∧ RB g3 lv (.slice P per.length cp) xv wr ∧
    Own RGen 3 32 wr base2 S (.slice P per.length cp) per ∧ (∀ b, S b → base2 ≤ b ∧ b < wr.heap.size) ∧ ∀ b, base ≤ b → b < base2 → wr.heap[b]? = w2.heap[b]?
theorem PI.below {w w2 : World} {base base2 g1 g2 g3 : Nat} {vs lv xv : Value} {P : Option Addr} {cp : Nat} {S : Nat → Prop} {per : List Gen} {wr wr' : World} (h : PI w w2 base base2 g1 g2 g3 vs lv xv P cp S per wr) (hb : Below wr.heap.size wr wr') : PI w w2 base base2 g1 g2 g3 vs lv xv P cp S per wr' := by
  obtain ⟨h1, h2, h3, h4, h5, h6, h7, h8⟩ := h
  have hz := hb.size
  exact ⟨h1.trans (hb.mono h1.size), by omega, h3.base hb h3.lt, h4.base hb h4.lt, h5.base hb h5.lt, h6.below RGen.ok (fun b hb => (h7 b hb).2) hb, fun b hb => ⟨(h7 b hb).1, by have := (h7 b hb).2; omega⟩, fun b hb1 hb2 => (hb.block b (by omega)).trans (h8 b hb1 hb2)⟩
theorem PI.per {w w2 : World} {base base2 g1 g2 g3 : Nat} {vs lv xv : Value} {P P' : Option Addr} {cp cp' : Nat} {S S' : Nat → Prop} {per per' : List Gen} {wr W : World} (h : PI w w2 base base2 g1 g2 g3 vs lv xv P cp S per wr)
    (hw : w.heap.size ≤ g3) (hwb : w.heap.size ≤ base2) (h1b : g1 < base2) (h2b : g2 < base2) (h13 : g1 ≠ g3) (h23 : g2 ≠ g3) (h3b : g3 < base) (hbb : base ≤ base2) (hg : wr.grownBy W (Value.slice P per.length cp).ownBlock) (hown : Own RGen 3 32 W base2 S' (.slice P' per'.length cp') per')
    (hS : ∀ j, S' j → S j ∨ (wr.heap.size ≤ j ∧ j < W.heap.size)) :
    PI w w2 base base2 g1 g2 g3 vs lv xv P' cp' S' per' (W.setCell ⟨g3, 1, none⟩ (.slice P' per'.length cp')) := by
  obtain ⟨h1, h2, h3, h4, h5, h6, h7, h8⟩ := h
  have hz : (W.setCell ⟨g3, 1, none⟩ (.slice P' per'.length cp')).heap.size = W.heap.size := by simp
  have hgz := hg.size
  have hb : Below base2 wr W := ⟨hg.os, hg.tape, hg.output, hg.size, fun k hk => hg.block k (by omega) (fun e => by have := (h6.lt k e.symm).1; omega)⟩
  have hS2 : ∀ j, S' j → base2 ≤ j ∧ j < W.heap.size := fun j hj => by
    rcases hS j hj with h | h
    · have := h7 j h; omega
    · omega
  exact ⟨(h1.trans (hb.mono hwb)).setCell (p := ⟨g3, 1, none⟩) hw _, by omega, (h3.base hb h1b).other h13 _, (h4.base hb h2b).other h23 _, (h5.base hb (by omega)).store1 _, hown.other RGen.ok (fun k hk => (hS2 k hk).1) (by omega) _, fun b hb => by have := hS2 b hb; omega,
    fun b hb1 hb2 => (Below.heap_setCell _ ⟨g3, 1, none⟩ _ b (by show b ≠ g3; omega)).trans ((hb.block b hb2).trans (h8 b hb1 hb2))⟩
theorem PI.start {w : World} {base g1 g2 g3 : Nat} {vs : Value} {L X : Option Addr} {cl cx : Nat} {S : Nat → Prop} {lim : List Int} {ex : List Gen} {wr : World} (h : RI w base g1 g2 g3 vs L X cl cx S lim ex wr) :
    PI w wr base wr.heap.size g1 g2 g3 vs (.slice L lim.length cl) (.slice X ex.length cx) none 0 No [] wr := by
  obtain ⟨h1, h2, h3, h4, h5, h6, h7, h8, h9⟩ := h
  exact ⟨h1, Nat.le_refl _, h3, h4, h5, Own.nil _ _ _ _ _ _, fun b hb => hb.elim, fun b _ _ => rfl⟩
theorem perStep_good {st : List Sub} {k : Int} {l : List Gen} {b : Gen} (hl : GoodBs l) (hb : GoodBase b) : GoodBs (perStep st k l b) ∧ (perStep st k l b).length ≤ l.length + 1 := by
  unfold perStep
  split
  · exact ⟨addG_good hl hb, addG_len _ _⟩
  · exact ⟨hl, by omega⟩
theorem perFold_good {st : List Sub} {k : Int} : ∀ (l acc : List Gen), GoodBs acc → GoodBs l → GoodBs (l.foldl (perStep st k) acc) ∧ (l.foldl (perStep st k) acc).length ≤ acc.length + l.length
  | [], acc, ha, _ => ⟨ha, by simp⟩
  | b :: l, acc, ha, hl => by
    obtain ⟨h1, h2⟩ := perStep_good (st := st) (k := k) ha (hl b (by simp))
    obtain ⟨h3, h4⟩ := perFold_good (st := st) (k := k) l _ h1 (fun x hx => hl x (by simp [hx]))
    refine ⟨h3, ?_⟩
    simp only [List.foldl_cons, List.length_cons]
    omega
theorem perAll_good {st : List Sub} {k : Int} : ∀ (ss : List Sub) (acc : List Gen), GoodBs acc → (∀ s ∈ ss, s.1.length ≤ 4 ∧ GoodBs s.1) → GoodBs (ss.foldl (fun l s => s.1.foldl (perStep st k) l) acc) ∧ (ss.foldl (fun l s => s.1.foldl (perStep st k) l) acc).length ≤ acc.length + 4 * ss.length
  | [], acc, ha, _ => ⟨ha, by simp⟩
  | s :: ss, acc, ha, hl => by
    obtain ⟨h0, h0'⟩ := hl s (by simp)
    obtain ⟨h1, h2⟩ := perFold_good (st := st) (k := k) s.1 acc ha h0'
    obtain ⟨h3, h4⟩ := perAll_good (st := st) (k := k) ss _ h1 (fun x hx => hl x (by simp [hx]))
    refine ⟨h3, ?_⟩
    simp only [List.foldl_cons, List.length_cons]
    omega
theorem perLim_good {st : List Sub} (hst : ∀ s ∈ st, s.1.length ≤ 4 ∧ GoodBs s.1) : ∀ (lim : List Int) (acc : List Gen), GoodBs acc →
    GoodBs (lim.foldl (fun l k => st.foldl (fun l s => s.1.foldl (perStep st k) l) l) acc) ∧ (lim.foldl (fun l k => st.foldl (fun l s => s.1.foldl (perStep st k) l) l) acc).length ≤ acc.length + 4 * st.length * lim.length
  | [], acc, ha => ⟨ha, by simp⟩
  | k :: lim, acc, ha => by
    obtain ⟨h1, h2⟩ := perAll_good (st := st) (k := k) st acc ha hst
    obtain ⟨h3, h4⟩ := perLim_good hst lim _ h1
    refine ⟨h3, ?_⟩
    simp only [List.foldl_cons, List.length_cons]
    have : 4 * st.length * (lim.length + 1) = 4 * st.length * lim.length + 4 * st.length := by rw [Nat.mul_add, Nat.mul_one]
    omega
end Go.Proofs.YtodapmkdmkhhfaaGreatDoor
