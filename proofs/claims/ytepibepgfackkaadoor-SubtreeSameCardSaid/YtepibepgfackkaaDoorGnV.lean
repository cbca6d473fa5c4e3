/- The function Reduce of package subtree: what its variables hold in its second half. -/
import Derived.Test.YtepibepgfackkaaDoorGnS
import Derived.Test.YtepibepgfackkaaDoorGnU
namespace Go.Proofs.YtepibepgfackkaaDoor
open Go.RowKit

/-- the state of Reduce while it gathers the permitted names: what lies in blocks from base to base2 stays -/
def PI (w w2 : World) (base base2 g1 g2 g3 : Nat) (vs lv xv : Value) (P : Option Addr) (cp : Nat) (S : Nat → Prop) (per : List Gen) (wr : World) : Prop :=
  Below w.heap.size w wr ∧ base2 ≤ wr.heap.size ∧ TB g1 vs wr ∧ RB g2 (.slice none 0 0) (.slice none 0 0) (.slice none 0 0) wr ∧ RB g3 lv (.slice P per.length cp) xv wr ∧
    Own RGen 3 61 wr base2 S (.slice P per.length cp) per ∧ (∀ b, S b → base2 ≤ b ∧ b < wr.heap.size) ∧ ∀ b, base ≤ b → b < base2 → wr.heap[b]? = w2.heap[b]?
theorem PI.below {w w2 : World} {base base2 g1 g2 g3 : Nat} {vs lv xv : Value} {P : Option Addr} {cp : Nat} {S : Nat → Prop} {per : List Gen} {wr wr' : World} (h : PI w w2 base base2 g1 g2 g3 vs lv xv P cp S per wr) (hb : Below wr.heap.size wr wr') : PI w w2 base base2 g1 g2 g3 vs lv xv P cp S per wr' := by
  obtain ⟨h1, h2, h3, h4, h5, h6, h7, h8⟩ := h
  have hz := hb.size
  exact ⟨h1.trans (hb.mono h1.size), by omega, h3.base hb h3.lt, h4.base hb h4.lt, h5.base hb h5.lt, h6.below RGen.ok (fun b hb => (h7 b hb).2) hb, fun b hb => ⟨(h7 b hb).1, by have := (h7 b hb).2; omega⟩, fun b hb1 hb2 => (hb.block b (by omega)).trans (h8 b hb1 hb2)⟩
theorem PI.per {w w2 : World} {base base2 g1 g2 g3 : Nat} {vs lv xv : Value} {P P' : Option Addr} {cp cp' : Nat} {S S' : Nat → Prop} {per per' : List Gen} {wr W : World} (h : PI w w2 base base2 g1 g2 g3 vs lv xv P cp S per wr)
    (hw : w.heap.size ≤ g3) (hwb : w.heap.size ≤ base2) (h1b : g1 < base2) (h2b : g2 < base2) (h13 : g1 ≠ g3) (h23 : g2 ≠ g3) (h3b : g3 < base) (hbb : base ≤ base2) (hg : wr.grownBy W (Value.slice P per.length cp).ownBlock) (hown : Own RGen 3 61 W base2 S' (.slice P' per'.length cp') per')
    (hS : ∀ j, S' j → S j ∨ (wr.heap.size ≤ j ∧ j < W.heap.size)) :
    PI w w2 base base2 g1 g2 g3 vs lv xv P' cp' S' per' (W.setCell ⟨g3, 1, none⟩ (.slice P' per'.length cp')) := by
  obtain ⟨h1, h2, h3, h4, h5, h6, h7, h8⟩ := h
  have hz : (W.setCell ⟨g3, 1, none⟩ (.slice P' per'.length cp')).heap.size = W.heap.size := by simp
  have hgz := hg.size
  have hb : Below base2 wr W := ⟨hg.os, hg.tape, hg.output, hg.size, fun k hk => hg.block k (by omega) (fun e => by have := (h6.lt k e.symm).1; omega)⟩
  have hS2 : ∀ j, S' j → base2 ≤ j ∧ j < W.heap.size := fun j hj => by
    rcases hS j hj with h | h
    · have := h7 j h; omega
    · omega
  exact ⟨(h1.trans (hb.mono hwb)).setCell (p := ⟨g3, 1, none⟩) hw _, by omega, (h3.base hb h1b).other h13 _, (h4.base hb h2b).other h23 _, (h5.base hb (by omega)).store1 _, hown.other RGen.ok (fun k hk => (hS2 k hk).1) (by omega) _, fun b hb => by have := hS2 b hb; omega,
    fun b hb1 hb2 => (Below.heap_setCell _ ⟨g3, 1, none⟩ _ b (by show b ≠ g3; omega)).trans ((hb.block b hb2).trans (h8 b hb1 hb2))⟩
theorem PI.start {w : World} {base g1 g2 g3 : Nat} {vs : Value} {L X : Option Addr} {cl cx : Nat} {S : Nat → Prop} {lim : List Int} {ex : List Gen} {wr : World} (h : RI w base g1 g2 g3 vs L X cl cx S lim ex wr) :
    PI w wr base wr.heap.size g1 g2 g3 vs (.slice L lim.length cl) (.slice X ex.length cx) none 0 No [] wr := by
  obtain ⟨h1, h2, h3, h4, h5, h6, h7, h8, h9⟩ := h
  exact ⟨h1, Nat.le_refl _, h3, h4, h5, Own.nil _ _ _ _ _ _, fun b hb => hb.elim, fun b _ _ => rfl⟩
theorem perStep_good {st : List Sub} {k : Int} {l : List Gen} {b : Gen} (hl : GoodBs l) (hb : GoodBase b) : GoodBs (perStep st k l b) ∧ (perStep st k l b).length ≤ l.length + 1 := by
  unfold perStep
  split
  · exact ⟨addG_good hl hb, addG_len _ _⟩
  · exact ⟨hl, by omega⟩
theorem perFold_good {st : List Sub} {k : Int} : ∀ (l acc : List Gen), GoodBs acc → GoodBs l → GoodBs (l.foldl (perStep st k) acc) ∧ (l.foldl (perStep st k) acc).length ≤ acc.length + l.length
  | [], acc, ha, _ => ⟨ha, by simp⟩
  | b :: l, acc, ha, hl => by
    obtain ⟨h1, h2⟩ := perStep_good (st := st) (k := k) ha (hl b (by simp))
    obtain ⟨h3, h4⟩ := perFold_good (st := st) (k := k) l _ h1 (fun x hx => hl x (by simp [hx]))
    refine ⟨h3, ?_⟩
    simp only [List.foldl_cons, List.length_cons]
    omega
theorem perAll_good {st : List Sub} {k : Int} : ∀ (ss : List Sub) (acc : List Gen), GoodBs acc → (∀ s ∈ ss, s.1.length ≤ 4 ∧ GoodBs s.1) → GoodBs (ss.foldl (fun l s => s.1.foldl (perStep st k) l) acc) ∧ (ss.foldl (fun l s => s.1.foldl (perStep st k) l) acc).length ≤ acc.length + 4 * ss.length
  | [], acc, ha, _ => ⟨ha, by simp⟩
  | s :: ss, acc, ha, hl => by
    obtain ⟨h0, h0'⟩ := hl s (by simp)
    obtain ⟨h1, h2⟩ := perFold_good (st := st) (k := k) s.1 acc ha h0'
    obtain ⟨h3, h4⟩ := perAll_good (st := st) (k := k) ss _ h1 (fun x hx => hl x (by simp [hx]))
    refine ⟨h3, ?_⟩
    simp only [List.foldl_cons, List.length_cons]
    omega
theorem perLim_good {st : List Sub} (hst : ∀ s ∈ st, s.1.length ≤ 4 ∧ GoodBs s.1) : ∀ (lim : List Int) (acc : List Gen), GoodBs acc →
    GoodBs (lim.foldl (fun l k => st.foldl (fun l s => s.1.foldl (perStep st k) l) l) acc) ∧ (lim.foldl (fun l k => st.foldl (fun l s => s.1.foldl (perStep st k) l) l) acc).length ≤ acc.length + 4 * st.length * lim.length
  | [], acc, ha => ⟨ha, by simp⟩
  | k :: lim, acc, ha => by
    obtain ⟨h1, h2⟩ := perAll_good (st := st) (k := k) st acc ha hst
    obtain ⟨h3, h4⟩ := perLim_good hst lim _ h1
    refine ⟨h3, ?_⟩
    simp only [List.foldl_cons, List.length_cons]
    have : 4 * st.length * (lim.length + 1) = 4 * st.length * lim.length + 4 * st.length := by rw [Nat.mul_add, Nat.mul_one]
    omega
end Go.Proofs.YtepibepgfackkaaDoor
