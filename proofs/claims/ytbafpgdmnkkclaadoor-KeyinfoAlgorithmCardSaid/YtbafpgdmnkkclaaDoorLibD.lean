/- More laws for memory: a call that writes one block that was there, and new ones; a deck of numbers. -/
import Derived.Test.YtbafpgdmnkkclaaDoorLib3
namespace Go.Proofs.YtbafpgdmnkkclaaDoor
open Go.RowKit

/-- of the blocks that were there, only block d has been written -/
def Ex (d : Nat) (w w' : World) : Prop := w.grownBy w' (some d)
theorem Ex.refl (d : Nat) (w : World) : Ex d w w := ⟨rfl, rfl, rfl, Nat.le_refl _, fun _ _ _ => rfl⟩
theorem Ex.trans {d : Nat} {a b c : World} (h : Ex d a b) (k : Ex d b c) : Ex d a c :=
  ⟨k.os.trans h.os, k.tape.trans h.tape, k.output.trans h.output, Nat.le_trans h.size k.size, fun j hj hne => (k.block j (Nat.lt_of_lt_of_le hj h.size) hne).trans (h.block j hj hne)⟩
theorem Ex.of_below {d : Nat} {w w' : World} (h : Below w.heap.size w w') : Ex d w w' := ⟨h.os, h.tape, h.output, h.size, fun k hk _ => h.block k hk⟩
theorem Ex.then_ {d : Nat} {a b c : World} (h : Ex d a b) (k : Below b.heap.size b c) : Ex d a c := h.trans (Ex.of_below k)
theorem Ex.set (d j : Nat) (w : World) (u : Value) : Ex d w (w.setCell ⟨d, j, none⟩ u) :=
  ⟨rfl, rfl, rfl, by simp, fun k _ hne => Below.heap_setCell w ⟨d, j, none⟩ u k (fun e => hne (by rw [e]))⟩
theorem Ex.drewN {d : Nat} {a w : World} (h : Ex d a w) (n : Nat) : Ex d a (w.drewN n) := ⟨h.os, h.tape, h.output, h.size, h.block⟩
theorem Ex.drew {d : Nat} {a w : World} (h : Ex d a w) : Ex d a w.drew := ⟨h.os, h.tape, h.output, h.size, h.block⟩
theorem Ex.below {d B : Nat} {w0 w w' : World} (h0 : Below B w0 w) (hB : B ≤ w.heap.size) (hd : B ≤ d) (h : Ex d w w') : Below B w0 w' :=
  h0.grown h hB (fun k hk => by cases hk; exact hd)
/-- the blocks below a number but d -/
def Nd (d B : Nat) : Nat → Prop := fun k => k < B ∧ k ≠ d
theorem Ex.keeps {d : Nat} {w w' : World} (h : Ex d w w') : ∀ k, Nd d w.heap.size k → w'.heap[k]? = w.heap[k]? := fun k hk => h.block k hk.1 (fun e => hk.2 (by cases e; rfl))
theorem Ex.cell {d : Nat} {w w' : World} (h : Ex d w w') {p : Addr} (hp : p.block < w.heap.size) (hd : p.block ≠ d) : w'.cell? p = w.cell? p :=
  World.cell?_of_block (w := w) (h.keeps p.block ⟨hp, hd⟩)
theorem RepOk.ex {α : Type} {R : Rep α} {size : Nat} (hR : RepOk R size) {d : Nat} {w w' : World} {x : α} {cs : List Value} (h : R w (Nd d w.heap.size) x cs) (hx : Ex d w w') : R w' (Nd d w'.heap.size) x cs :=
  hR.mono h hx.keeps (fun _ hk => ⟨Nat.lt_of_lt_of_le hk.1 hx.size, hk.2⟩)
theorem RepOk.nd {α : Type} {R : Rep α} {size : Nat} (hR : RepOk R size) {d : Nat} {w : World} {x : α} {cs : List Value} (h : R w (Lt d) x cs) (hd : d ≤ w.heap.size) : R w (Nd d w.heap.size) x cs :=
  hR.mono h (fun _ _ => rfl) (fun _ hk => ⟨Nat.lt_of_lt_of_le hk hd, Nat.ne_of_lt hk⟩)
theorem RepOk.below {α : Type} {R : Rep α} {size : Nat} (hR : RepOk R size) {w w' : World} {x : α} {cs : List Value} (h : R w (Lt w.heap.size) x cs) (hb : Below w.heap.size w w') : R w' (Lt w'.heap.size) x cs :=
  hR.mono h (below_keeps hb) (fun _ hk => Nat.lt_of_lt_of_le hk hb.size)
theorem RepOk.lt {α : Type} {R : Rep α} {size : Nat} (hR : RepOk R size) {w : World} {d : Nat} {x : α} {cs : List Value} (h : R w (Nd d w.heap.size) x cs) : R w (Lt w.heap.size) x cs :=
  hR.mono h (fun _ _ => rfl) (fun _ hk => hk.1)

/-- a deck of numbers in block d: its numbers lie in blocks below d -/
def DeckAt (w : World) (d : Nat) : Prop :=
  ∃ (l : List Int) (A : Option Addr) (c k : Nat) (T : TypeId), w.heap[d]? = some (.cells #[.slice A l.length c, .int .i64 (k : Int)] T (0, 0)) ∧ k ≤ l.length ∧ Sl RInt 1 w (Lt d) l [.slice A l.length c]
theorem DeckAt.lt {w : World} {d : Nat} (h : DeckAt w d) : d < w.heap.size := by
  obtain ⟨l, A, c, k, T, h1, _⟩ := h
  exact (Array.getElem?_eq_some_iff.1 h1).1
theorem DeckAt.keep {w w' : World} {d : Nat} (h : DeckAt w d) (hb : Below (d + 1) w w') : DeckAt w' d := by
  obtain ⟨l, A, c, k, T, h1, h2, h3⟩ := h
  exact ⟨l, A, c, k, T, (hb.block d (by omega)).trans h1, h2, (Sl.ok RInt.ok).mono h3 (fun j hj => hb.block j (Nat.lt_succ_of_lt hj)) (fun _ hj => hj)⟩
theorem DeckAt.below {w w' : World} {d : Nat} (h : DeckAt w d) (hb : Below w.heap.size w w') : DeckAt w' d := h.keep (hb.mono h.lt)
end Go.Proofs.YtbafpgdmnkkclaaDoor
