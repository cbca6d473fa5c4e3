/- More laws for memory: a slice of bytes that make lays. -/
import Derived.Test.YtmgnihmjjijdoaaDoorKLib
namespace Go.Proofs.YtmgnihmjjijdoaaDoor
open Go.RowKit
theorem BytesAt.made {w : World} {base : Nat} {e : TypeId} {g n cap : Nat} {l : List UInt8} (hl : l.length = n) (h : w.ownsRow base e 1 (.slice (some ⟨g, 0, none⟩) n cap) n (l.map fun b => Value.int .u8 (b.toNat : Int))) : BytesAt w e g l := by
 obtain ⟨_, h1⟩ := h
 rcases h1 with ⟨hv, _⟩ | ⟨g', cap', cur, hv, hb, hg, hnc, hcm, hsz, htk⟩
 ·cases hv
 ·simp only [Value.slice.injEq, Option.some.injEq, Addr.mk.injEq, and_true, true_and] at hv
  obtain ⟨rfl, rfl⟩ := hv
  refine ⟨cur, (0, 0), hg, by omega, fun i hi => ?_, fun i _ => by simp [World.frozen?, hg]⟩
  have h2 : (cur.toList.take (n * 1))[i]? = some (.int .u8 (l[i].toNat : Int)) := by rw [htk]; simp [hi]
  rw [List.getElem?_take] at h2
  split at h2
  ·simpa using h2
  ·cases h2
theorem wpList_make_bytes {P : Program} {w : World} {ops : Array Oper} {rest : List Oper} {o : Oper} {a : Act} {Q : Exit → Act → World → Prop} (hgd : o.guard = none) (x y : Operand) (t e : TypeId) (ho : o.op = .makeSlice t x y) (ht : P.underlying t = some (.slice e))
  (hi : (P.info? e).map (fun i => (i.zero, i.size, i.bytes)) = some (some (.int .u8 0), 1, 1)) (n : Nat) (hx : a.eval x = .int .i64 (n : Int)) (hy : a.eval y = .int .i64 (n : Int)) (hn : n ≤ 1000000000)
  (h : ∀ g w', w.heap.size ≤ g → g < w'.heap.size → Below w.heap.size w w' → BytesAt w' e g (List.replicate n 0) → wpList P ops Q rest (a.put o.dst (.slice (some ⟨g, 0, none⟩) n n)) w') : wpList P ops Q (o :: rest) a w := by
 obtain ⟨i0, hi0, hz0, hz1, hz2⟩ := info_parts hi
 refine wpList_make_full w hgd x y t ho w.heap.size e i0 (.int .u8 0) 1 ht hi0 hz0 hz1 .i64 .i64 n n n hx hy rfl rfl (by rw [hz2]; omega) (by unfold maxLen; omega) (Nat.le_refl _) fun w' hown hg => ?_
 have hb : Below w.heap.size w w' := (Below.refl _ _).grown hg (Nat.le_refl _) (fun k h => by cases h)
 have hlt := (hown.lt w.heap.size rfl).2
 refine h w.heap.size w' (Nat.le_refl _) hlt hb (BytesAt.made (base := w.heap.size) (n := n) (cap := n) (l := List.replicate n 0) (by simp) ?_)
 have hm : (madeCells (Value.int IntKind.u8 0).cells (n * 1)).toList = (List.replicate n (0 : UInt8)).map fun b => Value.int .u8 (b.toNat : Int) := by
  have := toList_madeCells_one (.int .u8 0) n
  rw [Nat.mul_one, List.map_replicate]
  exact this
 rw [hm] at hown
 exact hown
end Go.Proofs.YtmgnihmjjijdoaaDoor
