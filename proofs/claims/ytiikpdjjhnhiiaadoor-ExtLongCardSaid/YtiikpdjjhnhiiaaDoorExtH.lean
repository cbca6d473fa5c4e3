/- ext.decodeOne. -/
import Derived.Test.YtiikpdjjhnhiiaaDoorExt2
import Derived.Test.YtiikpdjjhnhiiaaDoorOidS
import Derived.Test.YtiikpdjjhnhiiaaDoorTlv3
namespace Go.Proofs.YtiikpdjjhnhiiaaDoor
open Go.RowKit

/-- a block of an extension -/
def XB (g : Nat) (i : ByteArray) (cr : Bool) (va : ByteArray) (W : World) : Prop := W.heap[g]? = some (.cells #[.string i, .bool cr, .string va] 49 (0, 0))
theorem XB.facts {g : Nat} {i va : ByteArray} {cr : Bool} {W : World} (h : XB g i cr va W) : W.cell? ⟨g, 0, none⟩ = some (.string i) ∧ W.cell? ⟨g, 1, none⟩ = some (.bool cr) ∧ W.cell? ⟨g, 2, none⟩ = some (.string va) ∧
    W.frozen? ⟨g, 0, none⟩ = false ∧ W.frozen? ⟨g, 1, none⟩ = false ∧ W.frozen? ⟨g, 2, none⟩ = false := by
  unfold XB at h
  simp [World.cell?, World.frozen?, h]
theorem XB.lt {g : Nat} {i va : ByteArray} {cr : Bool} {W : World} (h : XB g i cr va W) : g < W.heap.size := (Array.getElem?_eq_some_iff.1 h).1
theorem XB.below {g : Nat} {i va : ByteArray} {cr : Bool} {W W' : World} (h : XB g i cr va W) (hb : Below W.heap.size W W') : XB g i cr va W' := (hb.block g h.lt).trans h
theorem XB.st0 {g : Nat} {i va : ByteArray} {cr : Bool} {W : World} (h : XB g i cr va W) (x : ByteArray) : XB g x cr va (W.setCell ⟨g, 0, none⟩ (.string x)) := by
  unfold XB at *
  simp [World.setCell, Array.getElem?_modify, h]
theorem XB.st1 {g : Nat} {i va : ByteArray} {cr : Bool} {W : World} (h : XB g i cr va W) (x : Bool) : XB g i x va (W.setCell ⟨g, 1, none⟩ (.bool x)) := by
  unfold XB at *
  simp [World.setCell, Array.getElem?_modify, h]
theorem XB.st2 {g : Nat} {i va : ByteArray} {cr : Bool} {W : World} (h : XB g i cr va W) (x : ByteArray) : XB g i cr x (W.setCell ⟨g, 2, none⟩ (.string x)) := by
  unfold XB at *
  simp [World.setCell, Array.getElem?_modify, h]
theorem ResX.other {g d j : Nat} {u : Value} {W : World} (h : ResX g W) (hne : g ≠ d) : ResX g (W.setCell ⟨d, j, none⟩ u) := (Below.heap_setCell W ⟨d, j, none⟩ u g hne).trans h

/-- the state of the call: what it was given grows; its result's block, a zero one, the one that it fills, and the elements that are left -/
structure DSt (w : World) (L : List Elt) (v : Value) (i : ByteArray) (cr : Bool) (va : ByteArray) (W : World) : Prop where
  below : Below w.heap.size w W
  r : ResX (w.heap.size + 1) W
  n : ResX (w.heap.size + 2) W
  x : XB (w.heap.size + 3) i cr va W
  l : Sl RElt 3 W (Btw (w.heap.size + 4) W.heap.size) L [v]
theorem DSt.grow {w : World} {L : List Elt} {v : Value} {i : ByteArray} {cr : Bool} {va : ByteArray} {W W' : World} (h : DSt w L v i cr va W) (hb : Below W.heap.size W W') : DSt w L v i cr va W' :=
  ⟨h.below.trans (hb.mono h.below.size), h.r.below hb, h.n.below hb, h.x.below hb, (Sl.ok RElt.ok).mono h.l (fun j hj => hb.block j hj.2) (fun _ hj => ⟨hj.1, Nat.lt_of_lt_of_le hj.2 hb.size⟩)⟩
theorem DSt.sl_set {w : World} {L : List Elt} {v u : Value} {j : Nat} {W : World} (h : Sl RElt 3 W (Btw (w.heap.size + 4) W.heap.size) L [v]) : Sl RElt 3 (W.setCell ⟨w.heap.size + 3, j, none⟩ u) (Btw (w.heap.size + 4) (W.setCell ⟨w.heap.size + 3, j, none⟩ u).heap.size) L [v] :=
  (Sl.ok RElt.ok).mono h (fun k hk => Below.heap_setCell W ⟨w.heap.size + 3, j, none⟩ u k (by have := hk.1; show k ≠ w.heap.size + 3; omega)) (fun k hk => ⟨hk.1, by rw [World.size_setCell]; exact hk.2⟩)
theorem DSt.st0 {w : World} {L : List Elt} {v : Value} {i : ByteArray} {cr : Bool} {va : ByteArray} {W : World} (h : DSt w L v i cr va W) (x : ByteArray) : DSt w L v x cr va (W.setCell ⟨w.heap.size + 3, 0, none⟩ (.string x)) :=
  ⟨h.below.setCell (p := ⟨w.heap.size + 3, 0, none⟩) (by show _ ≤ w.heap.size + 3; omega) _, h.r.other (by omega), h.n.other (by omega), h.x.st0 x, DSt.sl_set h.l⟩
theorem DSt.st1 {w : World} {L : List Elt} {v : Value} {i : ByteArray} {cr : Bool} {va : ByteArray} {W : World} (h : DSt w L v i cr va W) (x : Bool) : DSt w L v i x va (W.setCell ⟨w.heap.size + 3, 1, none⟩ (.bool x)) :=
  ⟨h.below.setCell (p := ⟨w.heap.size + 3, 1, none⟩) (by show _ ≤ w.heap.size + 3; omega) _, h.r.other (by omega), h.n.other (by omega), h.x.st1 x, DSt.sl_set h.l⟩
theorem DSt.st2 {w : World} {L : List Elt} {v : Value} {i : ByteArray} {cr : Bool} {va : ByteArray} {W : World} (h : DSt w L v i cr va W) (x : ByteArray) : DSt w L v i cr x (W.setCell ⟨w.heap.size + 3, 2, none⟩ (.string x)) :=
  ⟨h.below.setCell (p := ⟨w.heap.size + 3, 2, none⟩) (by show _ ≤ w.heap.size + 3; omega) _, h.r.other (by omega), h.n.other (by omega), h.x.st2 x, DSt.sl_set h.l⟩
theorem sizeE (W : World) : (sizeOf (Tryd.prog.elem 41)).run Tryd.prog W = .ok 3 W := by kernel_rfl
/-- 'l[1:]' of elements -/
theorem tail_elt {w : World} {S : Nat → Prop} {a : Elt} {r : List Elt} {A : Option Addr} {n c : Nat} (h : Sl RElt 3 w S (a :: r) [.slice A n c]) :
    ∃ A' c', (∀ W : World, (Instr.slice 41 (.slice A n c) (some (.int .i64 1)) none none).run Tryd.prog W = .ok (.slice A' r.length c') W) ∧ Sl RElt 3 w S r [.slice A' r.length c'] := by
  obtain ⟨hn, hc, hm⟩ := h.len_
  subst hn
  obtain ⟨b, off, xs, hA, hb, -, -⟩ := h.at_ (i := 0) (by simp)
  subst hA
  have hlen : (a :: r).length = r.length + 1 := rfl
  have e : ∀ W : World, (Instr.slice 41 (.slice (some ⟨b, off, none⟩) (a :: r).length c) (some (.int .i64 1)) none none).run Tryd.prog W = .ok (.slice (if c = 1 then some ⟨b, off, none⟩ else some ⟨b, off + 3, none⟩) r.length (c - 1)) W := fun W => by
    rw [run_slice_l (P := Tryd.prog) W 41 (some ⟨b, off, none⟩) (a :: r).length c (by kernel_rfl) .i64 1 (by omega) (by rw [hlen]; omega), sizeE W]
    simp [Result.andThen, sliced, Addr.add_lit]
  refine ⟨_, _, e, ?_⟩
  by_cases hc1 : c = 1
  · have hr : r = [] := List.eq_nil_of_length_eq_zero (by omega)
    subst hr
    rw [if_pos hc1]
    exact ⟨_, _, rfl, by simp, by omega, fun h0 => absurd h0 (by simp)⟩
  · rw [if_neg hc1]
    refine ⟨_, _, rfl, by omega, by omega, fun h0 => ⟨b, off + 3, rfl, hb, fun i x hx => ?_⟩⟩
    have hi := (List.getElem?_eq_some_iff.1 hx).1
    obtain ⟨b', off', xs', hA', _, hr', hc'⟩ := h.at_ (i := i + 1) (by simp; omega)
    cases hA'
    have hx2 : (a :: r)[i + 1]'(by simp; omega) = x := by
      rw [List.getElem_cons_succ]
      exact (List.getElem?_eq_some_iff.1 hx).2
    rw [hx2] at hr'
    refine ⟨xs', hr', fun j u hu => ?_⟩
    have := hc' j u hu
    rw [show off + 3 + (i * 3 + j) = off + ((i + 1) * 3 + j) by omega]
    exact this
/-- a slice from one on, at the operation, for the walk -/
theorem wpList_slice1 {P : Program} {w : World} {ops : Array Oper} {rest : List Oper} {o : Oper} {a : Act} {Q : Exit → Act → World → Prop} (hgd : o.guard = none) (t : TypeId) (x lo : Operand) (ho : o.op = .slice t x (some lo) none none) (v v' l : Value) (hx : a.eval x = v) (hlo : a.eval lo = l)
    (hu : P.underlying t = some (.slice (P.elem t))) (hr : ∀ W : World, (Instr.slice t v (some l) none none).run P W = .ok v' W) (h : wpList P ops Q rest (a.put o.dst v') w) : wpList P ops Q (o :: rest) a w := by
  refine wpList_plain hgd fun K hK => ?_
  unfold Oper.wp execOp
  simp only [ho, Option.map_some, Option.map_none, Sem.run_bind, Sem.run_pure, Result.andThen_ok, hx, hlo, run_sliceAt_slice w t v (some l) none none hu, hr]
  exact hK _ _ h
def boolR (c : List UInt8) : Value := if c = [0] then .tuple #[.bool false, .int .i64 0] else if c = [255] then .tuple #[.bool true, .int .i64 0] else .tuple #[.bool false, .int .i64 7]
set_option maxHeartbeats 1000000 in
theorem Boolean_any (c : ByteArray) (w : World) : Calls Tryd.prog 90 #[.string c] w fun e w' => e = .returned (boolR c.data.toList) ∧ w = w' := by
  by_cases h0 : c.data.toList = [0]
  · have t1 : c.toList = [0] := by rw [ByteArray.toList_eq]; exact h0
    have t2 : (c.toList == [0]) = true := by simpa using t1
    have t3 : (c.toList != [0]) = false := by simpa using t1
    rw [boolR, if_pos h0]
    have t4 : (c.toList == [255]) = false := by rw [t1]; rfl
    clear h0
    go_enter Tryd.func90, Tryd.ntmps90
    go_wp2_with fail
    go_ret2
    exact ⟨rfl, rfl⟩
  · have t1 : ¬ c.toList = [0] := by rw [ByteArray.toList_eq]; exact h0
    have t2 : (c.toList == [0]) = false := by simpa using t1
    have t3 : (c.toList != [0]) = true := by simpa using t1
    by_cases h1 : c.data.toList = [255]
    · have u1 : c.toList = [255] := by rw [ByteArray.toList_eq]; exact h1
      have u2 : (c.toList == [255]) = true := by simpa using u1
      have u3 : (c.toList != [255]) = false := by simpa using u1
      rw [boolR, if_neg h0, if_pos h1]
      clear h0 h1
      go_enter Tryd.func90, Tryd.ntmps90
      go_wp2_with fail
      go_ret2
      exact ⟨rfl, rfl⟩
    · have u1 : ¬ c.toList = [255] := by rw [ByteArray.toList_eq]; exact h1
      have u2 : (c.toList == [255]) = false := by simpa using u1
      have u3 : (c.toList != [255]) = true := by simpa using u1
      rw [boolR, if_neg h0, if_neg h1]
      clear h0 h1
      go_enter Tryd.func90, Tryd.ntmps90
      go_wp2_with fail
      go_ret2
      exact ⟨rfl, rfl⟩
set_option maxHeartbeats 1000000 in
theorem rBoolean_any (c : ByteArray) (w : World) : Calls Tryd.prog 106 #[.string c] w fun e w' => e = .returned (boolR c.data.toList) ∧ w = w' := by
  by_cases h0 : c.data.toList = [0]
  · have t1 : c.toList = [0] := by rw [ByteArray.toList_eq]; exact h0
    have t2 : (c.toList == [0]) = true := by simpa using t1
    have t3 : (c.toList != [0]) = false := by simpa using t1
    rw [boolR, if_pos h0]
    have t4 : (c.toList == [255]) = false := by rw [t1]; rfl
    clear h0
    go_enter Tryd.func106, Tryd.ntmps106
    go_wp2_with fail
    go_ret2
    exact ⟨rfl, rfl⟩
  · have t1 : ¬ c.toList = [0] := by rw [ByteArray.toList_eq]; exact h0
    have t2 : (c.toList == [0]) = false := by simpa using t1
    have t3 : (c.toList != [0]) = true := by simpa using t1
    by_cases h1 : c.data.toList = [255]
    · have u1 : c.toList = [255] := by rw [ByteArray.toList_eq]; exact h1
      have u2 : (c.toList == [255]) = true := by simpa using u1
      have u3 : (c.toList != [255]) = false := by simpa using u1
      rw [boolR, if_neg h0, if_pos h1]
      clear h0 h1
      go_enter Tryd.func106, Tryd.ntmps106
      go_wp2_with fail
      go_ret2
      exact ⟨rfl, rfl⟩
    · have u1 : ¬ c.toList = [255] := by rw [ByteArray.toList_eq]; exact h1
      have u2 : (c.toList == [255]) = false := by simpa using u1
      have u3 : (c.toList != [255]) = true := by simpa using u1
      rw [boolR, if_neg h0, if_neg h1]
      clear h0 h1
      go_enter Tryd.func106, Tryd.ntmps106
      go_wp2_with fail
      go_ret2
      exact ⟨rfl, rfl⟩
end Go.Proofs.YtiikpdjjhnhiiaaDoor
