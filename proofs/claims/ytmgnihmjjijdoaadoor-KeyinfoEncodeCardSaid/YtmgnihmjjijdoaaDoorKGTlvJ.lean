/- The reference's decoder of fields: Open, Need, May, End. -/
import Derived.Test.YtmgnihmjjijdoaaDoorKGTlvA
import Derived.Test.YtmgnihmjjijdoaaDoorKGLibD
namespace Go.Proofs.YtmgnihmjjijdoaaDoor
open Go.RowKit
def FAt (w : World) (g : Nat) (rest : List Elt) : Prop :=
 ∃ (l : List Elt) (A : Option Addr) (c k : Nat) (T : TypeId), w.heap[g]? = some (.cells #[.slice A l.length c, .int .i64 (k : Int)] T (0, 0)) ∧ k ≤ l.length ∧ rest = l.drop k ∧ Sl RElt 3 w (Nd g w.heap.size) l [.slice A l.length c]
theorem FAt.lt {w : World} {g : Nat} {rest : List Elt} (h : FAt w g rest) : g < w.heap.size := by
 obtain ⟨l, A, c, k, T, h1, _⟩ := h
 exact (Array.getElem?_eq_some_iff.1 h1).1
theorem FAt.below {w w' : World} {g : Nat} {rest : List Elt} (h : FAt w g rest) (hb : Below w.heap.size w w') : FAt w' g rest := by
 have hlt := h.lt
 obtain ⟨l, A, c, k, T, h1, h2, h3, h4⟩ := h
 exact ⟨l, A, c, k, T, (hb.block g hlt).trans h1, h2, h3, (Sl.ok RElt.ok).mono h4 (fun j hj => hb.block j hj.1) (fun j hj => ⟨Nat.lt_of_lt_of_le hj.1 hb.size, hj.2⟩)⟩
theorem FAt.drewN {w : World} {g : Nat} {rest : List Elt} (h : FAt w g rest) (n : Nat) : FAt (w.drewN n) g rest := h
theorem FAt.ex {w w' : World} {g d : Nat} {rest : List Elt} (h : FAt w g rest) (hb : Ex d w w') (hd : w.heap.size ≤ d) : FAt w' g rest := by
 have hlt := h.lt
 obtain ⟨l, A, c, k, T, h1, h2, h3, h4⟩ := h
 exact ⟨l, A, c, k, T, (hb.block g hlt (fun e => by simp only [Option.some.injEq] at e; omega)).trans h1, h2, h3, (Sl.ok RElt.ok).mono h4 (fun j hj => hb.block j hj.1 (fun e => by have := hj.1; simp only [Option.some.injEq] at e; omega)) (fun j hj => ⟨Nat.lt_of_lt_of_le hj.1 hb.size, hj.2⟩)⟩
def needF : List Elt → Int → Except Int Elt × List Elt
 | [], _ => (.error 3, [])
 | a :: r, t => if 0 ≤ t ∧ (a.1 : Int) ≠ t then (.error 5, a :: r) else (.ok a, r)
def mayF : List Elt → Int → Option Elt × List Elt
 | [], _ => (none, [])
 | a :: r, t => if (a.1 : Int) = t then (some a, r) else (none, a :: r)
def mayR : Option Elt → Value
 | none => .tuple #[noElt, .bool false]
 | some e => .tuple #[eltV e, .bool true]
theorem FAt.facts {w : World} {g : Nat} {rest : List Elt} (h : FAt w g rest) : ∃ (l : List Elt) (A : Option Addr) (c k : Nat) (T : TypeId), w.heap[g]? = some (.cells #[.slice A l.length c, .int .i64 (k : Int)] T (0, 0)) ∧ k ≤ l.length ∧ rest = l.drop k ∧ Sl RElt 3 w (Nd g w.heap.size) l [.slice A l.length c] ∧
  w.cell? ⟨g, 0, none⟩ = some (.slice A l.length c) ∧ w.cell? ⟨g, 1, none⟩ = some (.int .i64 (k : Int)) ∧ w.frozen? ⟨g, 1, none⟩ = false := by
 obtain ⟨l, A, c, k, T, h1, h2, h3, h4⟩ := h
 exact ⟨l, A, c, k, T, h1, h2, h3, h4, by simp [World.cell?, h1], by simp [World.cell?, h1], by simp [World.frozen?, h1]⟩
theorem Sl.eltAt {w : World} {S : Nat → Prop} {A : Option Addr} {n c : Nat} {l : List Elt} (h : Sl RElt 3 w S l [.slice A n c]) {i : Nat} (hi : i < l.length) :
  ∃ b off, A = some ⟨b, off, none⟩ ∧ S b ∧ w.cell? ⟨b, off + i * 3, none⟩ = some (.int .i64 (l[i].1 : Int)) ∧ w.cell? ⟨b, off + i * 3 + 1, none⟩ = some (.string ⟨l[i].2.1.toArray⟩) ∧ w.cell? ⟨b, off + i * 3 + 2, none⟩ = some (.string ⟨l[i].2.2.toArray⟩) := by
 obtain ⟨b, off, xs, hA, hb, hr, hc⟩ := h.at_ hi
 have e : xs = eltC l[i] := hr
 subst e
 exact ⟨b, off, hA, hb, by simpa using hc 0 _ rfl, by simpa [Nat.add_assoc] using hc 1 _ rfl, by simpa [Nat.add_assoc] using hc 2 _ rfl⟩
theorem drop_cons {α : Type} {l r : List α} {a : α} {k : Nat} (h : a :: r = l.drop k) : ∃ hk : k < l.length, l[k] = a ∧ r = l.drop (k + 1) := by
 have hk : k < l.length := by
  rcases Nat.lt_or_ge k l.length with h1 | h1
  ·exact h1
  ·rw [List.drop_of_length_le h1] at h; cases h
 rw [List.drop_eq_getElem_cons hk] at h
 cases h
 exact ⟨hk, rfl, rfl⟩
theorem below_ex {B d : Nat} {a w w' : World} (h : Below B a w) (hB : B ≤ w.heap.size) (hd : B ≤ d) (hx : Ex d w w') : Below B a w' := Ex.below h hB hd hx
theorem FAt.mk' {w W : World} {g k : Nat} {l : List Elt} {A : Option Addr} {c : Nat} {T : TypeId} (hsl : Sl RElt 3 w (Nd g w.heap.size) l [.slice A l.length c]) (hx : Ex g w W)
  (hg : W.heap[g]? = some (.cells #[.slice A l.length c, .int .i64 (k : Int)] T (0, 0))) (hk : k ≤ l.length) : FAt W g (l.drop k) :=
 ⟨l, A, c, k, T, hg, hk, rfl, (Sl.ok RElt.ok).mono hsl (fun j hj => hx.keeps j hj) (fun _ hj => ⟨Nat.lt_of_lt_of_le hj.1 hx.size, hj.2⟩)⟩
end Go.Proofs.YtmgnihmjjijdoaaDoor
namespace Go.Proofs.YtmgnihmjjijdoaaDoor
open Go.RowKit
def openF (a t : Int) (c : List UInt8) : Except Int (List Elt) := if a ≠ t then .error 5 else listF c
def openRes : Except Int (List Elt) → World → Ending → World → Prop
 | .error k, _, e, _ => e = .returned (.tuple #[.agg #[.slice none 0 0, .int .i64 0], .int .i64 k])
 | .ok l, w, e, w' => ∃ A c, e = .returned (.tuple #[.agg #[.slice A l.length c, .int .i64 0], .int .i64 0]) ∧ Sl RElt 3 w' (Btw w.heap.size w'.heap.size) l [.slice A l.length c]
def OpenPost (w : World) (o : Except Int (List Elt)) (e : Ending) (w' : World) : Prop := Below w.heap.size w w' ∧ openRes o w e w'
theorem FAt.new {w w1 W : World} {l : List Elt} {A : Option Addr} {c : Nat} {T : TypeId} (h : Sl RElt 3 w1 (Btw w.heap.size w1.heap.size) l [.slice A l.length c]) (hW : W = w1.alloc (.cells #[.slice A l.length c, .int .i64 0] T)) : FAt W w1.heap.size l := by
 subst hW
 exact ⟨l, A, c, 0, T, heap_alloc_new w1 _, Nat.zero_le _, rfl, (Sl.ok RElt.ok).mono h (fun j hj => Below.heap_alloc _ _ j hj.2) (fun j hj => ⟨by have := hj.2; simp; omega, by have := hj.2; omega⟩)⟩
end Go.Proofs.YtmgnihmjjijdoaaDoor
namespace Go.Proofs.YtmgnihmjjijdoaaDoor
open Go.RowKit
theorem wrap_one (t : Nat) (ht : t < 256) (ht31 : t % 32 ≠ 31) (x : ByteArray) (hx : x.size ≤ 1000000) (r : List UInt8 × Int) (hr : wrapF t [x.data.toList] = r) (w : World) :
  Calls Tryd.prog 19 #[.int .i64 (t : Int), .slice (some ⟨w.heap.size, 0, none⟩) 1 1] (w.alloc (.cells #[.string x] 9)) fun e w' => e = .returned (wrapR r) ∧ Below w.heap.size w w' := by
 have hsl := sl_pu (f := strC) (size := 1) (fun _ => rfl) w #[.string x] 9 [x.data.toList] rfl (by simp [maxLen])
 refine (hr ▸ Wrap_any t ht ht31 [x.data.toList] _ 1 (by simp) (fun y hy => by simp at hy; subst hy; rw [size_string]; omega) _ hsl).mono ?_
 rintro e w' ⟨he, hb⟩
 exact ⟨he, ((Below.refl _ _).alloc (Nat.le_refl _) _).trans (hb.mono (by simp))⟩
theorem wrapF_one {t : Nat} {x : ByteArray} (h : x.size ≤ 131072) : wrapF t [x.data.toList] = (wrapW t x.data.toList, 0) := by
 rw [wrapF]
 simp only [List.flatten_cons, List.flatten_nil, List.append_nil, size_string]
 rw [if_neg (by omega)]
theorem wrap7_one (t : Nat) (ht : t < 256) (x : ByteArray) (hx : x.size ≤ 1000000) (y : ByteArray) (hy : (⟨(wrapG t [x.data.toList]).1.toArray⟩ : ByteArray) = y) (w : World) :
  Calls Tryd.prog 21 #[.int .i64 (t : Int), .slice (some ⟨w.heap.size, 0, none⟩) 1 1] (w.alloc (.cells #[.string x] 9)) fun e w' => e = .returned (.string y) ∧ Below w.heap.size w w' := by
 have hsl := sl_pu (f := strC) (size := 1) (fun _ => rfl) w #[.string x] 9 [x.data.toList] rfl (by simp [maxLen])
 have hf : [x.data.toList].flatten = x.data.toList := by simp
 refine (rWrap7_any t ht [x.data.toList] _ 1 (by rw [hf, size_string]; omega) _ hsl).mono ?_
 rintro e w' ⟨he, hb⟩
 exact ⟨by rw [he, hy], ((Below.refl _ _).alloc (Nat.le_refl _) _).trans (hb.mono (by simp))⟩
theorem sizeE (W : World) : (sizeOf (Tryd.prog.elem 53)).run Tryd.prog W = .ok 3 W := by kernel_rfl
theorem tail_elt {w : World} {S : Nat → Prop} {a : Elt} {r : List Elt} {A : Option Addr} {n c : Nat} (h : Sl RElt 3 w S (a :: r) [.slice A n c]) :
  ∃ A' c', (∀ W : World, (Instr.slice 53 (.slice A n c) (some (.int .i64 1)) none none).run Tryd.prog W = .ok (.slice A' r.length c') W) ∧ Sl RElt 3 w S r [.slice A' r.length c'] := by
 obtain ⟨hn, hc, hm⟩ := h.len_
 subst hn
 obtain ⟨b, off, xs, hA, hb, -, -⟩ := h.at_ (i := 0) (by simp)
 subst hA
 have hlen : (a :: r).length = r.length + 1 := rfl
 have e : ∀ W : World, (Instr.slice 53 (.slice (some ⟨b, off, none⟩) (a :: r).length c) (some (.int .i64 1)) none none).run Tryd.prog W = .ok (.slice (if c = 1 then some ⟨b, off, none⟩ else some ⟨b, off + 3, none⟩) r.length (c - 1)) W := fun W => by
  rw [run_slice_l (P := Tryd.prog) W 53 (some ⟨b, off, none⟩) (a :: r).length c (by kernel_rfl) .i64 1 (by omega) (by rw [hlen]; omega), sizeE W]
  simp [Result.andThen, sliced, Addr.add_lit]
 refine ⟨_, _, e, ?_⟩
 by_cases hc1 : c = 1
 ·have hr : r = [] := List.eq_nil_of_length_eq_zero (by omega)
  subst hr
  rw [if_pos hc1]
  exact ⟨_, _, rfl, by simp, by omega, fun h0 => absurd h0 (by simp)⟩
 ·rw [if_neg hc1]
  refine ⟨_, _, rfl, by omega, by omega, fun h0 => ⟨b, off + 3, rfl, hb, fun i x hx => ?_⟩⟩
  have hi := (List.getElem?_eq_some_iff.1 hx).1
  obtain ⟨b', off', xs', hA', _, hr', hc'⟩ := h.at_ (i := i + 1) (by simp; omega)
  cases hA'
  have hx2 : (a :: r)[i + 1]'(by simp; omega) = x := by
   rw [List.getElem_cons_succ]
   exact (List.getElem?_eq_some_iff.1 hx).2
  rw [hx2] at hr'
  refine ⟨xs', hr', fun j u hu => ?_⟩
  have := hc' j u hu
  rw [show off + 3 + (i * 3 + j) = off + ((i + 1) * 3 + j) by omega]
  exact this
theorem wpList_slice1 {P : Program} {w : World} {ops : Array Oper} {rest : List Oper} {o : Oper} {a : Act} {Q : Exit → Act → World → Prop} (hgd : o.guard = none) (t : TypeId) (x lo : Operand) (ho : o.op = .slice t x (some lo) none none) (v v' l : Value) (hx : a.eval x = v) (hlo : a.eval lo = l)
  (hu : P.underlying t = some (.slice (P.elem t))) (hr : ∀ W : World, (Instr.slice t v (some l) none none).run P W = .ok v' W) (h : wpList P ops Q rest (a.put o.dst v') w) : wpList P ops Q (o :: rest) a w := by
 refine wpList_plain hgd fun K hK => ?_
 unfold Oper.wp execOp
 simp only [ho, Option.map_some, Option.map_none, Sem.run_bind, Sem.run_pure, Result.andThen_ok, hx, hlo, run_sliceAt_slice w t v (some l) none none hu, hr]
 exact hK _ _ h
theorem elem_elt : Tryd.prog.underlying 53 = some (.slice (Tryd.prog.elem 53)) := by kernel_rfl
theorem wrap_two (t : Nat) (ht : t < 256) (ht31 : t % 32 ≠ 31) (x y : ByteArray) (hx : x.size ≤ 1000000) (hy : y.size ≤ 1000000) (r : List UInt8 × Int) (hr : wrapF t [x.data.toList, y.data.toList] = r) (w : World) :
  Calls Tryd.prog 19 #[.int .i64 (t : Int), .slice (some ⟨w.heap.size, 0, none⟩) 2 2] (w.alloc (.cells #[.string x, .string y] 9)) fun e w' => e = .returned (wrapR r) ∧ Below w.heap.size w w' := by
 have hsl := sl_pu (f := strC) (size := 1) (fun _ => rfl) w #[.string x, .string y] 9 [x.data.toList, y.data.toList] rfl (by simp [maxLen])
 refine (hr ▸ Wrap_any t ht ht31 [x.data.toList, y.data.toList] _ 2 (by simp) (fun z hz => by simp at hz; rcases hz with rfl | rfl <;> (rw [size_string]; omega)) _ hsl).mono ?_
 rintro e w' ⟨he, hb⟩
 exact ⟨he, ((Below.refl _ _).alloc (Nat.le_refl _) _).trans (hb.mono (by simp))⟩
theorem wrapF_two {t : Nat} {x y : ByteArray} (h : x.size + y.size ≤ 131072) : wrapF t [x.data.toList, y.data.toList] = (wrapW t (x.data.toList ++ y.data.toList), 0) := by
 rw [wrapF]
 simp only [List.flatten_cons, List.flatten_nil, List.append_nil, List.length_append, size_string]
 rw [if_neg (by omega)]
theorem wrap7_two (t : Nat) (ht : t < 256) (x y : ByteArray) (hx : x.size ≤ 1000000) (hy : y.size ≤ 1000000) (z : ByteArray) (hz : (⟨(wrapG t [x.data.toList, y.data.toList]).1.toArray⟩ : ByteArray) = z) (w : World) :
  Calls Tryd.prog 21 #[.int .i64 (t : Int), .slice (some ⟨w.heap.size, 0, none⟩) 2 2] (w.alloc (.cells #[.string x, .string y] 9)) fun e w' => e = .returned (.string z) ∧ Below w.heap.size w w' := by
 have hsl := sl_pu (f := strC) (size := 1) (fun _ => rfl) w #[.string x, .string y] 9 [x.data.toList, y.data.toList] rfl (by simp [maxLen])
 have hf : [x.data.toList, y.data.toList].flatten = x.data.toList ++ y.data.toList := by simp
 refine (rWrap7_any t ht [x.data.toList, y.data.toList] _ 2 (by rw [hf, List.length_append, size_string, size_string]; omega) _ hsl).mono ?_
 rintro e w' ⟨he, hb⟩
 exact ⟨by rw [he, hz], ((Below.refl _ _).alloc (Nat.le_refl _) _).trans (hb.mono (by simp))⟩
end Go.Proofs.YtmgnihmjjijdoaaDoor
