/- Wrap of one text, and of two; 'l[1:]' of elements. -/
import Derived.Test.YtbafpgdmnkkclaaDoorTlvI
import Derived.Test.YtbafpgdmnkkclaaDoorTlv3
namespace Go.Proofs.YtbafpgdmnkkclaaDoor
open Go.RowKit

/-- Wrap of one text that has just been laid -/
theorem wrap_one (t : Nat) (ht : t < 256) (ht31 : t % 32 ≠ 31) (x : ByteArray) (hx : x.size ≤ 1000000) (r : List UInt8 × Int) (hr : wrapF t [x.data.toList] = r) (w : World) :
    Calls Tryd.prog 44 #[.int .i64 (t : Int), .slice (some ⟨w.heap.size, 0, none⟩) 1 1] (w.alloc (.cells #[.string x] 9)) fun e w' => e = .returned (wrapR r) ∧ Below w.heap.size w w' := by
  have hsl := sl_pu (f := strC) (size := 1) (fun _ => rfl) w #[.string x] 9 [x.data.toList] rfl (by simp [maxLen])
  refine (hr ▸ Wrap_any t ht ht31 [x.data.toList] _ 1 (by simp) (fun y hy => by simp at hy; subst hy; rw [size_string]; omega) _ hsl).mono ?_
  rintro e w' ⟨he, hb⟩
  exact ⟨he, ((Below.refl _ _).alloc (Nat.le_refl _) _).trans (hb.mono (by simp))⟩
theorem wrapF_one {t : Nat} {x : ByteArray} (h : x.size ≤ 131072) : wrapF t [x.data.toList] = (wrapW t x.data.toList, 0) := by
  rw [wrapF]
  simp only [List.flatten_cons, List.flatten_nil, List.append_nil, size_string]
  rw [if_neg (by omega)]
theorem wrapF_big {t : Nat} {x : ByteArray} (h : 131072 < x.size) : wrapF t [x.data.toList] = ([], 6) := by
  rw [wrapF]
  simp only [List.flatten_cons, List.flatten_nil, List.append_nil, size_string]
  rw [if_pos h]
theorem wrap7_one (t : Nat) (ht : t < 256) (x : ByteArray) (hx : x.size ≤ 1000000) (y : ByteArray) (hy : (⟨(wrapG t [x.data.toList]).1.toArray⟩ : ByteArray) = y) (w : World) :
    Calls Tryd.prog 26 #[.int .i64 (t : Int), .slice (some ⟨w.heap.size, 0, none⟩) 1 1] (w.alloc (.cells #[.string x] 9)) fun e w' => e = .returned (.string y) ∧ Below w.heap.size w w' := by
  have hsl := sl_pu (f := strC) (size := 1) (fun _ => rfl) w #[.string x] 9 [x.data.toList] rfl (by simp [maxLen])
  have hf : [x.data.toList].flatten = x.data.toList := by simp
  refine (rWrap7_any t ht [x.data.toList] _ 1 (by rw [hf, size_string]; omega) _ hsl).mono ?_
  rintro e w' ⟨he, hb⟩
  exact ⟨by rw [he, hy], ((Below.refl _ _).alloc (Nat.le_refl _) _).trans (hb.mono (by simp))⟩
theorem idW_len (s : List UInt8) : (idW s).length ≤ 1005 := by
  rw [idW, wrapW_len]
  have := encP_len s
  have := lenB_le ((encP s).getD []).length
  omega
theorem sizeE (W : World) : (sizeOf (Tryd.prog.elem 41)).run Tryd.prog W = .ok 3 W := by kernel_rfl
/-- 'l[1:]' of elements -/
theorem tail_elt {w : World} {S : Nat → Prop} {a : Elt} {r : List Elt} {A : Option Addr} {n c : Nat} (h : Sl RElt 3 w S (a :: r) [.slice A n c]) :
    ∃ A' c', (∀ W : World, (Instr.slice 41 (.slice A n c) (some (.int .i64 1)) none none).run Tryd.prog W = .ok (.slice A' r.length c') W) ∧ Sl RElt 3 w S r [.slice A' r.length c'] := by
  obtain ⟨hn, hc, hm⟩ := h.len_
  subst hn
  obtain ⟨b, off, xs, hA, hb, -, -⟩ := h.at_ (i := 0) (by simp)
  subst hA
  have hlen : (a :: r).length = r.length + 1 := rfl
  have e : ∀ W : World, (Instr.slice 41 (.slice (some ⟨b, off, none⟩) (a :: r).length c) (some (.int .i64 1)) none none).run Tryd.prog W = .ok (.slice (if c = 1 then some ⟨b, off, none⟩ else some ⟨b, off + 3, none⟩) r.length (c - 1)) W := fun W => by
    rw [run_slice_l (P := Tryd.prog) W 41 (some ⟨b, off, none⟩) (a :: r).length c (by kernel_rfl) .i64 1 (by omega) (by rw [hlen]; omega), sizeE W]
    simp [Result.andThen, sliced, Addr.add_lit]
  refine ⟨_, _, e, ?_⟩
  by_cases hc1 : c = 1
  · have hr : r = [] := List.eq_nil_of_length_eq_zero (by omega)
    subst hr
    rw [if_pos hc1]
    exact ⟨_, _, rfl, by simp, by omega, fun h0 => absurd h0 (by simp)⟩
  · rw [if_neg hc1]
    refine ⟨_, _, rfl, by omega, by omega, fun h0 => ⟨b, off + 3, rfl, hb, fun i x hx => ?_⟩⟩
    have hi := (List.getElem?_eq_some_iff.1 hx).1
    obtain ⟨b', off', xs', hA', _, hr', hc'⟩ := h.at_ (i := i + 1) (by simp; omega)
    cases hA'
    have hx2 : (a :: r)[i + 1]'(by simp; omega) = x := by
      rw [List.getElem_cons_succ]
      exact (List.getElem?_eq_some_iff.1 hx).2
    rw [hx2] at hr'
    refine ⟨xs', hr', fun j u hu => ?_⟩
    have := hc' j u hu
    rw [show off + 3 + (i * 3 + j) = off + ((i + 1) * 3 + j) by omega]
    exact this
/-- a slice from one on, at the operation, for the walk -/
theorem wpList_slice1 {P : Program} {w : World} {ops : Array Oper} {rest : List Oper} {o : Oper} {a : Act} {Q : Exit → Act → World → Prop} (hgd : o.guard = none) (t : TypeId) (x lo : Operand) (ho : o.op = .slice t x (some lo) none none) (v v' l : Value) (hx : a.eval x = v) (hlo : a.eval lo = l)
    (hu : P.underlying t = some (.slice (P.elem t))) (hr : ∀ W : World, (Instr.slice t v (some l) none none).run P W = .ok v' W) (h : wpList P ops Q rest (a.put o.dst v') w) : wpList P ops Q (o :: rest) a w := by
  refine wpList_plain hgd fun K hK => ?_
  unfold Oper.wp execOp
  simp only [ho, Option.map_some, Option.map_none, Sem.run_bind, Sem.run_pure, Result.andThen_ok, hx, hlo, run_sliceAt_slice w t v (some l) none none hu, hr]
  exact hK _ _ h
theorem elem_elt : Tryd.prog.underlying 41 = some (.slice (Tryd.prog.elem 41)) := by kernel_rfl
/-- Wrap of two texts that have just been laid -/
theorem wrap_two (t : Nat) (ht : t < 256) (ht31 : t % 32 ≠ 31) (x y : ByteArray) (hx : x.size ≤ 1000000) (hy : y.size ≤ 1000000) (r : List UInt8 × Int) (hr : wrapF t [x.data.toList, y.data.toList] = r) (w : World) :
    Calls Tryd.prog 44 #[.int .i64 (t : Int), .slice (some ⟨w.heap.size, 0, none⟩) 2 2] (w.alloc (.cells #[.string x, .string y] 9)) fun e w' => e = .returned (wrapR r) ∧ Below w.heap.size w w' := by
  have hsl := sl_pu (f := strC) (size := 1) (fun _ => rfl) w #[.string x, .string y] 9 [x.data.toList, y.data.toList] rfl (by simp [maxLen])
  refine (hr ▸ Wrap_any t ht ht31 [x.data.toList, y.data.toList] _ 2 (by simp) (fun z hz => by simp at hz; rcases hz with rfl | rfl <;> (rw [size_string]; omega)) _ hsl).mono ?_
  rintro e w' ⟨he, hb⟩
  exact ⟨he, ((Below.refl _ _).alloc (Nat.le_refl _) _).trans (hb.mono (by simp))⟩
theorem wrapF_two {t : Nat} {x y : ByteArray} (h : x.size + y.size ≤ 131072) : wrapF t [x.data.toList, y.data.toList] = (wrapW t (x.data.toList ++ y.data.toList), 0) := by
  rw [wrapF]
  simp only [List.flatten_cons, List.flatten_nil, List.append_nil, List.length_append, size_string]
  rw [if_neg (by omega)]
theorem wrap7_two (t : Nat) (ht : t < 256) (x y : ByteArray) (hx : x.size ≤ 1000000) (hy : y.size ≤ 1000000) (z : ByteArray) (hz : (⟨(wrapG t [x.data.toList, y.data.toList]).1.toArray⟩ : ByteArray) = z) (w : World) :
    Calls Tryd.prog 26 #[.int .i64 (t : Int), .slice (some ⟨w.heap.size, 0, none⟩) 2 2] (w.alloc (.cells #[.string x, .string y] 9)) fun e w' => e = .returned (.string z) ∧ Below w.heap.size w w' := by
  have hsl := sl_pu (f := strC) (size := 1) (fun _ => rfl) w #[.string x, .string y] 9 [x.data.toList, y.data.toList] rfl (by simp [maxLen])
  have hf : [x.data.toList, y.data.toList].flatten = x.data.toList ++ y.data.toList := by simp
  refine (rWrap7_any t ht [x.data.toList, y.data.toList] _ 2 (by rw [hf, List.length_append, size_string, size_string]; omega) _ hsl).mono ?_
  rintro e w' ⟨he, hb⟩
  exact ⟨by rw [he, hz], ((Below.refl _ _).alloc (Nat.le_refl _) _).trans (hb.mono (by simp))⟩
end Go.Proofs.YtbafpgdmnkkclaaDoor
