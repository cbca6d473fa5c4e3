/- Names that the laws make: the deck, one attribute. -/
import Derived.Test.YtepibepgfackkaaDoorNamW
namespace Go.Proofs.YtepibepgfackkaaDoor
open Go.RowKit

theorem Ex.alloc {d : Nat} {a w : World} (h : Ex d a w) (o : Obj) : Ex d a (w.alloc o) := h.then_ ((Below.refl _ _).alloc (Nat.le_refl _) _)
theorem Ex.setNew {d g j : Nat} {a w : World} (h : Ex d a w) (hg : a.heap.size ≤ g) (u : Value) : Ex d a (w.setCell ⟨g, j, none⟩ u) :=
  ⟨h.os, h.tape, h.output, by simpa using h.size, fun k hk hne => (Below.heap_setCell w ⟨g, j, none⟩ u k (by show k ≠ g; omega)).trans (h.block k hk hne)⟩
theorem Ex.at_ {d g : Nat} {w w' : World} (h : Ex d w w') (hg : g < w.heap.size) (hd : g ≠ d) : w'.heap[g]? = w.heap[g]? := h.keeps g ⟨hg, hd⟩
theorem DeckAt.alloc {w : World} {d : Nat} (h : DeckAt w d) (o : Obj) : DeckAt (w.alloc o) d := h.below ((Below.refl _ _).alloc (Nat.le_refl _) _)
theorem DeckAt.set_ {w : World} {d g j : Nat} (h : DeckAt w d) (hg : d < g) (u : Value) : DeckAt (w.setCell ⟨g, j, none⟩ u) d :=
  h.keep ((Below.refl _ _).setCell (p := ⟨g, j, none⟩) (by show d + 1 ≤ g; omega) u)
theorem DeckAt.drewN {w : World} {d : Nat} (h : DeckAt w d) (n : Nat) : DeckAt (w.drewN n) d := h.below (below_drewN (Below.refl _ _) n)
theorem NB.ex {g d : Nat} {v : Value} {W W' : World} (h : NB g v W) (hx : Ex d W W') (hd : g ≠ d) : NB g v W' := (hx.at_ h.lt hd).trans h
theorem Own.ex {α : Type} {R : Rep α} {size : Nat} {e : TypeId} {w w' : World} {base d : Nat} {S : Nat → Prop} {v : Value} {l : List α} (hR : RepOk R size) (h : Own R size e w base S v l) (hx : Ex d w w') (hd : d < base) (hS : ∀ k, S k → base ≤ k ∧ k < w.heap.size) :
    Own R size e w' base S v l :=
  Own.keep hR h (fun g hg => hx.at_ (h.lt g hg).2 (by have := (h.lt g hg).1; omega)) (fun k hk => hx.at_ (hS k hk).2 (by have := (hS k hk).1; omega)) (fun _ hk => hk) (by obtain ⟨_, _, h2, _⟩ := h; exact h2)
theorem ResAtt.ex {g d : Nat} {W W' : World} (h : ResAtt g W) (hx : Ex d W W') (hd : g ≠ d) : ResAtt g W' := (hx.at_ (Array.getElem?_eq_some_iff.1 h).1 hd).trans h

/-- what a new deck is -/
theorem deck_new {w : World} {l : List Int} {A : Option Addr} {c : Nat} {T : TypeId} (h : Sl RInt 1 w (Lt w.heap.size) l [.slice A l.length c]) : DeckAt (w.alloc (.cells #[.slice A l.length c, .int .i64 0] T)) w.heap.size :=
  ⟨l, A, c, 0, T, heap_alloc_new w _, Nat.zero_le _, (Sl.ok RInt.ok).mono h (fun k hk => Below.heap_alloc w _ k hk) (fun _ hk => hk)⟩
theorem New_any (l : List Int) (A : Option Addr) (n c : Nat) (w : World) (h : Sl RInt 1 w (Lt w.heap.size) l [.slice A n c]) :
    Calls Tryd.prog 14 #[.slice A n c] w fun e w' => e = .returned (.pointer (some ⟨w.heap.size, 0, none⟩)) ∧ DeckAt w' w.heap.size ∧ Below w.heap.size w w' := by
  obtain ⟨rfl, -, -⟩ := h.len_
  have HD := hide (fun T => deck_new (T := T) h)
  clear h
  go_enter Tryd.func14, Tryd.ntmps14
  go_wp2_with fail
  go_ret
  exact ⟨rfl, HD.out _, (Below.refl _ _).alloc (Nat.le_refl _) _⟩

/-! ### one attribute -/
theorem att_at {d : Nat} {w w1 : World} {o : Obj} {C : Array Value} {t : TypeId} (hex : Ex d ((w.alloc o).alloc (.cells C t)) w1) (hd : d < w.heap.size) (hC : C.toList = attTab.flatMap attC) {v : Nat} (hv : v < 12) :
    w1.cell? ⟨w.heap.size + 1, v * 3, none⟩ = some (.string ⟨(attAt v).1.toArray⟩) ∧ w1.cell? ⟨w.heap.size + 1, v * 3 + 1, none⟩ = some (.int .i64 (attAt v).2.1) ∧ w1.cell? ⟨w.heap.size + 1, v * 3 + 2, none⟩ = some (.string ⟨(attAt v).2.2.toArray⟩) := by
  have hy : attTab[v]? = some (attAt v) := by
    unfold attAt
    rw [List.getD_eq_getElem?_getD, List.getElem?_eq_getElem (show v < attTab.length from hv)]; rfl
  obtain ⟨cs, h1, h2⟩ := news_pu (f := attC) (size := 3) (fun _ => rfl) (w.alloc o) No C t attTab hC v _ hy
  have hcs : cs = attC (attAt v) := h1
  subst hcs
  have key : ∀ j u, (attC (attAt v))[j]? = some u → w1.cell? ⟨w.heap.size + 1, v * 3 + j, none⟩ = some u := fun j u hu => by
    have := h2 j u hu
    rw [Addr.add_lit, Nat.zero_add, World.size_alloc] at this
    exact (hex.cell (p := ⟨w.heap.size + 1, v * 3 + j, none⟩) (by simp) (by show w.heap.size + 1 ≠ d; omega)).trans this
  exact ⟨key 0 _ rfl, key 1 _ rfl, key 2 _ rfl⟩
def AttPost (d : Nat) (w : World) (e : Ending) (w' : World) : Prop :=
  ∃ (ta va : ByteArray) (k : Int), (ta.data.toList, k, va.data.toList) ∈ attTab ∧ e = .returned (.agg #[.string ta, .int .i64 k, .string va]) ∧ DeckAt w' d ∧ Ex d w w'

set_option maxRecDepth 100000 in
set_option maxHeartbeats 4000000 in
theorem attribute_any (d : Nat) (w : World) (h : DeckAt w d) : Calls Tryd.prog 35 #[.pointer (some ⟨d, 0, none⟩)] w (AttPost d w) := by
  have hd := h.lt
  have HDK := hide (fun o1 o2 => (h.alloc o1).alloc o2)
  clear h
  go_enter Tryd.func35, Tryd.ntmps35
  go_wp2_with fail
  refine (Next_any d 12 (by omega) (by omega) _ (HDK.out _ _)).mono ?_
  rintro e w1 ⟨v, hv, rfl, hdk, hex⟩
  obtain ⟨c0, c1, c2⟩ := att_at hex hd rfl hv
  have hra : ResAtt w.heap.size w1 := ResAtt.ex (by
    unfold ResAtt
    rw [Below.heap_alloc _ _ _ (by simp)]
    exact heap_alloc_new w _) hex (by omega)
  have HX := hide (show Ex d w w1 from (((Ex.refl d w).alloc _).alloc _).trans hex)
  have HDK := hide hdk
  have HRA := hide hra
  obtain ⟨r0, r1, r2, f0, f1, f2⟩ := hra.facts
  have HM := hide (attAt_mem v hv)
  obtain ⟨a, ha⟩ : ∃ a, attAt v = a := ⟨_, rfl⟩
  rw [ha] at c0 c1 c2 HM
  obtain ⟨ta, hta⟩ : ∃ ta : ByteArray, ta = ⟨a.1.toArray⟩ := ⟨_, rfl⟩
  obtain ⟨va, hva⟩ : ∃ va : ByteArray, va = ⟨a.2.2.toArray⟩ := ⟨_, rfl⟩
  obtain ⟨k, hk⟩ : ∃ k, a.2.1 = k := ⟨_, rfl⟩
  rw [← hta] at c0
  rw [hk] at c1
  rw [← hva] at c2
  have HE := hide (show (ta.data.toList, k, va.data.toList) ∈ attTab by rw [hta, hva, ← hk]; exact HM.out)
  have hv1 : (v : Int) < 12 := by omega
  have hv0 : (0 : Int) ≤ (v : Int) := by omega
  clear hex hdk hra ha hta hva hk
  go_wp2_with fail
  obtain ⟨q0, q1, q2⟩ := HRA.out.store (.string ta) (.int .i64 k) (.string va)
  have hx3 := ((HX.out.setNew (g := w.heap.size) (j := 0) (Nat.le_refl _) (.string ta)).setNew (g := w.heap.size) (j := 1) (Nat.le_refl _) (.int .i64 k)).setNew (g := w.heap.size) (j := 2) (Nat.le_refl _) (.string va)
  have hd3 := ((HDK.out.set_ (g := w.heap.size) (j := 0) hd (.string ta)).set_ (g := w.heap.size) (j := 1) hd (.int .i64 k)).set_ (g := w.heap.size) (j := 2) hd (.string va)
  obtain ⟨W3, hW3⟩ : ∃ W3, W3 = ((w1.setCell ⟨w.heap.size, 0, none⟩ (.string ta)).setCell ⟨w.heap.size, 1, none⟩ (.int .i64 k)).setCell ⟨w.heap.size, 2, none⟩ (.string va) := ⟨_, rfl⟩
  rw [← hW3] at q0 q1 q2 hx3 hd3 ⊢
  exact bodyPost_ret (v := .agg #[.string ta, .int .i64 k, .string va]) (by simp [results, Tryd.results35, go_sem, q0, q1, q2]) rfl ⟨ta, va, k, HE.out, rfl, hd3, hx3⟩
end Go.Proofs.YtepibepgfackkaaDoor
