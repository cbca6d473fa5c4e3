/- The law SubtreeReduce, its walk: two reduced states side by side. -/
import Derived.Test.YtodapmkdmkhhfaaGreatDoorRefS
import Derived.Test.YtodapmkdmkhhfaaGreatDoorRefM
import Derived.Test.YtodapmkdmkhhfaaGreatDoorRefQ
import Derived.Test.YtodapmkdmkhhfaaGreatDoorLibI
namespace Go.Proofs.YtodapmkdmkhhfaaGreatDoor
open Go.RowKit

def VarB (d : Nat → Bool) (val : Nat → Value) (k : Nat) : Prop := (d 4 = true ∧ val 9 = .pointer (some ⟨k, 0, none⟩)) ∨ (d 5 = true ∧ val 10 = .pointer (some ⟨k, 0, none⟩))
def ResR (st : List Sub) (dk : Nat) (V : Nat → Prop) (W : World) (v : Value) : Prop :=
  ∃ (L P X : Option Addr) (cl cp cx : Nat) (S : Nat → Prop), v = .agg #[.slice L (redLim st).length cl, .slice P (redPer st (redLim st)).length cp, .slice X (redEx st).length cx] ∧ (∀ k, S k → k < W.heap.size ∧ ¬ V k ∧ k ≠ dk) ∧
    Sl RInt 1 W S (redLim st) [.slice L (redLim st).length cl] ∧ Sl RGen 3 W S (redPer st (redLim st)) [.slice P (redPer st (redLim st)).length cp] ∧ Sl RGen 3 W S (redEx st) [.slice X (redEx st).length cx]
theorem ResR.keep {st : List Sub} {dk : Nat} {V V' : Nat → Prop} {W W' : World} {v : Value} (h : ResR st dk V W v) (hz : W.heap.size ≤ W'.heap.size) (hk : ∀ k, k < W.heap.size → ¬ V k → W'.heap[k]? = W.heap[k]?) (hV : ∀ k, k < W.heap.size → V' k → V k) : ResR st dk V' W' v := by
  obtain ⟨L, P, X, cl, cp, cx, S, h1, h2, h3, h4, h5⟩ := h
  have hk' : ∀ k, S k → W'.heap[k]? = W.heap[k]? := fun k hs => hk k (h2 k hs).1 (h2 k hs).2.1
  exact ⟨L, P, X, cl, cp, cx, S, h1, fun k hs => ⟨Nat.lt_of_lt_of_le (h2 k hs).1 hz, fun hv => (h2 k hs).2.1 (hV k (h2 k hs).1 hv), (h2 k hs).2.2⟩, (Sl.ok RInt.ok).mono h3 hk' (fun _ h => h), (Sl.ok RGen.ok).mono h4 hk' (fun _ h => h), (Sl.ok RGen.ok).mono h5 hk' (fun _ h => h)⟩
/-- what the region keeps that makes both reduced states -/
structure RJ (st : List Sub) (dk : Nat) (stV : Value) (w5 : World) (d : Nat → Bool) (val : Nat → Value) (W : World) : Prop where
  base : Below w5.heap.size w5 W
  l0 : d 0 = true → val 41 = stV
  l2 : d 2 = true → val 43 = stV
  r1 : d 1 = true → ResR st dk (VarB d val) W (val 42)
  r3 : d 3 = true → ResR st dk (VarB d val) W (val 44)
  a4 : d 4 = true → ∃ (g : Nat) (u0 u1 u2 : Value), val 9 = .pointer (some ⟨g, 0, none⟩) ∧ w5.heap.size ≤ g ∧ RB g u0 u1 u2 W ∧ (d 6 = true → val 42 = .agg #[u0, u1, u2])
  a5 : d 5 = true → ∃ (g : Nat) (u0 u1 u2 : Value), val 10 = .pointer (some ⟨g, 0, none⟩) ∧ w5.heap.size ≤ g ∧ RB g u0 u1 u2 W ∧ (d 7 = true → val 44 = .agg #[u0, u1, u2])
  ne : d 4 = true → d 5 = true → val 9 ≠ val 10
  o6 : d 6 = true → d 1 = true ∧ d 4 = true
  o7 : d 7 = true → d 3 = true ∧ d 5 = true
section
variable {st : List Sub} {dk : Nat} {stV : Value} {w5 : World} {d : Nat → Bool} {val : Nat → Value} {W W' : World}
theorem RJ.grow (h : RJ st dk stV w5 d val W) (hb : Below W.heap.size W W') : RJ st dk stV w5 d val W' where
  base := h.base.trans (hb.mono h.base.size)
  l0 := h.l0
  l2 := h.l2
  r1 := fun hd => (h.r1 hd).keep hb.size (fun k hk _ => hb.block k hk) (fun _ _ hv => hv)
  r3 := fun hd => (h.r3 hd).keep hb.size (fun k hk _ => hb.block k hk) (fun _ _ hv => hv)
  a4 := fun hd => by
    obtain ⟨g, u0, u1, u2, h1, h2, h3, h4⟩ := h.a4 hd
    exact ⟨g, u0, u1, u2, h1, h2, h3.base hb h3.lt, h4⟩
  a5 := fun hd => by
    obtain ⟨g, u0, u1, u2, h1, h2, h3, h4⟩ := h.a5 hd
    exact ⟨g, u0, u1, u2, h1, h2, h3.base hb h3.lt, h4⟩
  ne := h.ne
  o6 := h.o6
  o7 := h.o7
theorem RJ.var_lt (h : RJ st dk stV w5 d val W) {k : Nat} (hv : VarB d val k) : w5.heap.size ≤ k ∧ k < W.heap.size := by
  rcases hv with ⟨hd, hv⟩ | ⟨hd, hv⟩
  · obtain ⟨g, u0, u1, u2, h1, h2, h3, h4⟩ := h.a4 hd
    rw [h1] at hv
    simp only [Value.pointer.injEq, Option.some.injEq, Addr.mk.injEq, and_true] at hv
    subst hv
    exact ⟨h2, h3.lt⟩
  · obtain ⟨g, u0, u1, u2, h1, h2, h3, h4⟩ := h.a5 hd
    rw [h1] at hv
    simp only [Value.pointer.injEq, Option.some.injEq, Addr.mk.injEq, and_true] at hv
    subst hv
    exact ⟨h2, h3.lt⟩
/-- a result's blocks are no variable's -/
theorem RJ.res (h : RJ st dk stV w5 d val W) {V : Nat → Prop} {L P X : Option Addr} {cl cp cx : Nat} {W' : World} (hz : W.heap.size ≤ W'.heap.size)
    (h3 : Sl RInt 1 W' (fun k => (k < w5.heap.size ∧ k ≠ dk) ∨ (W.heap.size ≤ k ∧ k < W'.heap.size)) (redLim st) [.slice L (redLim st).length cl]) (h4 : Sl RGen 3 W' (fun k => (k < w5.heap.size ∧ k ≠ dk) ∨ (W.heap.size ≤ k ∧ k < W'.heap.size)) (redPer st (redLim st)) [.slice P (redPer st (redLim st)).length cp]) (h5 : Sl RGen 3 W' (fun k => (k < w5.heap.size ∧ k ≠ dk) ∨ (W.heap.size ≤ k ∧ k < W'.heap.size)) (redEx st) [.slice X (redEx st).length cx])
    (hdk : dk < w5.heap.size) (hV : ∀ k, V k → VarB d val k) : ResR st dk V W' (.agg #[.slice L (redLim st).length cl, .slice P (redPer st (redLim st)).length cp, .slice X (redEx st).length cx]) := by
  have hbz := h.base.size
  refine ⟨L, P, X, cl, cp, cx, _, rfl, fun k hk => ⟨?_, fun hv => ?_, ?_⟩, h3, h4, h5⟩
  · rcases hk with hk | hk
    · omega
    · exact hk.2
  · have := h.var_lt (hV k hv)
    rcases hk with hk | hk <;> omega
  · rcases hk with hk | hk
    · exact hk.2
    · omega
end
theorem RJ.start {st : List Sub} {dk : Nat} {stV : Value} {w5 : World} (val : Nat → Value) : RJ st dk stV w5 (fun _ => false) val w5.drew where
  base := (Below.refl _ _).drew
  l0 := fun h => by cases h
  l2 := fun h => by cases h
  r1 := fun h => by cases h
  r3 := fun h => by cases h
  a4 := fun h => by cases h
  a5 := fun h => by cases h
  ne := fun h => by cases h
  o6 := fun h => by cases h
  o7 := fun h => by cases h
theorem RB.of_alloc {W : World} : RB W.heap.size (.slice none 0 0) (.slice none 0 0) (.slice none 0 0) (W.alloc (.cells #[.slice none 0 0, .slice none 0 0, .slice none 0 0] 53)) := heap_alloc_new W _
theorem ptr_ne {g k : Nat} (h : g ≠ k) : Value.pointer (some ⟨g, 0, none⟩) ≠ .pointer (some ⟨k, 0, none⟩) := fun e => by
  simp only [Value.pointer.injEq, Option.some.injEq, Addr.mk.injEq, and_true] at e
  exact h e
theorem no_of {p q : Prop} {b : Bool} (h : b = true) (hf : b = false) : p → q := fun _ => by rw [h] at hf; cases hf
theorem btw_up {α : Type} {R : Rep α} {size : Nat} {S0 : Nat → Prop} {w W : World} {l : List α} {A : Option Addr} {n c : Nat} (hR : RepOk R size) (h : Sl R size W (Btw w.heap.size W.heap.size) l [.slice A n c]) : Sl R size W (fun k => S0 k ∨ (w.heap.size ≤ k ∧ k < W.heap.size)) l [.slice A n c] :=
  (Sl.ok hR).mono h (fun _ _ => rfl) (fun _ hk => .inr hk)
theorem one_gen {w : World} {S : Nat → Prop} {g : Gen} {t : ByteArray} {A : Option Addr} {c : Nat} {T : TypeId} (ht : t.data.toList = g.2.1) (h1 : Sl RRdn 1 w S g.2.2 [.slice A g.2.2.length c]) (hS : ∀ k, S k → k < w.heap.size) :
    Sl RGen 3 (w.alloc (.cells #[.int .i64 g.1, .string t, .slice A g.2.2.length c] T)) (fun k => S k ∨ k = w.heap.size) [g] [.slice (some ⟨w.heap.size, 0, none⟩) 1 1] := by
  refine ⟨_, _, rfl, Nat.le_refl _, by simp [maxLen], fun _ => ⟨w.heap.size, 0, rfl, .inr rfl, fun i x hx => ?_⟩⟩
  match i, hx with
  | 0, hx =>
    simp at hx; subst hx
    refine ⟨[.int .i64 g.1, .string t, .slice A g.2.2.length c], ⟨_, by rw [← ht], (Sl.ok RRdn.ok).mono h1 (fun k hk => Below.heap_alloc _ _ k (hS k hk)) (fun k hk => .inl hk)⟩, fun j u hu => ?_⟩
    rw [World.cell?_alloc_new]
    match j, hu with
    | 0, hu => simpa using hu
    | 1, hu => simpa using hu
    | 2, hu => simpa using hu
theorem three_gens {w : World} {S : Nat → Prop} {g1 g2 g3 : Gen} {t1 t2 t3 : ByteArray} {A1 A2 A3 : Option Addr} {c1 c2 c3 : Nat} {T : TypeId} (ht1 : t1.data.toList = g1.2.1) (ht2 : t2.data.toList = g2.2.1) (ht3 : t3.data.toList = g3.2.1) (h1 : Sl RRdn 1 w S g1.2.2 [.slice A1 g1.2.2.length c1]) (h2 : Sl RRdn 1 w S g2.2.2 [.slice A2 g2.2.2.length c2]) (h3 : Sl RRdn 1 w S g3.2.2 [.slice A3 g3.2.2.length c3]) (hS : ∀ k, S k → k < w.heap.size) :
    Sl RGen 3 (w.alloc (.cells #[.int .i64 g1.1, .string t1, .slice A1 g1.2.2.length c1, .int .i64 g2.1, .string t2, .slice A2 g2.2.2.length c2, .int .i64 g3.1, .string t3, .slice A3 g3.2.2.length c3] T)) (fun k => S k ∨ k = w.heap.size) [g1, g2, g3] [.slice (some ⟨w.heap.size, 0, none⟩) 3 3] := by
  refine ⟨_, _, rfl, Nat.le_refl _, by simp [maxLen], fun _ => ⟨w.heap.size, 0, rfl, .inr rfl, fun i x hx => ?_⟩⟩
  have key : ∀ {g : Gen} {A : Option Addr} {c : Nat} (o : Obj), Sl RRdn 1 w S g.2.2 [.slice A g.2.2.length c] → Sl RRdn 1 (w.alloc o) (fun k => S k ∨ k = w.heap.size) g.2.2 [.slice A g.2.2.length c] := fun o h =>
    (Sl.ok RRdn.ok).mono h (fun k hk => Below.heap_alloc _ _ k (hS k hk)) (fun k hk => .inl hk)
  match i, hx with
  | 0, hx =>
    simp at hx; subst hx
    refine ⟨[.int .i64 g1.1, .string t1, .slice A1 g1.2.2.length c1], ⟨_, by rw [← ht1], key _ h1⟩, fun j u hu => ?_⟩
    rw [World.cell?_alloc_new]
    match j, hu with
    | 0, hu => simpa using hu
    | 1, hu => simpa using hu
    | 2, hu => simpa using hu
  | 1, hx =>
    simp at hx; subst hx
    refine ⟨[.int .i64 g2.1, .string t2, .slice A2 g2.2.2.length c2], ⟨_, by rw [← ht2], key _ h2⟩, fun j u hu => ?_⟩
    rw [World.cell?_alloc_new]
    match j, hu with
    | 0, hu => simpa using hu
    | 1, hu => simpa using hu
    | 2, hu => simpa using hu
  | 2, hx =>
    simp at hx; subst hx
    refine ⟨[.int .i64 g3.1, .string t3, .slice A3 g3.2.2.length c3], ⟨_, by rw [← ht3], key _ h3⟩, fun j u hu => ?_⟩
    rw [World.cell?_alloc_new]
    match j, hu with
    | 0, hu => simpa using hu
    | 1, hu => simpa using hu
    | 2, hu => simpa using hu
end Go.Proofs.YtodapmkdmkhhfaaGreatDoor
