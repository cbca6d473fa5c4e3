/- The law SubtreePermits: what the region keeps that makes the state that is wanted. -/
import Derived.Test.YtodapmkdmkhhfaaGreatDoorPerA
namespace Go.Proofs.YtodapmkdmkhhfaaGreatDoor
open Go.RowKit

structure PJ (xs : List Sub) (A : Option Addr) (c : Nat) (s : Sub) (v1 v2 : Value) (g14 : Nat) (w0 : World) (d : Nat → Bool) (val : Nat → Value) (W : World) : Prop where
  base : Below w0.heap.size w0 W
  p0 : d 0 = true → val 69 = .pointer (some ⟨g14, 0, none⟩)
  l1 : d 1 = true → val 70 = .slice A xs.length c
  o2 : d 2 = true → d 5 = false → Own RSub 2 27 W w0.heap.size (Lt w0.heap.size) (val 71) xs
  l3 : d 3 = true → val 72 = .agg #[v1, v2]
  b4 : d 4 = true → ∃ gz, val 73 = .slice (some ⟨gz, 0, none⟩) 1 1 ∧ (d 5 = false → W.cell? ⟨gz, 0, none⟩ = some v1 ∧ W.cell? ⟨gz, 1, none⟩ = some v2)
  o5 : d 5 = true → Own RSub 2 27 W w0.heap.size (Lt w0.heap.size) (val 74) (xs ++ [s])
  m6 : d 6 = true → val 75 = .agg #[val 74]
  a7 : d 7 = true → ∃ g u, val 17 = .pointer (some ⟨g, 0, none⟩) ∧ w0.heap.size ≤ g ∧ TB g u W ∧ (d 8 = true → u = val 74) ∧ (d 2 = true → d 5 = false → (val 71).ownBlock ≠ some g) ∧ (d 5 = true → (val 74).ownBlock ≠ some g)
  q6 : d 6 = true → d 5 = true
  q8 : d 8 = true → d 5 = true ∧ d 6 = true ∧ d 7 = true
section
variable {xs : List Sub} {A : Option Addr} {c : Nat} {s : Sub} {v1 v2 : Value} {g14 : Nat} {w0 : World} {d : Nat → Bool} {val : Nat → Value} {W W' : World}
theorem PJ.grow (h : PJ xs A c s v1 v2 g14 w0 d val W) (hb : Below W.heap.size W W') : PJ xs A c s v1 v2 g14 w0 d val W' where
  base := h.base.trans (hb.mono h.base.size)
  p0 := h.p0
  l1 := h.l1
  o2 := fun h2 h5 => (h.o2 h2 h5).below RSub.ok (fun k hk => Nat.lt_of_lt_of_le hk h.base.size) hb
  l3 := h.l3
  b4 := fun h4 => by
    obtain ⟨gz, e, hc⟩ := h.b4 h4
    exact ⟨gz, e, fun h5 => ⟨cell_grows hb _ _ (hc h5).1, cell_grows hb _ _ (hc h5).2⟩⟩
  o5 := fun h5 => (h.o5 h5).below RSub.ok (fun k hk => Nat.lt_of_lt_of_le hk h.base.size) hb
  m6 := h.m6
  a7 := fun h7 => by
    obtain ⟨g, u, e, hg, ht, r⟩ := h.a7 h7
    exact ⟨g, u, e, hg, ht.base hb ht.lt, r⟩
  q6 := h.q6
  q8 := h.q8
end
theorem own_ne {v' : Value} {B g : Nat} (h : v' = .slice none 0 0 ∨ v'.ownBlock = some B) (hg : g < B) : v'.ownBlock ≠ some g := by
  rcases h with rfl | h
  · simp [Value.ownBlock]
  · rw [h]; intro e; simp only [Option.some.injEq] at e; omega
theorem PJ.tb_lt {xs : List Sub} {A : Option Addr} {c : Nat} {s : Sub} {v1 v2 : Value} {g14 : Nat} {w0 : World} {d : Nat → Bool} {val : Nat → Value} {W : World} (h : PJ xs A c s v1 v2 g14 w0 d val W) (h7 : d 7 = true) {g : Nat} (e : val 17 = .pointer (some ⟨g, 0, none⟩)) : g < W.heap.size := by
  obtain ⟨g', u, e', _, ht, _⟩ := h.a7 h7
  rw [e] at e'
  simp only [Value.pointer.injEq, Option.some.injEq, Addr.mk.injEq, and_true] at e'
  subst e'
  exact ht.lt
theorem PJ.start {xs : List Sub} {A : Option Addr} {c : Nat} {s : Sub} {v1 v2 : Value} {g14 : Nat} {w0 : World} (val : Nat → Value) : PJ xs A c s v1 v2 g14 w0 (fun _ => false) val w0.drew where
  base := (Below.refl _ _).drew
  p0 := fun h => by cases h
  l1 := fun h => by cases h
  o2 := fun h => by cases h
  l3 := fun h => by cases h
  b4 := fun h => by cases h
  o5 := fun h => by cases h
  m6 := fun h => by cases h
  a7 := fun h => by cases h
  q6 := fun h => by cases h
  q8 := fun h => by cases h
theorem sub_news {W : World} {gz : Nat} {S : Nat → Prop} {s : Sub} {v1 v2 : Value} (h1 : W.cell? ⟨gz, 0, none⟩ = some v1) (h2 : W.cell? ⟨gz, 1, none⟩ = some v2) (h3 : Sl RGen 3 W S s.1 [v1]) (h4 : Sl RGen 3 W S s.2 [v2]) :
    ∀ i z, [s][i]? = some z → ∃ cs, RSub W S z cs ∧ ∀ j u, cs[j]? = some u → W.cell? ((⟨gz, 0, none⟩ : Addr).add (i * 2 + j)) = some u := fun i z hz => by
  match i, hz with
  | 0, hz =>
    simp at hz; subst hz
    refine ⟨[v1, v2], ⟨v1, v2, rfl, h3, h4⟩, fun j u hu => ?_⟩
    rw [Addr.add_lit]
    match j, hu with
    | 0, hu => simp at hu; subst hu; exact h1
    | 1, hu => simp at hu; subst hu; exact h2

theorem two_subs {w : World} {S : Nat → Prop} {s1 s2 : Sub} {A1 A2 A3 A4 : Option Addr} {c1 c2 c3 c4 : Nat} {T : TypeId} (h1 : Sl RGen 3 w S s1.1 [.slice A1 s1.1.length c1]) (h2 : Sl RGen 3 w S s1.2 [.slice A2 s1.2.length c2]) (h3 : Sl RGen 3 w S s2.1 [.slice A3 s2.1.length c3]) (h4 : Sl RGen 3 w S s2.2 [.slice A4 s2.2.length c4]) (hS : ∀ k, S k → k < w.heap.size) :
    Sl RSub 2 (w.alloc (.cells #[.slice A1 s1.1.length c1, .slice A2 s1.2.length c2, .slice A3 s2.1.length c3, .slice A4 s2.2.length c4] T)) (fun k => S k ∨ k = w.heap.size) [s1, s2] [.slice (some ⟨w.heap.size, 0, none⟩) 2 2] := by
  refine ⟨_, _, rfl, Nat.le_refl _, by simp [maxLen], fun _ => ⟨w.heap.size, 0, rfl, .inr rfl, fun i x hx => ?_⟩⟩
  have key : ∀ {l : List Gen} {v : Value} (o : Obj), Sl RGen 3 w S l [v] → Sl RGen 3 (w.alloc o) (fun k => S k ∨ k = w.heap.size) l [v] := fun o h =>
    (Sl.ok RGen.ok).mono h (fun k hk => Below.heap_alloc _ _ k (hS k hk)) (fun k hk => .inl hk)
  match i, hx with
  | 0, hx =>
    simp at hx; subst hx
    refine ⟨[.slice A1 s1.1.length c1, .slice A2 s1.2.length c2], ⟨_, _, rfl, key _ h1, key _ h2⟩, fun j u hu => ?_⟩
    rw [World.cell?_alloc_new]
    match j, hu with
    | 0, hu => simpa using hu
    | 1, hu => simpa using hu
  | 1, hx =>
    simp at hx; subst hx
    refine ⟨[.slice A3 s2.1.length c3, .slice A4 s2.2.length c4], ⟨_, _, rfl, key _ h3, key _ h4⟩, fun j u hu => ?_⟩
    rw [World.cell?_alloc_new]
    match j, hu with
    | 0, hu => simpa using hu
    | 1, hu => simpa using hu
theorem four_gens {w : World} {S : Nat → Prop} {g1 g2 g3 g4 : Gen} {t1 t2 t3 t4 : ByteArray} {A1 A2 A3 A4 : Option Addr} {c1 c2 c3 c4 : Nat} {T : TypeId} (ht1 : t1.data.toList = g1.2.1) (ht2 : t2.data.toList = g2.2.1) (ht3 : t3.data.toList = g3.2.1) (ht4 : t4.data.toList = g4.2.1) (h1 : Sl RRdn 1 w S g1.2.2 [.slice A1 g1.2.2.length c1]) (h2 : Sl RRdn 1 w S g2.2.2 [.slice A2 g2.2.2.length c2]) (h3 : Sl RRdn 1 w S g3.2.2 [.slice A3 g3.2.2.length c3]) (h4 : Sl RRdn 1 w S g4.2.2 [.slice A4 g4.2.2.length c4]) (hS : ∀ k, S k → k < w.heap.size) :
    Sl RGen 3 (w.alloc (.cells #[.int .i64 g1.1, .string t1, .slice A1 g1.2.2.length c1, .int .i64 g2.1, .string t2, .slice A2 g2.2.2.length c2, .int .i64 g3.1, .string t3, .slice A3 g3.2.2.length c3, .int .i64 g4.1, .string t4, .slice A4 g4.2.2.length c4] T)) (fun k => S k ∨ k = w.heap.size) [g1, g2, g3, g4] [.slice (some ⟨w.heap.size, 0, none⟩) 4 4] := by
  refine ⟨_, _, rfl, Nat.le_refl _, by simp [maxLen], fun _ => ⟨w.heap.size, 0, rfl, .inr rfl, fun i x hx => ?_⟩⟩
  have key : ∀ {g : Gen} {A : Option Addr} {c : Nat} (o : Obj), Sl RRdn 1 w S g.2.2 [.slice A g.2.2.length c] → Sl RRdn 1 (w.alloc o) (fun k => S k ∨ k = w.heap.size) g.2.2 [.slice A g.2.2.length c] := fun o h =>
    (Sl.ok RRdn.ok).mono h (fun k hk => Below.heap_alloc _ _ k (hS k hk)) (fun k hk => .inl hk)
  match i, hx with
  | 0, hx =>
    simp at hx; subst hx
    refine ⟨[.int .i64 g1.1, .string t1, .slice A1 g1.2.2.length c1], ⟨_, by rw [← ht1], key _ h1⟩, fun j u hu => ?_⟩
    rw [World.cell?_alloc_new]
    match j, hu with
    | 0, hu => simpa using hu
    | 1, hu => simpa using hu
    | 2, hu => simpa using hu
  | 1, hx =>
    simp at hx; subst hx
    refine ⟨[.int .i64 g2.1, .string t2, .slice A2 g2.2.2.length c2], ⟨_, by rw [← ht2], key _ h2⟩, fun j u hu => ?_⟩
    rw [World.cell?_alloc_new]
    match j, hu with
    | 0, hu => simpa using hu
    | 1, hu => simpa using hu
    | 2, hu => simpa using hu
  | 2, hx =>
    simp at hx; subst hx
    refine ⟨[.int .i64 g3.1, .string t3, .slice A3 g3.2.2.length c3], ⟨_, by rw [← ht3], key _ h3⟩, fun j u hu => ?_⟩
    rw [World.cell?_alloc_new]
    match j, hu with
    | 0, hu => simpa using hu
    | 1, hu => simpa using hu
    | 2, hu => simpa using hu
  | 3, hx =>
    simp at hx; subst hx
    refine ⟨[.int .i64 g4.1, .string t4, .slice A4 g4.2.2.length c4], ⟨_, by rw [← ht4], key _ h4⟩, fun j u hu => ?_⟩
    rw [World.cell?_alloc_new]
    match j, hu with
    | 0, hu => simpa using hu
    | 1, hu => simpa using hu
    | 2, hu => simpa using hu
end Go.Proofs.YtodapmkdmkhhfaaGreatDoor
