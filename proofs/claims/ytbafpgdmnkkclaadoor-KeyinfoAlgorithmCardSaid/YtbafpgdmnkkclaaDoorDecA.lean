/- Names that the laws make: the deck of numbers. -/
import Derived.Test.YtbafpgdmnkkclaaDoorLibD
namespace Go.Proofs.YtbafpgdmnkkclaaDoor
open Go.RowKit

theorem DeckAt.facts {w : World} {d : Nat} (h : DeckAt w d) : ∃ (l : List Int) (A : Option Addr) (c k : Nat) (T : TypeId), w.heap[d]? = some (.cells #[.slice A l.length c, .int .i64 (k : Int)] T (0, 0)) ∧ k ≤ l.length ∧ Sl RInt 1 w (Lt d) l [.slice A l.length c] ∧
    w.cell? ⟨d, 0, none⟩ = some (.slice A l.length c) ∧ w.cell? ⟨d, 1, none⟩ = some (.int .i64 (k : Int)) ∧ w.frozen? ⟨d, 1, none⟩ = false := by
  obtain ⟨l, A, c, k, T, h1, h2, h3⟩ := h
  exact ⟨l, A, c, k, T, h1, h2, h3, by simp [World.cell?, h1], by simp [World.cell?, h1], by simp [World.frozen?, h1]⟩
theorem deck_step {w : World} {d : Nat} {s i u : Value} {T : TypeId} (h : w.heap[d]? = some (.cells #[s, i] T (0, 0))) : (w.setCell ⟨d, 1, none⟩ u).heap[d]? = some (.cells #[s, u] T (0, 0)) := by
  simp [World.setCell, Array.getElem?_modify, h]
/-- the next number of a deck -/
def NextPost (d n : Nat) (w : World) (e : Ending) (w' : World) : Prop := ∃ v : Nat, v < n ∧ e = .returned (.int .i64 (v : Int)) ∧ DeckAt w' d ∧ Ex d w w'

set_option maxRecDepth 100000 in
set_option maxHeartbeats 4000000 in
theorem Next_any (d n : Nat) (hn : 1 ≤ n) (hn2 : n ≤ 1000000) (w : World) (h : DeckAt w d) :
    Calls Tryd.prog 22 #[.pointer (some ⟨d, 0, none⟩), .int .i64 (n : Int)] w (NextPost d n w) := by
  obtain ⟨l, A, c, k, T, hh, hk, hsl, c0, c1, f1⟩ := h.facts
  have hd := h.lt
  obtain ⟨-, hlc, hcm⟩ := hsl.len_
  unfold maxLen at hcm
  have HD := hide h
  clear h
  by_cases hlt : k < l.length
  · obtain ⟨b, off, xs, hA, hbS, hx, hcell⟩ := hsl.at_ hlt
    subst hA
    obtain ⟨x, hxx⟩ : ∃ x, l[k] = x := ⟨_, rfl⟩
    rw [hxx] at hx
    have hxs : xs = intC x := hx
    subst hxs
    have hc := hcell 0 (.int .i64 x) rfl
    rw [Nat.mul_one, Nat.add_zero] at hc
    have hbd : b < d := hbS
    have hklt : (k : Int) < (l.length : Int) := by omega
    have hk0 : (0 : Int) ≤ (k : Int) := by omega
    obtain ⟨u, hu⟩ : ∃ u : Nat, x.tmod (n : Int) + (n : Int) = (u : Int) := ⟨(x.tmod (n : Int) + (n : Int)).toNat, by
      have h1 := Int.lt_tmod_of_pos x (show (0 : Int) < (n : Int) by omega)
      omega⟩
    have hub : (u : Int) < 2 * (n : Int) := by
      have h1 := Int.tmod_lt_of_pos x (show (0 : Int) < (n : Int) by omega)
      omega
    have hw1 : IntKind.i64.wrap ((k : Int) + 1 - 1) = (k : Int) := by rw [IntWalk.i64_in _ (by omega)]; omega
    have hw2 : IntKind.i64.wrap (x.tmod (n : Int) + (n : Int)) = (u : Int) := by rw [hu]; exact IntWalk.i64_in _ (by omega)
    have hw3 : (u : Int).tmod (n : Int) = ((u % n : Nat) : Int) := by rw [Int.tmod_eq_emod_of_nonneg (by omega)]; omega
    have hn0 : ((n : Int) == 0) = false := by rw [beq_eq_false_iff_ne]; omega
    clear hx hcell hxx hu
    go_enter Tryd.func22, Tryd.ntmps22
    go_wp2_with fail
    go_quiet (fail)
    go_wp2_with fail
    obtain ⟨W1, hW1⟩ : ∃ W1, W1 = (w.drewN nq).setCell ⟨d, 1, none⟩ (.int .i64 ((k : Int) + 1)) := ⟨_, rfl⟩
    have hh1 : W1.heap[d]? = some (.cells #[.slice (some ⟨b, off, none⟩) l.length c, .int .i64 ((k : Int) + 1)] T (0, 0)) := by rw [hW1]; exact deck_step (w := w.drewN nq) hh
    have hb1 : ∀ j, j < d → W1.heap[j]? = w.heap[j]? := fun j hj => by rw [hW1]; exact Below.heap_setCell (w.drewN nq) ⟨d, 1, none⟩ _ j (by show j ≠ d; omega)
    have e0 : W1.cell? ⟨d, 0, none⟩ = some (.slice (some ⟨b, off, none⟩) l.length c) := by simp [World.cell?, hh1]
    have e1 : W1.cell? ⟨d, 1, none⟩ = some (.int .i64 ((k : Int) + 1)) := by simp [World.cell?, hh1]
    have e2 : W1.cell? ⟨b, off + k, none⟩ = some (.int .i64 x) := (World.cell?_of_block (w := w) (a := ⟨b, off + k, none⟩) (hb1 b hbd)).trans hc
    have HDK := hide (show DeckAt W1 d from ⟨l, _, c, k + 1, T, by rw [hh1]; rfl, by omega, (Sl.ok RInt.ok).mono hsl (fun j hj => hb1 j hj) (fun _ hj => hj)⟩)
    have HEX := hide (show Ex d w W1 by rw [hW1]; exact ((Ex.refl d w).drewN nq).trans (Ex.set d 1 _ _))
    rw [← hW1]
    clear hW1 hh1 hb1 hh c0 c1 f1 hc hsl
    go_quiet (fail)
    go_wp2_with fail
    go_ret
    exact ⟨u % n, Nat.mod_lt _ (by omega), rfl, HDK.out.below (below_drewN (Below.refl _ _) _), HEX.out.drewN _⟩
  · have hge : (l.length : Int) ≤ (k : Int) := by omega
    go_enter Tryd.func22, Tryd.ntmps22
    go_wp2_with fail
    go_quiet (fail)
    go_wp2_with fail
    go_ret
    exact ⟨0, by omega, rfl, HD.out.below (below_drewN (Below.refl _ _) _), (Ex.refl d w).drewN _⟩

theorem Ex.alloc {d : Nat} {a w : World} (h : Ex d a w) (o : Obj) : Ex d a (w.alloc o) := h.then_ ((Below.refl _ _).alloc (Nat.le_refl _) _)
theorem Ex.setNew {d g j : Nat} {a w : World} (h : Ex d a w) (hg : a.heap.size ≤ g) (u : Value) : Ex d a (w.setCell ⟨g, j, none⟩ u) :=
  ⟨h.os, h.tape, h.output, by simpa using h.size, fun k hk hne => (Below.heap_setCell w ⟨g, j, none⟩ u k (by show k ≠ g; omega)).trans (h.block k hk hne)⟩
theorem Ex.at_ {d g : Nat} {w w' : World} (h : Ex d w w') (hg : g < w.heap.size) (hd : g ≠ d) : w'.heap[g]? = w.heap[g]? := h.keeps g ⟨hg, hd⟩
theorem DeckAt.alloc {w : World} {d : Nat} (h : DeckAt w d) (o : Obj) : DeckAt (w.alloc o) d := h.below ((Below.refl _ _).alloc (Nat.le_refl _) _)
theorem DeckAt.set_ {w : World} {d g j : Nat} (h : DeckAt w d) (hg : d < g) (u : Value) : DeckAt (w.setCell ⟨g, j, none⟩ u) d :=
  h.keep ((Below.refl _ _).setCell (p := ⟨g, j, none⟩) (by show d + 1 ≤ g; omega) u)
theorem DeckAt.drewN {w : World} {d : Nat} (h : DeckAt w d) (n : Nat) : DeckAt (w.drewN n) d := h.below (below_drewN (Below.refl _ _) n)
theorem Own.ex {α : Type} {R : Rep α} {size : Nat} {e : TypeId} {w w' : World} {base d : Nat} {S : Nat → Prop} {v : Value} {l : List α} (hR : RepOk R size) (h : Own R size e w base S v l) (hx : Ex d w w') (hd : d < base) (hS : ∀ k, S k → base ≤ k ∧ k < w.heap.size) :
    Own R size e w' base S v l :=
  Own.keep hR h (fun g hg => hx.at_ (h.lt g hg).2 (by have := (h.lt g hg).1; omega)) (fun k hk => hx.at_ (hS k hk).2 (by have := (hS k hk).1; omega)) (fun _ hk => hk) (by obtain ⟨_, _, h2, _⟩ := h; exact h2)

/-- what a new deck is -/
theorem deck_new {w : World} {l : List Int} {A : Option Addr} {c : Nat} {T : TypeId} (h : Sl RInt 1 w (Lt w.heap.size) l [.slice A l.length c]) : DeckAt (w.alloc (.cells #[.slice A l.length c, .int .i64 0] T)) w.heap.size :=
  ⟨l, A, c, 0, T, heap_alloc_new w _, Nat.zero_le _, (Sl.ok RInt.ok).mono h (fun k hk => Below.heap_alloc w _ k hk) (fun _ hk => hk)⟩
theorem New_any (l : List Int) (A : Option Addr) (n c : Nat) (w : World) (h : Sl RInt 1 w (Lt w.heap.size) l [.slice A n c]) :
    Calls Tryd.prog 8 #[.slice A n c] w fun e w' => e = .returned (.pointer (some ⟨w.heap.size, 0, none⟩)) ∧ DeckAt w' w.heap.size ∧ Below w.heap.size w w' := by
  obtain ⟨rfl, -, -⟩ := h.len_
  have HD := hide (fun T => deck_new (T := T) h)
  clear h
  go_enter Tryd.func8, Tryd.ntmps8
  go_wp2_with fail
  go_ret
  exact ⟨rfl, HD.out _, (Below.refl _ _).alloc (Nat.le_refl _) _⟩
end Go.Proofs.YtbafpgdmnkkclaaDoor
