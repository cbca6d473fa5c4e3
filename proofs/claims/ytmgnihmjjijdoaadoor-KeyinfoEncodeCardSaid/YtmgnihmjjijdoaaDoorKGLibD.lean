/- More laws for memory: a call that writes one block that was there, and new ones; a deck of numbers. -/
import Derived.Test.YtmgnihmjjijdoaaDoorKGSplit
import Derived.Test.YtmgnihmjjijdoaaDoorKGTlvA
namespace Go.Proofs.YtmgnihmjjijdoaaDoor
open Go.RowKit
def Ex (d : Nat) (w w' : World) : Prop := w.grownBy w' (some d)
theorem Ex.refl (d : Nat) (w : World) : Ex d w w := ⟨rfl, rfl, rfl, Nat.le_refl _, fun _ _ _ => rfl⟩
theorem Ex.trans {d : Nat} {a b c : World} (h : Ex d a b) (k : Ex d b c) : Ex d a c :=
 ⟨k.os.trans h.os, k.tape.trans h.tape, k.output.trans h.output, Nat.le_trans h.size k.size, fun j hj hne => (k.block j (Nat.lt_of_lt_of_le hj h.size) hne).trans (h.block j hj hne)⟩
theorem Ex.of_below {d : Nat} {w w' : World} (h : Below w.heap.size w w') : Ex d w w' := ⟨h.os, h.tape, h.output, h.size, fun k hk _ => h.block k hk⟩
theorem Ex.then_ {d : Nat} {a b c : World} (h : Ex d a b) (k : Below b.heap.size b c) : Ex d a c := h.trans (Ex.of_below k)
theorem Ex.set (d j : Nat) (w : World) (u : Value) : Ex d w (w.setCell ⟨d, j, none⟩ u) :=
 ⟨rfl, rfl, rfl, by simp, fun k _ hne => Below.heap_setCell w ⟨d, j, none⟩ u k (fun e => hne (by rw [e]))⟩
theorem Ex.drewN {d : Nat} {a w : World} (h : Ex d a w) (n : Nat) : Ex d a (w.drewN n) := ⟨h.os, h.tape, h.output, h.size, h.block⟩
theorem Ex.drew {d : Nat} {a w : World} (h : Ex d a w) : Ex d a w.drew := ⟨h.os, h.tape, h.output, h.size, h.block⟩
theorem Ex.below {d B : Nat} {w0 w w' : World} (h0 : Below B w0 w) (hB : B ≤ w.heap.size) (hd : B ≤ d) (h : Ex d w w') : Below B w0 w' :=
 h0.grown h hB (fun k hk => by cases hk; exact hd)
def Nd (d B : Nat) : Nat → Prop := fun k => k < B ∧ k ≠ d
theorem Ex.keeps {d : Nat} {w w' : World} (h : Ex d w w') : ∀ k, Nd d w.heap.size k → w'.heap[k]? = w.heap[k]? := fun k hk => h.block k hk.1 (fun e => hk.2 (by cases e; rfl))
theorem Ex.cell {d : Nat} {w w' : World} (h : Ex d w w') {p : Addr} (hp : p.block < w.heap.size) (hd : p.block ≠ d) : w'.cell? p = w.cell? p :=
 World.cell?_of_block (w := w) (h.keeps p.block ⟨hp, hd⟩)
theorem RepOk.ex {α : Type} {R : Rep α} {size : Nat} (hR : RepOk R size) {d : Nat} {w w' : World} {x : α} {cs : List Value} (h : R w (Nd d w.heap.size) x cs) (hx : Ex d w w') : R w' (Nd d w'.heap.size) x cs :=
 hR.mono h hx.keeps (fun _ hk => ⟨Nat.lt_of_lt_of_le hk.1 hx.size, hk.2⟩)
theorem RepOk.below {α : Type} {R : Rep α} {size : Nat} (hR : RepOk R size) {w w' : World} {x : α} {cs : List Value} (h : R w (Lt w.heap.size) x cs) (hb : Below w.heap.size w w') : R w' (Lt w'.heap.size) x cs :=
 hR.mono h (below_keeps hb) (fun _ hk => Nat.lt_of_lt_of_le hk hb.size)
theorem RepOk.lt {α : Type} {R : Rep α} {size : Nat} (hR : RepOk R size) {w : World} {d : Nat} {x : α} {cs : List Value} (h : R w (Nd d w.heap.size) x cs) : R w (Lt w.heap.size) x cs :=
 hR.mono h (fun _ _ => rfl) (fun _ hk => hk.1)
def DeckAt (w : World) (d : Nat) : Prop :=
 ∃ (l : List Int) (A : Option Addr) (c k : Nat) (T : TypeId), w.heap[d]? = some (.cells #[.slice A l.length c, .int .i64 (k : Int)] T (0, 0)) ∧ k ≤ l.length ∧ Sl RInt 1 w (Lt d) l [.slice A l.length c]
theorem DeckAt.lt {w : World} {d : Nat} (h : DeckAt w d) : d < w.heap.size := by
 obtain ⟨l, A, c, k, T, h1, _⟩ := h
 exact (Array.getElem?_eq_some_iff.1 h1).1
theorem DeckAt.keep {w w' : World} {d : Nat} (h : DeckAt w d) (hb : Below (d + 1) w w') : DeckAt w' d := by
 obtain ⟨l, A, c, k, T, h1, h2, h3⟩ := h
 exact ⟨l, A, c, k, T, (hb.block d (by omega)).trans h1, h2, (Sl.ok RInt.ok).mono h3 (fun j hj => hb.block j (Nat.lt_succ_of_lt hj)) (fun _ hj => hj)⟩
theorem DeckAt.below {w w' : World} {d : Nat} (h : DeckAt w d) (hb : Below w.heap.size w w') : DeckAt w' d := h.keep (hb.mono h.lt)
end Go.Proofs.YtmgnihmjjijdoaaDoor
namespace Go.Proofs.YtmgnihmjjijdoaaDoor
open Go.RowKit
theorem DeckAt.facts {w : World} {d : Nat} (h : DeckAt w d) : ∃ (l : List Int) (A : Option Addr) (c k : Nat) (T : TypeId), w.heap[d]? = some (.cells #[.slice A l.length c, .int .i64 (k : Int)] T (0, 0)) ∧ k ≤ l.length ∧ Sl RInt 1 w (Lt d) l [.slice A l.length c] ∧
  w.cell? ⟨d, 0, none⟩ = some (.slice A l.length c) ∧ w.cell? ⟨d, 1, none⟩ = some (.int .i64 (k : Int)) ∧ w.frozen? ⟨d, 1, none⟩ = false := by
 obtain ⟨l, A, c, k, T, h1, h2, h3⟩ := h
 exact ⟨l, A, c, k, T, h1, h2, h3, by simp [World.cell?, h1], by simp [World.cell?, h1], by simp [World.frozen?, h1]⟩
theorem deck_step {w : World} {d : Nat} {s i u : Value} {T : TypeId} (h : w.heap[d]? = some (.cells #[s, i] T (0, 0))) : (w.setCell ⟨d, 1, none⟩ u).heap[d]? = some (.cells #[s, u] T (0, 0)) := by
 simp [World.setCell, Array.getElem?_modify, h]
def NextPost (d n : Nat) (w : World) (e : Ending) (w' : World) : Prop := ∃ v : Nat, v < n ∧ e = .returned (.int .i64 (v : Int)) ∧ DeckAt w' d ∧ Ex d w w'
set_option maxRecDepth 100000 in
set_option maxHeartbeats 4000000 in
theorem Next_any (d n : Nat) (hn : 1 ≤ n) (hn2 : n ≤ 1000000) (w : World) (h : DeckAt w d) :
  Calls Tryd.prog 7 #[.pointer (some ⟨d, 0, none⟩), .int .i64 (n : Int)] w (NextPost d n w) := by
 obtain ⟨l, A, c, k, T, hh, hk, hsl, c0, c1, f1⟩ := h.facts
 have hd := h.lt
 obtain ⟨-, hlc, hcm⟩ := hsl.len_
 unfold maxLen at hcm
 have HD := hide h
 clear h
 by_cases hlt : k < l.length
 ·obtain ⟨b, off, xs, hA, hbS, hx, hcell⟩ := hsl.at_ hlt
  subst hA
  obtain ⟨x, hxx⟩ : ∃ x, l[k] = x := ⟨_, rfl⟩
  rw [hxx] at hx
  have hxs : xs = intC x := hx
  subst hxs
  have hc := hcell 0 (.int .i64 x) rfl
  rw [Nat.mul_one, Nat.add_zero] at hc
  have hbd : b < d := hbS
  have hklt : (k : Int) < (l.length : Int) := by omega
  have hk0 : (0 : Int) ≤ (k : Int) := by omega
  obtain ⟨u, hu⟩ : ∃ u : Nat, x.tmod (n : Int) + (n : Int) = (u : Int) := ⟨(x.tmod (n : Int) + (n : Int)).toNat, by
   have h1 := Int.lt_tmod_of_pos x (show (0 : Int) < (n : Int) by omega)
   omega⟩
  have hub : (u : Int) < 2 * (n : Int) := by
   have h1 := Int.tmod_lt_of_pos x (show (0 : Int) < (n : Int) by omega)
   omega
  have hw1 : IntKind.i64.wrap ((k : Int) + 1 - 1) = (k : Int) := by rw [IntWalk.i64_in _ (by omega)]; omega
  have hw2 : IntKind.i64.wrap (x.tmod (n : Int) + (n : Int)) = (u : Int) := by rw [hu]; exact IntWalk.i64_in _ (by omega)
  have hw3 : (u : Int).tmod (n : Int) = ((u % n : Nat) : Int) := by rw [Int.tmod_eq_emod_of_nonneg (by omega)]; omega
  have hn0 : ((n : Int) == 0) = false := by rw [beq_eq_false_iff_ne]; omega
  clear hx hcell hxx hu
  go_enter Tryd.func7, Tryd.ntmps7
  go_wp2_with fail
  go_quiet (fail)
  go_wp2_with fail
  obtain ⟨W1, hW1⟩ : ∃ W1, W1 = (w.drewN nq).setCell ⟨d, 1, none⟩ (.int .i64 ((k : Int) + 1)) := ⟨_, rfl⟩
  have hh1 : W1.heap[d]? = some (.cells #[.slice (some ⟨b, off, none⟩) l.length c, .int .i64 ((k : Int) + 1)] T (0, 0)) := by rw [hW1]; exact deck_step (w := w.drewN nq) hh
  have hb1 : ∀ j, j < d → W1.heap[j]? = w.heap[j]? := fun j hj => by rw [hW1]; exact Below.heap_setCell (w.drewN nq) ⟨d, 1, none⟩ _ j (by show j ≠ d; omega)
  have e0 : W1.cell? ⟨d, 0, none⟩ = some (.slice (some ⟨b, off, none⟩) l.length c) := by simp [World.cell?, hh1]
  have e1 : W1.cell? ⟨d, 1, none⟩ = some (.int .i64 ((k : Int) + 1)) := by simp [World.cell?, hh1]
  have e2 : W1.cell? ⟨b, off + k, none⟩ = some (.int .i64 x) := (World.cell?_of_block (w := w) (a := ⟨b, off + k, none⟩) (hb1 b hbd)).trans hc
  have HDK := hide (show DeckAt W1 d from ⟨l, _, c, k + 1, T, by rw [hh1]; rfl, by omega, (Sl.ok RInt.ok).mono hsl (fun j hj => hb1 j hj) (fun _ hj => hj)⟩)
  have HEX := hide (show Ex d w W1 by rw [hW1]; exact ((Ex.refl d w).drewN nq).trans (Ex.set d 1 _ _))
  rw [← hW1]
  clear hW1 hh1 hb1 hh c0 c1 f1 hc hsl
  go_quiet (fail)
  go_wp2_with fail
  go_ret
  exact ⟨u % n, Nat.mod_lt _ (by omega), rfl, HDK.out.below (below_drewN (Below.refl _ _) _), HEX.out.drewN _⟩
 ·have hge : (l.length : Int) ≤ (k : Int) := by omega
  go_enter Tryd.func7, Tryd.ntmps7
  go_wp2_with fail
  go_quiet (fail)
  go_wp2_with fail
  go_ret
  exact ⟨0, by omega, rfl, HD.out.below (below_drewN (Below.refl _ _) _), (Ex.refl d w).drewN _⟩
theorem Ex.alloc {d : Nat} {a w : World} (h : Ex d a w) (o : Obj) : Ex d a (w.alloc o) := h.then_ ((Below.refl _ _).alloc (Nat.le_refl _) _)
theorem Ex.setNew {d g j : Nat} {a w : World} (h : Ex d a w) (hg : a.heap.size ≤ g) (u : Value) : Ex d a (w.setCell ⟨g, j, none⟩ u) :=
 ⟨h.os, h.tape, h.output, by simpa using h.size, fun k hk hne => (Below.heap_setCell w ⟨g, j, none⟩ u k (by show k ≠ g; omega)).trans (h.block k hk hne)⟩
theorem Ex.at_ {d g : Nat} {w w' : World} (h : Ex d w w') (hg : g < w.heap.size) (hd : g ≠ d) : w'.heap[g]? = w.heap[g]? := h.keeps g ⟨hg, hd⟩
theorem DeckAt.alloc {w : World} {d : Nat} (h : DeckAt w d) (o : Obj) : DeckAt (w.alloc o) d := h.below ((Below.refl _ _).alloc (Nat.le_refl _) _)
theorem DeckAt.set_ {w : World} {d g j : Nat} (h : DeckAt w d) (hg : d < g) (u : Value) : DeckAt (w.setCell ⟨g, j, none⟩ u) d :=
 h.keep ((Below.refl _ _).setCell (p := ⟨g, j, none⟩) (by show d + 1 ≤ g; omega) u)
theorem DeckAt.drewN {w : World} {d : Nat} (h : DeckAt w d) (n : Nat) : DeckAt (w.drewN n) d := h.below (below_drewN (Below.refl _ _) n)
theorem Own.ex {α : Type} {R : Rep α} {size : Nat} {e : TypeId} {w w' : World} {base d : Nat} {S : Nat → Prop} {v : Value} {l : List α} (hR : RepOk R size) (h : Own R size e w base S v l) (hx : Ex d w w') (hd : d < base) (hS : ∀ k, S k → base ≤ k ∧ k < w.heap.size) :
  Own R size e w' base S v l :=
 Own.keep hR h (fun g hg => hx.at_ (h.lt g hg).2 (by have := (h.lt g hg).1; omega)) (fun k hk => hx.at_ (hS k hk).2 (by have := (hS k hk).1; omega)) (fun _ hk => hk) (by obtain ⟨_, _, h2, _⟩ := h; exact h2)
theorem deck_new {w : World} {l : List Int} {A : Option Addr} {c : Nat} {T : TypeId} (h : Sl RInt 1 w (Lt w.heap.size) l [.slice A l.length c]) : DeckAt (w.alloc (.cells #[.slice A l.length c, .int .i64 0] T)) w.heap.size :=
 ⟨l, A, c, 0, T, heap_alloc_new w _, Nat.zero_le _, (Sl.ok RInt.ok).mono h (fun k hk => Below.heap_alloc w _ k hk) (fun _ hk => hk)⟩
theorem New_any (l : List Int) (A : Option Addr) (n c : Nat) (w : World) (h : Sl RInt 1 w (Lt w.heap.size) l [.slice A n c]) :
  Calls Tryd.prog 5 #[.slice A n c] w fun e w' => e = .returned (.pointer (some ⟨w.heap.size, 0, none⟩)) ∧ DeckAt w' w.heap.size ∧ Below w.heap.size w w' := by
 obtain ⟨rfl, -, -⟩ := h.len_
 have HD := hide (fun T => deck_new (T := T) h)
 clear h
 go_enter Tryd.func5, Tryd.ntmps5
 go_wp2_with fail
 go_ret
 exact ⟨rfl, HD.out _, (Below.refl _ _).alloc (Nat.le_refl _) _⟩
end Go.Proofs.YtmgnihmjjijdoaaDoor
namespace Go.Proofs.YtmgnihmjjijdoaaDoor
open Go.RowKit
def StrPost (d N : Nat) (w : World) (e : Ending) (w' : World) : Prop := ∃ y : ByteArray, y.size ≤ N ∧ e = .returned (.string y) ∧ DeckAt w' d ∧ Ex d w w'
theorem slice_size_to (s : ByteArray) (k : Nat) (h : k ≤ s.size) : (s.extract 0 k).size = k := by rw [ba_size_ex _ _ _ h]; omega
theorem slice_size_from (s : ByteArray) (k : Nat) : (s.extract k s.size).size = s.size - k := ba_size_ex _ _ _ (Nat.le_refl _)
set_option maxRecDepth 100000 in
set_option maxHeartbeats 4000000 in
theorem Damage_any (d : Nat) (s : ByteArray) (hs : s.size ≤ 1000000) (w : World) (h : DeckAt w d) :
  Calls Tryd.prog 8 #[.pointer (some ⟨d, 0, none⟩), .string s] w (StrPost d (s.size + 1) w) := by
 have HD := hide h
 clear h
 have hys := size_string s
 by_cases h0 : s.size = 0
 ·have e1 : s.toList = [] := by rw [ByteArray.toList_eq]; exact List.eq_nil_of_length_eq_zero (by omega)
  clear h0 hys
  go_enter Tryd.func8, Tryd.ntmps8
  go_wp2_with fail
  go_ret
  exact ⟨s, by omega, rfl, HD.out, Ex.refl _ _⟩
 ·have e0 : ¬ s.toList = [] := by rw [ByteArray.toList_eq]; intro e; rw [e] at hys; simp at hys; omega
  have e1 : (s.toList == []) = false := by simpa using e0
  have e3 : s.toList.isEmpty = false := by simpa using e0
  clear hys e0
  go_enter Tryd.func8, Tryd.ntmps8
  go_wp2_with fail
  refine (Next_any d s.size (by omega) (by omega) _ HD.out).mono ?_
  rintro e w1 ⟨k, hk, rfl, hd1, hx1⟩
  have HD1 := hide hd1
  have HX1 := hide hx1
  clear hd1 hx1
  go_wp2_with fail
  refine (Next_any d 256 (by omega) (by omega) _ HD1.out).mono ?_
  rintro e w2 ⟨v, hv, rfl, hd2, hx2⟩
  have HD2 := hide hd2
  have HX2 := hide (HX1.out.trans hx2)
  clear hd2 hx2
  have hu := u8_of v
  obtain ⟨c, hc⟩ : ∃ c, UInt8.ofNat v = c := ⟨_, rfl⟩
  rw [hc] at hu
  obtain ⟨W2, hW2⟩ : ∃ W, W = w2.alloc (.cells #[.int .u8 (c.toNat : Int)] 5) := ⟨_, rfl⟩
  have hcv : (convert 43 9 (.slice (some ⟨w2.heap.size, 0, none⟩) 1 1)).run Tryd.prog W2 = .ok (.string ⟨#[c]⟩) W2 := conv_one W2 w2.heap.size c (by rw [hW2, World.cell?_alloc_new]; rfl)
  rw [hW2] at hcv
  have hb2 : Below w2.heap.size w2 W2 := by rw [hW2]; exact (Below.refl _ _).alloc (Nat.le_refl _) _
  have HD2 := hide (HD2.out.below hb2)
  have HX2 := hide (HX2.out.then_ hb2)
  clear hc hb2
  go_upto_region 5 with fail
  rw [← hW2]
  clear hcv hW2 hu
  obtain ⟨C, hC⟩ : ∃ C : ByteArray, C = ⟨#[c]⟩ := ⟨_, rfl⟩
  have hCs : C.size = 1 := by rw [hC]; rfl
  rw [← hC]
  clear hC
  go_wp2_with fail
  refine (Next_any d 5 (by omega) (by omega) _ HD2.out).mono ?_
  rintro e w3 ⟨q, hq, rfl, hd3, hx3⟩
  have HD3 := hide hd3
  have HX3 := hide (HX2.out.trans hx3)
  clear hd3 hx3
  have hk1 := slice_size_to s k (by omega)
  have hk2 := slice_size_from s k
  have hk3 := slice_size_from s (k + 1)
  have hs1 := slice_to (P := Tryd.prog) 9 Tryd.underlying9 s k (k : Int) rfl (by omega)
  have hs2 := slice_from (P := Tryd.prog) 9 Tryd.underlying9 s k (k : Int) rfl (by omega)
  have hs3 := slice_from (P := Tryd.prog) 9 Tryd.underlying9 s (k + 1) ((k : Int) + 1) rfl (by omega)
  obtain ⟨a, ha⟩ : ∃ a, s.extract 0 k = a := ⟨_, rfl⟩
  obtain ⟨b, hb⟩ : ∃ b, s.extract k s.size = b := ⟨_, rfl⟩
  obtain ⟨b1, hb1⟩ : ∃ b1, s.extract (k + 1) s.size = b1 := ⟨_, rfl⟩
  rw [ha] at hk1 hs1
  rw [hb] at hk2 hs2
  rw [hb1] at hk3 hs3
  have hw : IntKind.i64.wrap ((k : Int) + 1) = (k : Int) + 1 := IntWalk.i64_in _ (by omega)
  clear ha hb hb1
  have hq5 : q = 0 ∨ q = 1 ∨ q = 2 ∨ q = 3 ∨ q = 4 := by omega
  clear hq
  rcases hq5 with rfl | rfl | rfl | rfl | rfl
  ·have hyb : ¬ 9223372036854775807 < ByteArray.size a + ByteArray.size C := by omega
   have hys := ba_size a C
   obtain ⟨y, hy⟩ : ∃ yy9 : ByteArray, a ++ C = yy9 := ⟨_, rfl⟩
   rw [hy] at hys
   have hzb : ¬ 9223372036854775807 < ByteArray.size y + ByteArray.size b1 := by omega
   have hzs := ba_size y b1
   obtain ⟨z, hz⟩ : ∃ yy9 : ByteArray, y ++ b1 = yy9 := ⟨_, rfl⟩
   rw [hz] at hzs
   go_wp2_with fail
   go_quiet (fail)
   go_wp2_with fail
   go_ret
   exact ⟨_, by omega, rfl, HD3.out.below (below_drewN (Below.refl _ _) _), HX3.out.drewN _⟩
  ·have hyb : ¬ 9223372036854775807 < ByteArray.size a + ByteArray.size C := by omega
   have hys := ba_size a C
   obtain ⟨y, hy⟩ : ∃ yy9 : ByteArray, a ++ C = yy9 := ⟨_, rfl⟩
   rw [hy] at hys
   have hzb : ¬ 9223372036854775807 < ByteArray.size y + ByteArray.size b := by omega
   have hzs := ba_size y b
   obtain ⟨z, hz⟩ : ∃ yy9 : ByteArray, y ++ b = yy9 := ⟨_, rfl⟩
   rw [hz] at hzs
   go_wp2_with fail
   go_quiet (fail)
   go_wp2_with fail
   go_ret
   exact ⟨_, by omega, rfl, HD3.out.below (below_drewN (Below.refl _ _) _), HX3.out.drewN _⟩
  ·have hyb : ¬ 9223372036854775807 < ByteArray.size a + ByteArray.size b1 := by omega
   have hys := ba_size a b1
   obtain ⟨y, hy⟩ : ∃ yy9 : ByteArray, a ++ b1 = yy9 := ⟨_, rfl⟩
   rw [hy] at hys
   go_wp2_with fail
   go_quiet (fail)
   go_wp2_with fail
   go_ret
   exact ⟨_, by omega, rfl, HD3.out.below (below_drewN (Below.refl _ _) _), HX3.out.drewN _⟩
  ·go_wp2_with fail
   go_ret
   exact ⟨_, by omega, rfl, HD3.out, HX3.out⟩
  ·go_wp2_with fail
   go_ret
   exact ⟨_, by omega, rfl, HD3.out, HX3.out⟩
theorem StrPost.mono {d N M : Nat} {w : World} {e : Ending} {w' : World} (h : StrPost d N w e w') (hN : N ≤ M) : StrPost d M w e w' := by
 obtain ⟨y, h1, h2⟩ := h
 exact ⟨y, by omega, h2⟩
theorem andN31 (b : Nat) (h : b < 256) : bits .andNot .i64 (b : Int) 31 = ((b / 32 * 32 : Nat) : Int) := by
 have h : ∀ n : Fin 256, bits .andNot .i64 ((n.1 : Nat) : Int) 31 = ((n.1 / 32 * 32 : Nat) : Int) := by decide +kernel
 exact h ⟨b, by omega⟩
theorem and224 (b : Nat) (h : b < 256) : bits .and .i64 (b : Int) 224 = ((b / 32 * 32 : Nat) : Int) := by
 have h : ∀ n : Fin 256, bits .and .i64 ((n.1 : Nat) : Int) 224 = ((n.1 / 32 * 32 : Nat) : Int) := by decide +kernel
 exact h ⟨b, by omega⟩
end Go.Proofs.YtmgnihmjjijdoaaDoor
