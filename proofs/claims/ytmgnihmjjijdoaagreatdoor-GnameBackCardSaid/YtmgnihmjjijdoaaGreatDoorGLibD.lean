/- More laws for memory: a call that writes one block that was there, and new ones; a deck of numbers. -/
import Derived.Test.YtmgnihmjjijdoaaGreatDoorGSplit
import Derived.Test.YtmgnihmjjijdoaaGreatDoorGOidD
import Derived.Deep.RegionHeld3
import Derived.Test.YtmgnihmjjijdoaaGreatDoorGTlvA
namespace Go.Proofs.YtmgnihmjjijdoaaGreatDoor
open Go.RowKit
def Ex (d : Nat) (w w' : World) : Prop := w.grownBy w' (some d)
theorem Ex.refl (d : Nat) (w : World) : Ex d w w := ⟨rfl, rfl, rfl, Nat.le_refl _, fun _ _ _ => rfl⟩
theorem Ex.trans {d : Nat} {a b c : World} (h : Ex d a b) (k : Ex d b c) : Ex d a c :=
 ⟨k.os.trans h.os, k.tape.trans h.tape, k.output.trans h.output, Nat.le_trans h.size k.size, fun j hj hne => (k.block j (Nat.lt_of_lt_of_le hj h.size) hne).trans (h.block j hj hne)⟩
theorem Ex.of_below {d : Nat} {w w' : World} (h : Below w.heap.size w w') : Ex d w w' := ⟨h.os, h.tape, h.output, h.size, fun k hk _ => h.block k hk⟩
theorem Ex.then_ {d : Nat} {a b c : World} (h : Ex d a b) (k : Below b.heap.size b c) : Ex d a c := h.trans (Ex.of_below k)
theorem Ex.set (d j : Nat) (w : World) (u : Value) : Ex d w (w.setCell ⟨d, j, none⟩ u) :=
 ⟨rfl, rfl, rfl, by simp, fun k _ hne => Below.heap_setCell w ⟨d, j, none⟩ u k (fun e => hne (by rw [e]))⟩
theorem Ex.drewN {d : Nat} {a w : World} (h : Ex d a w) (n : Nat) : Ex d a (w.drewN n) := ⟨h.os, h.tape, h.output, h.size, h.block⟩
theorem Ex.drew {d : Nat} {a w : World} (h : Ex d a w) : Ex d a w.drew := ⟨h.os, h.tape, h.output, h.size, h.block⟩
theorem Ex.below {d B : Nat} {w0 w w' : World} (h0 : Below B w0 w) (hB : B ≤ w.heap.size) (hd : B ≤ d) (h : Ex d w w') : Below B w0 w' :=
 h0.grown h hB (fun k hk => by cases hk; exact hd)
def Nd (d B : Nat) : Nat → Prop := fun k => k < B ∧ k ≠ d
theorem Ex.keeps {d : Nat} {w w' : World} (h : Ex d w w') : ∀ k, Nd d w.heap.size k → w'.heap[k]? = w.heap[k]? := fun k hk => h.block k hk.1 (fun e => hk.2 (by cases e; rfl))
theorem Ex.cell {d : Nat} {w w' : World} (h : Ex d w w') {p : Addr} (hp : p.block < w.heap.size) (hd : p.block ≠ d) : w'.cell? p = w.cell? p :=
 World.cell?_of_block (w := w) (h.keeps p.block ⟨hp, hd⟩)
theorem RepOk.ex {α : Type} {R : Rep α} {size : Nat} (hR : RepOk R size) {d : Nat} {w w' : World} {x : α} {cs : List Value} (h : R w (Nd d w.heap.size) x cs) (hx : Ex d w w') : R w' (Nd d w'.heap.size) x cs :=
 hR.mono h hx.keeps (fun _ hk => ⟨Nat.lt_of_lt_of_le hk.1 hx.size, hk.2⟩)
theorem RepOk.nd {α : Type} {R : Rep α} {size : Nat} (hR : RepOk R size) {d : Nat} {w : World} {x : α} {cs : List Value} (h : R w (Lt d) x cs) (hd : d ≤ w.heap.size) : R w (Nd d w.heap.size) x cs :=
 hR.mono h (fun _ _ => rfl) (fun _ hk => ⟨Nat.lt_of_lt_of_le hk hd, Nat.ne_of_lt hk⟩)
theorem RepOk.below {α : Type} {R : Rep α} {size : Nat} (hR : RepOk R size) {w w' : World} {x : α} {cs : List Value} (h : R w (Lt w.heap.size) x cs) (hb : Below w.heap.size w w') : R w' (Lt w'.heap.size) x cs :=
 hR.mono h (below_keeps hb) (fun _ hk => Nat.lt_of_lt_of_le hk hb.size)
theorem RepOk.lt {α : Type} {R : Rep α} {size : Nat} (hR : RepOk R size) {w : World} {d : Nat} {x : α} {cs : List Value} (h : R w (Nd d w.heap.size) x cs) : R w (Lt w.heap.size) x cs :=
 hR.mono h (fun _ _ => rfl) (fun _ hk => hk.1)
def DeckAt (w : World) (d : Nat) : Prop :=
 ∃ (l : List Int) (A : Option Addr) (c k : Nat) (T : TypeId), w.heap[d]? = some (.cells #[.slice A l.length c, .int .i64 (k : Int)] T (0, 0)) ∧ k ≤ l.length ∧ Sl RInt 1 w (Lt d) l [.slice A l.length c]
theorem DeckAt.lt {w : World} {d : Nat} (h : DeckAt w d) : d < w.heap.size := by
 obtain ⟨l, A, c, k, T, h1, _⟩ := h
 exact (Array.getElem?_eq_some_iff.1 h1).1
theorem DeckAt.keep {w w' : World} {d : Nat} (h : DeckAt w d) (hb : Below (d + 1) w w') : DeckAt w' d := by
 obtain ⟨l, A, c, k, T, h1, h2, h3⟩ := h
 exact ⟨l, A, c, k, T, (hb.block d (by omega)).trans h1, h2, (Sl.ok RInt.ok).mono h3 (fun j hj => hb.block j (Nat.lt_succ_of_lt hj)) (fun _ hj => hj)⟩
theorem DeckAt.below {w w' : World} {d : Nat} (h : DeckAt w d) (hb : Below w.heap.size w w') : DeckAt w' d := h.keep (hb.mono h.lt)
end Go.Proofs.YtmgnihmjjijdoaaGreatDoor
namespace Go.Proofs.YtmgnihmjjijdoaaGreatDoor
open Go.RowKit
theorem DeckAt.facts {w : World} {d : Nat} (h : DeckAt w d) : ∃ (l : List Int) (A : Option Addr) (c k : Nat) (T : TypeId), w.heap[d]? = some (.cells #[.slice A l.length c, .int .i64 (k : Int)] T (0, 0)) ∧ k ≤ l.length ∧ Sl RInt 1 w (Lt d) l [.slice A l.length c] ∧
  w.cell? ⟨d, 0, none⟩ = some (.slice A l.length c) ∧ w.cell? ⟨d, 1, none⟩ = some (.int .i64 (k : Int)) ∧ w.frozen? ⟨d, 1, none⟩ = false := by
 obtain ⟨l, A, c, k, T, h1, h2, h3⟩ := h
 exact ⟨l, A, c, k, T, h1, h2, h3, by simp [World.cell?, h1], by simp [World.cell?, h1], by simp [World.frozen?, h1]⟩
theorem deck_step {w : World} {d : Nat} {s i u : Value} {T : TypeId} (h : w.heap[d]? = some (.cells #[s, i] T (0, 0))) : (w.setCell ⟨d, 1, none⟩ u).heap[d]? = some (.cells #[s, u] T (0, 0)) := by
 simp [World.setCell, Array.getElem?_modify, h]
def NextPost (d n : Nat) (w : World) (e : Ending) (w' : World) : Prop := ∃ v : Nat, v < n ∧ e = .returned (.int .i64 (v : Int)) ∧ DeckAt w' d ∧ Ex d w w'
set_option maxRecDepth 100000 in
set_option maxHeartbeats 4000000 in
theorem Next_any (d n : Nat) (hn : 1 ≤ n) (hn2 : n ≤ 1000000) (w : World) (h : DeckAt w d) :
  Calls Tryz.prog 25 #[.pointer (some ⟨d, 0, none⟩), .int .i64 (n : Int)] w (NextPost d n w) := by
 obtain ⟨l, A, c, k, T, hh, hk, hsl, c0, c1, f1⟩ := h.facts
 have hd := h.lt
 obtain ⟨-, hlc, hcm⟩ := hsl.len_
 unfold maxLen at hcm
 have HD := hide h
 clear h
 by_cases hlt : k < l.length
 ·obtain ⟨b, off, xs, hA, hbS, hx, hcell⟩ := hsl.at_ hlt
  subst hA
  obtain ⟨x, hxx⟩ : ∃ x, l[k] = x := ⟨_, rfl⟩
  rw [hxx] at hx
  have hxs : xs = intC x := hx
  subst hxs
  have hc := hcell 0 (.int .i64 x) rfl
  rw [Nat.mul_one, Nat.add_zero] at hc
  have hbd : b < d := hbS
  have hklt : (k : Int) < (l.length : Int) := by omega
  have hk0 : (0 : Int) ≤ (k : Int) := by omega
  obtain ⟨u, hu⟩ : ∃ u : Nat, x.tmod (n : Int) + (n : Int) = (u : Int) := ⟨(x.tmod (n : Int) + (n : Int)).toNat, by
   have h1 := Int.lt_tmod_of_pos x (show (0 : Int) < (n : Int) by omega)
   omega⟩
  have hub : (u : Int) < 2 * (n : Int) := by
   have h1 := Int.tmod_lt_of_pos x (show (0 : Int) < (n : Int) by omega)
   omega
  have hw1 : IntKind.i64.wrap ((k : Int) + 1 - 1) = (k : Int) := by rw [IntWalk.i64_in _ (by omega)]; omega
  have hw2 : IntKind.i64.wrap (x.tmod (n : Int) + (n : Int)) = (u : Int) := by rw [hu]; exact IntWalk.i64_in _ (by omega)
  have hw3 : (u : Int).tmod (n : Int) = ((u % n : Nat) : Int) := by rw [Int.tmod_eq_emod_of_nonneg (by omega)]; omega
  have hn0 : ((n : Int) == 0) = false := by rw [beq_eq_false_iff_ne]; omega
  clear hx hcell hxx hu
  go_enter Tryz.func25, Tryz.ntmps25
  go_wp2_with fail
  go_quiet (fail)
  go_wp2_with fail
  obtain ⟨W1, hW1⟩ : ∃ W1, W1 = (w.drewN nq).setCell ⟨d, 1, none⟩ (.int .i64 ((k : Int) + 1)) := ⟨_, rfl⟩
  have hh1 : W1.heap[d]? = some (.cells #[.slice (some ⟨b, off, none⟩) l.length c, .int .i64 ((k : Int) + 1)] T (0, 0)) := by rw [hW1]; exact deck_step (w := w.drewN nq) hh
  have hb1 : ∀ j, j < d → W1.heap[j]? = w.heap[j]? := fun j hj => by rw [hW1]; exact Below.heap_setCell (w.drewN nq) ⟨d, 1, none⟩ _ j (by show j ≠ d; omega)
  have e0 : W1.cell? ⟨d, 0, none⟩ = some (.slice (some ⟨b, off, none⟩) l.length c) := by simp [World.cell?, hh1]
  have e1 : W1.cell? ⟨d, 1, none⟩ = some (.int .i64 ((k : Int) + 1)) := by simp [World.cell?, hh1]
  have e2 : W1.cell? ⟨b, off + k, none⟩ = some (.int .i64 x) := (World.cell?_of_block (w := w) (a := ⟨b, off + k, none⟩) (hb1 b hbd)).trans hc
  have HDK := hide (show DeckAt W1 d from ⟨l, _, c, k + 1, T, by rw [hh1]; rfl, by omega, (Sl.ok RInt.ok).mono hsl (fun j hj => hb1 j hj) (fun _ hj => hj)⟩)
  have HEX := hide (show Ex d w W1 by rw [hW1]; exact ((Ex.refl d w).drewN nq).trans (Ex.set d 1 _ _))
  rw [← hW1]
  clear hW1 hh1 hb1 hh c0 c1 f1 hc hsl
  go_quiet (fail)
  go_wp2_with fail
  go_ret
  exact ⟨u % n, Nat.mod_lt _ (by omega), rfl, HDK.out.below (below_drewN (Below.refl _ _) _), HEX.out.drewN _⟩
 ·have hge : (l.length : Int) ≤ (k : Int) := by omega
  go_enter Tryz.func25, Tryz.ntmps25
  go_wp2_with fail
  go_quiet (fail)
  go_wp2_with fail
  go_ret
  exact ⟨0, by omega, rfl, HD.out.below (below_drewN (Below.refl _ _) _), (Ex.refl d w).drewN _⟩
theorem Ex.alloc {d : Nat} {a w : World} (h : Ex d a w) (o : Obj) : Ex d a (w.alloc o) := h.then_ ((Below.refl _ _).alloc (Nat.le_refl _) _)
theorem Ex.setNew {d g j : Nat} {a w : World} (h : Ex d a w) (hg : a.heap.size ≤ g) (u : Value) : Ex d a (w.setCell ⟨g, j, none⟩ u) :=
 ⟨h.os, h.tape, h.output, by simpa using h.size, fun k hk hne => (Below.heap_setCell w ⟨g, j, none⟩ u k (by show k ≠ g; omega)).trans (h.block k hk hne)⟩
theorem Ex.at_ {d g : Nat} {w w' : World} (h : Ex d w w') (hg : g < w.heap.size) (hd : g ≠ d) : w'.heap[g]? = w.heap[g]? := h.keeps g ⟨hg, hd⟩
theorem DeckAt.alloc {w : World} {d : Nat} (h : DeckAt w d) (o : Obj) : DeckAt (w.alloc o) d := h.below ((Below.refl _ _).alloc (Nat.le_refl _) _)
theorem DeckAt.set_ {w : World} {d g j : Nat} (h : DeckAt w d) (hg : d < g) (u : Value) : DeckAt (w.setCell ⟨g, j, none⟩ u) d :=
 h.keep ((Below.refl _ _).setCell (p := ⟨g, j, none⟩) (by show d + 1 ≤ g; omega) u)
theorem DeckAt.drewN {w : World} {d : Nat} (h : DeckAt w d) (n : Nat) : DeckAt (w.drewN n) d := h.below (below_drewN (Below.refl _ _) n)
theorem Own.ex {α : Type} {R : Rep α} {size : Nat} {e : TypeId} {w w' : World} {base d : Nat} {S : Nat → Prop} {v : Value} {l : List α} (hR : RepOk R size) (h : Own R size e w base S v l) (hx : Ex d w w') (hd : d < base) (hS : ∀ k, S k → base ≤ k ∧ k < w.heap.size) :
  Own R size e w' base S v l :=
 Own.keep hR h (fun g hg => hx.at_ (h.lt g hg).2 (by have := (h.lt g hg).1; omega)) (fun k hk => hx.at_ (hS k hk).2 (by have := (hS k hk).1; omega)) (fun _ hk => hk) (by obtain ⟨_, _, h2, _⟩ := h; exact h2)
theorem deck_new {w : World} {l : List Int} {A : Option Addr} {c : Nat} {T : TypeId} (h : Sl RInt 1 w (Lt w.heap.size) l [.slice A l.length c]) : DeckAt (w.alloc (.cells #[.slice A l.length c, .int .i64 0] T)) w.heap.size :=
 ⟨l, A, c, 0, T, heap_alloc_new w _, Nat.zero_le _, (Sl.ok RInt.ok).mono h (fun k hk => Below.heap_alloc w _ k hk) (fun _ hk => hk)⟩
theorem New_any (l : List Int) (A : Option Addr) (n c : Nat) (w : World) (h : Sl RInt 1 w (Lt w.heap.size) l [.slice A n c]) :
  Calls Tryz.prog 7 #[.slice A n c] w fun e w' => e = .returned (.pointer (some ⟨w.heap.size, 0, none⟩)) ∧ DeckAt w' w.heap.size ∧ Below w.heap.size w w' := by
 obtain ⟨rfl, -, -⟩ := h.len_
 have HD := hide (fun T => deck_new (T := T) h)
 clear h
 go_enter Tryz.func7, Tryz.ntmps7
 go_wp2_with fail
 go_ret
 exact ⟨rfl, HD.out _, (Below.refl _ _).alloc (Nat.le_refl _) _⟩
end Go.Proofs.YtmgnihmjjijdoaaGreatDoor
namespace Go.Proofs.YtmgnihmjjijdoaaGreatDoor
open Go.RowKit
theorem cellN {w w9 : World} {C : Array Value} {t : TypeId} {i : Nat} {v : Value} (h : Below (w.alloc (.cells C t)).heap.size (w.alloc (.cells C t)) w9) (hv : C[i]? = some v) : w9.cell? ⟨w.heap.size, i, none⟩ = some v :=
 (h.cell (p := ⟨w.heap.size, i, none⟩) (by simp)).trans (by rw [World.cell?_alloc_new]; exact hv)
theorem below_new {w w9 : World} {o : Obj} (h : Below (w.alloc o).heap.size (w.alloc o) w9) : Below w.heap.size w w9 :=
 ((Below.refl _ _).alloc (Nat.le_refl _) _).trans (h.mono (by simp))
theorem str_eq (s t : ByteArray) : (s.toList = t.toList) ↔ s.data.toList = t.data.toList := by rw [ByteArray.toList_eq, ByteArray.toList_eq]
theorem str_beq (s t : ByteArray) : (s.toList == t.toList) = (s.data.toList == t.data.toList) := by rw [ByteArray.toList_eq, ByteArray.toList_eq]
theorem oid_v (s : ByteArray) (hs : s.size ≤ 1000000) (p : Bool) (hp : validB s.data.toList = p) (w : World) (hmx : Mx w) :
  Calls Tryz.prog 120 #[.string s] w fun e w' => e = .returned (.bool p) ∧ Below w.heap.size w w' := hp ▸ oidValid_any s hs w hmx
theorem roid_v (s : ByteArray) (hs : s.size ≤ 1000000) (p : Bool) (hp : validB s.data.toList = p) (w : World) (_hmx : Mx w) :
  Calls Tryz.prog 80 #[.string s] w fun e w' => e = .returned (.bool p) ∧ Below w.heap.size w w' := hp ▸ oidRValid_any s hs w
theorem text_v (k : Int) (s : ByteArray) (hs : s.size ≤ 1000000) (p : Bool) (hp : validT k s.data.toList = p) (w : World) :
  Calls Tryz.prog 121 #[.int .i64 k, .string s] w fun e w' => e = .returned (.bool p) ∧ Below w.heap.size w w' := hp ▸ Valid_any k s hs w
theorem rtext_v (k : Int) (s : ByteArray) (hs : s.size ≤ 1000000) (p : Bool) (hp : validT k s.data.toList = p) (w : World) :
  Calls Tryz.prog 81 #[.int .i64 k, .string s] w fun e w' => e = .returned (.bool p) ∧ Below w.heap.size w w' :=
 (rValid_any k s hs w).mono fun e w' ⟨he, hw⟩ => ⟨by rw [he, ← valid_eq, hp], by subst hw; exact Below.refl _ _⟩
theorem chkA_at {l : List Attr} {k : Nat} (h : k < l.length) : chkA (l.take k) (l.drop k) =
  if validB l[k].1 = false then 11 else if l[k].2.2 = [] ∨ validT l[k].2.1 l[k].2.2 = false then 13 else if 64 < l[k].2.2.length then 2 else if (l.take k).any (fun b => b.1 == l[k].1) then 10 else chkA (l.take (k + 1)) (l.drop (k + 1)) := by
 rw [List.drop_eq_getElem_cons h, chkA, List.take_succ_eq_append_getElem h]
theorem any_no {l : List Attr} {k : Nat} {t : List UInt8} (h : ∀ i (_ : i < k) (hi : i < l.length), l[i].1 ≠ t) : (l.take k).any (fun b => b.1 == t) = false := by
 rw [List.any_eq_false]
 intro x hx
 obtain ⟨i, hi, rfl⟩ := List.mem_iff_getElem.1 hx
 rw [List.length_take] at hi
 rw [List.getElem_take]
 simpa using h i (by omega) (by omega)
theorem any_yes {l : List Attr} {k i : Nat} {t : List UInt8} (hi : i < l.length) (hk : i < k) (h : l[i].1 = t) : (l.take k).any (fun b => b.1 == t) = true := by
 rw [List.any_eq_true]
 refine ⟨l[i], ?_, by simpa using h⟩
 rw [List.mem_iff_getElem]
 exact ⟨i, by rw [List.length_take]; omega, by rw [List.getElem_take]⟩
set_option maxRecDepth 100000 in
set_option maxHeartbeats 8000000 in
theorem checkRel_any (l : List Attr) (A : Option Addr) (c : Nat) (w : World) (hmx : Mx w) (h : Sl RAttr 3 w (Lt w.heap.size) l [.slice A l.length c]) (hsm : SmallR l) :
  Calls Tryz.prog 103 #[.slice A l.length c] w fun e w' => e = .returned (.int .i64 (chkR l)) ∧ Below w.heap.size w w' := by
 obtain ⟨-, hnc, hcm⟩ := h.len_
 unfold maxLen at hcm
 obtain ⟨r, hr⟩ : ∃ r, chkR l = r := ⟨_, rfl⟩
 rw [hr]
 have K := hide h
 have HMX := hide hmx
 have HSM := hide hsm
 clear h hmx hsm
 by_cases h0 : l.length = 0
 ·have HY := hide (show r = 14 by rw [← hr, chkR, if_pos h0])
  have ht : ((l.length : Int) == 0) = true := by rw [h0]; rfl
  clear h0 hr
  go_enter Tryz.func103, Tryz.ntmps103
  go_wp2_with fail
  go_ret
  exact ⟨ret_int HY.out.symm, Below.refl _ _⟩
 ·have ht : ((l.length : Int) == 0) = false := by rw [beq_eq_false_iff_ne]; omega
  by_cases h4 : 4 < l.length
  ·have HY := hide (show r = 2 by rw [← hr, chkR, if_neg h0, if_pos h4])
   clear h0 hr
   go_enter Tryz.func103, Tryz.ntmps103
   go_wp2_with fail
   go_ret
   exact ⟨ret_int HY.out.symm, Below.refl _ _⟩
  ·have H0 := hide (show r = chkA (l.take 0) (l.drop 0) by rw [← hr, chkR, if_neg h0, if_neg h4]; rfl)
   clear hr
   go_enter Tryz.func103, Tryz.ntmps103
   go_wp2_with fail
   go_loopw [15] (fun i wr => ∃ k : Nat, k ≤ l.length ∧ i = .int .i64 k ∧ Below w.heap.size w wr ∧ Hid (r = chkA (l.take k) (l.drop k))) (fun i _ => l.length - (intOf i).toNat)
   case atStart => exact ⟨0, by omega, rfl, Below.refl _ _, H0⟩
   case round =>
    obtain ⟨k, hk, rfl, hb, H⟩ := hrel
    by_cases hlt : k < l.length
    ·obtain ⟨b, off, hA, hbS, hc0, hc1, hc2⟩ := K.out.attAt hlt
     subst hA
     obtain ⟨hs0, hs2⟩ := HSM.out l[k] (List.getElem_mem hlt)
     have HX := hide (H.out.trans (chkA_at hlt))
     obtain ⟨ty, hty⟩ : ∃ ty : ByteArray, ty = ⟨l[k].1.toArray⟩ := ⟨_, rfl⟩
     obtain ⟨va, hva⟩ : ∃ va : ByteArray, va = ⟨l[k].2.2.toArray⟩ := ⟨_, rfl⟩
     have hty2 : l[k].1 = ty.data.toList := by rw [hty]
     have hva2 : l[k].2.2 = va.data.toList := by rw [hva]
     obtain ⟨kd, hkd⟩ : ∃ kd, l[k].2.1 = kd := ⟨_, rfl⟩
     rw [hkd, hty2, hva2] at HX
     rw [← hty] at hc0
     rw [hkd] at hc1
     rw [← hva] at hc2
     rw [hty2, size_string] at hs0
     rw [hva2, size_string] at hs2
     have HTY := hide hty2
     obtain ⟨p, hp⟩ : ∃ p, validB ty.data.toList = p := ⟨_, rfl⟩
     obtain ⟨q, hq⟩ : ∃ q, validT kd va.data.toList = q := ⟨_, rfl⟩
     rw [hp, hq] at HX
     have HP := hide hp
     have HQ := hide hq
     have hbS' : b < w.heap.size := hbS
     have hd0 : wr.cell? ⟨b, off + k * 3, none⟩ = some (.string ty) := (hb.cell hbS').trans hc0
     have hd1 : wr.cell? ⟨b, off + k * 3 + 1, none⟩ = some (.int .i64 kd) := (hb.cell hbS').trans hc1
     have hd2 : wr.cell? ⟨b, off + k * 3 + 2, none⟩ = some (.string va) := (hb.cell hbS').trans hc2
     have HMr := hide (HMX.out.below hb)
     have HB := hide hb
     clear hc0 hc1 hc2 hty hva hty2 hva2 hkd hp hq hb
     go_wp2_with fail
     refine (oid_v ty (by omega) p HP.out _ (HMr.out.below ((Below.refl _ _).alloc (Nat.le_refl _) _))).mono ?_
     rintro e w5 ⟨rfl, hb5⟩
     have h50 := cellN (i := 0) hb5 rfl
     have h51 := cellN (i := 1) hb5 rfl
     have h52 := cellN (i := 2) hb5 rfl
     have hx5 := below_new hb5
     have hxlt : wr.heap.size < w5.heap.size := by have := hb5.size; simp at this; omega
     have HB5 := hide (HB.out.trans (hx5.mono HB.out.size))
     clear hb5 hd0 hd1 hd2
     cases p
     ·have HY := hide (HX.out.trans (if_pos rfl))
      go_wp2_with fail
      go_ret
      exact ⟨ret_int HY.out.symm, HB5.out⟩
     ·have HX1 := hide (HX.out.trans (if_neg (by simp)))
      by_cases hve : va.data.toList = []
      ·have HY := hide (HX1.out.trans (if_pos (.inl hve)))
       have hve2 : va.toList = [] := by rw [ByteArray.toList_eq]; exact hve
       have hve3 : va.size = 0 := by rw [← size_string, hve]; rfl
       have hve4 : ((va.size : Int) == 0) = true := by rw [hve3]; rfl
       clear hve
       go_wp2_with fail
       go_ret
       exact ⟨ret_int HY.out.symm, HB5.out⟩
      ·have hve2 : ¬ va.toList = [] := by rw [ByteArray.toList_eq]; exact hve
       have hve5 : (va.toList == []) = false := by simpa using hve2
       have hve6 : va.toList.isEmpty = false := by simpa using hve2
       have hve3 : va.size ≠ 0 := fun e => hve (List.eq_nil_of_length_eq_zero (by rw [size_string]; exact e))
       have hve4 : ((va.size : Int) == 0) = false := by rw [beq_eq_false_iff_ne]; omega
       have HVE := hide hve
       clear hve hve3 hve2
       go_wp2_with fail
       refine (text_v kd va (by omega) q HQ.out _).mono ?_
       rintro e w6 ⟨rfl, hb6⟩
       have h60 := cell_grows hb6 _ _ h50
       have h62 := cell_grows hb6 _ _ h52
       have hx6 := hx5.trans (hb6.mono hx5.size)
       have HB6 := hide (HB5.out.trans (hb6.mono HB5.out.size))
       have hxlt6 : wr.heap.size < w6.heap.size := Nat.lt_of_lt_of_le hxlt hb6.size
       clear hb6 h50 h51 h52 hx5 hve4 hve5 hve6 hxlt
       cases q
       ·have HY := hide (HX1.out.trans (if_pos (.inr rfl)))
        go_wp2_with fail
        go_ret
        exact ⟨ret_int HY.out.symm, HB6.out⟩
       ·have HX2 := hide (HX1.out.trans (if_neg (fun h => by rcases h with h | h; exact HVE.out h; cases h)))
        have hvs : va.data.toList.length = va.size := size_string va
        by_cases h64 : 64 < va.size
        ·have HY := hide (HX2.out.trans (if_pos (by rw [hvs]; exact h64)))
         clear hvs
         go_wp2_with fail
         go_ret
         exact ⟨ret_int HY.out.symm, HB6.out⟩
        ·have HX3 := hide (HX2.out.trans (if_neg (by rw [hvs]; exact h64)))
         clear hvs
         go_wp2_with fail
         go_loopw [43] (fun i wi => ∃ j : Nat, j ≤ k ∧ i = .int .i64 j ∧ Below w6.heap.size w6 wi ∧ Hid (∀ i (_ : i < j) (hi : i < l.length), l[i].1 ≠ ty.data.toList)) (fun i _ => k - (intOf i).toNat)
         case atStart => exact ⟨0, by omega, rfl, Below.refl _ _, hide (fun i hi => by omega)⟩
         case round =>
          obtain ⟨j, hj, rfl, hbi, HN⟩ := hrel
          by_cases hjk : j < k
          ·obtain ⟨b', off', hA', hbS2, e0, e1, e2⟩ := K.out.attAt (i := j) (by omega)
           simp only [Option.some.injEq, Addr.mk.injEq, and_true] at hA'
           obtain ⟨rfl, rfl⟩ := hA'
           obtain ⟨tb, htb⟩ : ∃ tb : ByteArray, tb = ⟨(l[j]'(by omega)).1.toArray⟩ := ⟨_, rfl⟩
           have htb2 : (l[j]'(by omega)).1 = tb.data.toList := by rw [htb]
           rw [← htb] at e0
           obtain ⟨vb, hvb⟩ : ∃ vb : ByteArray, vb = ⟨(l[j]'(by omega)).2.2.toArray⟩ := ⟨_, rfl⟩
           rw [← hvb] at e2
           obtain ⟨kb, hkb⟩ : ∃ kb, (l[j]'(by omega)).2.1 = kb := ⟨_, rfl⟩
           rw [hkb] at e1
           have hbw := HB6.out.trans (hbi.mono HB6.out.size)
           have d0 : wr.cell? ⟨b, off + j * 3, none⟩ = some (.string tb) := (hbw.cell hbS').trans e0
           have d1 : wr.cell? ⟨b, off + j * 3 + 1, none⟩ = some (.int .i64 kb) := (hbw.cell hbS').trans e1
           have d2 : wr.cell? ⟨b, off + j * 3 + 2, none⟩ = some (.string vb) := (hbw.cell hbS').trans e2
           have d3 := cell_grows hbi _ _ h60
           have hlt3 := Nat.lt_of_lt_of_le hxlt6 hbi.size
           have HTB := hide htb2
           have HBI := hide hbi
           have HBW := hide hbw
           have hsz6 := hbi.size
           clear e0 e1 e2 htb htb2 hvb hkb hbi hbw
           by_cases heq : tb.toList = ty.toList
           ·have HY := hide (HX3.out.trans (if_pos (any_yes (i := j) (by omega) hjk (by rw [HTB.out]; exact (str_eq tb ty).1 heq))))
            have heq2 : (tb.toList == ty.toList) = true := by simpa using heq
            go_wp2_with fail
            go_ret
            exact ⟨ret_int HY.out.symm, HBW.out.alloc (by have := HBW.out.size; omega) _⟩
           ·have heq2 : (tb.toList == ty.toList) = false := by simpa using heq
            have HN2 := hide (show ∀ i (_ : i < j + 1) (hi : i < l.length), l[i].1 ≠ ty.data.toList from fun i hi hil e => by
             rcases Nat.lt_or_ge i j with h | h
             ·exact HN.out i h hil e
             ·obtain rfl : i = j := by omega
              exact heq ((str_eq tb ty).2 (HTB.out.symm.trans e)))
            go_wp2_with fail
            go_roundw
            case rel => exact ⟨j + 1, by omega, by go_num, HBI.out.alloc hsz6 _, HN2⟩
            case measure => simp [intOf]; omega
          ·have HX4 := hide (HX3.out.trans (if_neg (by rw [any_no (fun i hi hil => HN.out i (by omega) hil)]; simp)))
           have HBW := hide (HB6.out.trans (hbi.mono HB6.out.size))
           clear hbi
           go_wp2_with fail
           go_roundw
           case rel => exact ⟨k + 1, by omega, by go_num, HBW.out, HX4⟩
           case measure => simp [intOf]; omega
    ·have HY := hide (show r = 0 by rw [H.out, List.drop_of_length_le (by omega)]; rfl)
     go_wp2_with fail
     go_ret
     exact ⟨ret_int HY.out.symm, hb⟩
set_option maxRecDepth 100000 in
set_option maxHeartbeats 8000000 in
theorem rcheckA_any (l : List Attr) (A : Option Addr) (c : Nat) (w : World) (hmx : Mx w) (h : Sl RAttr 3 w (Lt w.heap.size) l [.slice A l.length c]) (hsm : SmallR l) :
  Calls Tryz.prog 115 #[.slice A l.length c] w fun e w' => e = .returned (.int .i64 (chkA [] l)) ∧ Below w.heap.size w w' := by
 obtain ⟨-, hnc, hcm⟩ := h.len_
 unfold maxLen at hcm
 obtain ⟨r, hr⟩ : ∃ r, chkA [] l = r := ⟨_, rfl⟩
 rw [hr]
 have K := hide h
 have HMX := hide hmx
 have HSM := hide hsm
 have H0 := hide (show r = chkA (l.take 0) (l.drop 0) by rw [← hr]; rfl)
 clear h hmx hsm hr
 go_enter Tryz.func115, Tryz.ntmps115
 go_wp2_with fail
 go_loopw [8] (fun i wr => ∃ k : Nat, k ≤ l.length ∧ i = .int .i64 k ∧ Below w.heap.size w wr ∧ Hid (r = chkA (l.take k) (l.drop k))) (fun i _ => l.length - (intOf i).toNat)
 case atStart => exact ⟨0, by omega, rfl, Below.refl _ _, H0⟩
 case round =>
  obtain ⟨k, hk, rfl, hb, H⟩ := hrel
  by_cases hlt : k < l.length
  ·obtain ⟨b, off, hA, hbS, hc0, hc1, hc2⟩ := K.out.attAt hlt
   subst hA
   obtain ⟨hs0, hs2⟩ := HSM.out l[k] (List.getElem_mem hlt)
   have HX := hide (H.out.trans (chkA_at hlt))
   obtain ⟨ty, hty⟩ : ∃ ty : ByteArray, ty = ⟨l[k].1.toArray⟩ := ⟨_, rfl⟩
   obtain ⟨va, hva⟩ : ∃ va : ByteArray, va = ⟨l[k].2.2.toArray⟩ := ⟨_, rfl⟩
   have hty2 : l[k].1 = ty.data.toList := by rw [hty]
   have hva2 : l[k].2.2 = va.data.toList := by rw [hva]
   obtain ⟨kd, hkd⟩ : ∃ kd, l[k].2.1 = kd := ⟨_, rfl⟩
   rw [hkd, hty2, hva2] at HX
   rw [← hty] at hc0
   rw [hkd] at hc1
   rw [← hva] at hc2
   rw [hty2, size_string] at hs0
   rw [hva2, size_string] at hs2
   have HTY := hide hty2
   obtain ⟨p, hp⟩ : ∃ p, validB ty.data.toList = p := ⟨_, rfl⟩
   obtain ⟨q, hq⟩ : ∃ q, validT kd va.data.toList = q := ⟨_, rfl⟩
   rw [hp, hq] at HX
   have HP := hide hp
   have HQ := hide hq
   have hbS' : b < w.heap.size := hbS
   have hd0 : wr.cell? ⟨b, off + k * 3, none⟩ = some (.string ty) := (hb.cell hbS').trans hc0
   have hd1 : wr.cell? ⟨b, off + k * 3 + 1, none⟩ = some (.int .i64 kd) := (hb.cell hbS').trans hc1
   have hd2 : wr.cell? ⟨b, off + k * 3 + 2, none⟩ = some (.string va) := (hb.cell hbS').trans hc2
   have HMr := hide (HMX.out.below hb)
   have HB := hide hb
   clear hc0 hc1 hc2 hty hva hty2 hva2 hkd hp hq hb
   go_wp2_with fail
   refine (roid_v ty (by omega) p HP.out _ (HMr.out.below ((Below.refl _ _).alloc (Nat.le_refl _) _))).mono ?_
   rintro e w5 ⟨rfl, hb5⟩
   have h50 := cellN (i := 0) hb5 rfl
   have h51 := cellN (i := 1) hb5 rfl
   have h52 := cellN (i := 2) hb5 rfl
   have hx5 := below_new hb5
   have hxlt : wr.heap.size < w5.heap.size := by have := hb5.size; simp at this; omega
   have HB5 := hide (HB.out.trans (hx5.mono HB.out.size))
   clear hb5 hd0 hd1 hd2
   cases p
   ·have HY := hide (HX.out.trans (if_pos rfl))
    go_wp2_with fail
    go_ret
    exact ⟨ret_int HY.out.symm, HB5.out⟩
   ·have HX1 := hide (HX.out.trans (if_neg (by simp)))
    by_cases hve : va.data.toList = []
    ·have HY := hide (HX1.out.trans (if_pos (.inl hve)))
     have hve2 : va.toList = [] := by rw [ByteArray.toList_eq]; exact hve
     have hve3 : va.size = 0 := by rw [← size_string, hve]; rfl
     have hve4 : ((va.size : Int) == 0) = true := by rw [hve3]; rfl
     clear hve
     go_wp2_with fail
     go_ret
     exact ⟨ret_int HY.out.symm, HB5.out⟩
    ·have hve2 : ¬ va.toList = [] := by rw [ByteArray.toList_eq]; exact hve
     have hve5 : (va.toList == []) = false := by simpa using hve2
     have hve6 : va.toList.isEmpty = false := by simpa using hve2
     have hve3 : va.size ≠ 0 := fun e => hve (List.eq_nil_of_length_eq_zero (by rw [size_string]; exact e))
     have hve4 : ((va.size : Int) == 0) = false := by rw [beq_eq_false_iff_ne]; omega
     have HVE := hide hve
     clear hve hve3 hve2
     go_wp2_with fail
     refine (rtext_v kd va (by omega) q HQ.out _).mono ?_
     rintro e w6 ⟨rfl, hb6⟩
     have h60 := cell_grows hb6 _ _ h50
     have h62 := cell_grows hb6 _ _ h52
     have hx6 := hx5.trans (hb6.mono hx5.size)
     have HB6 := hide (HB5.out.trans (hb6.mono HB5.out.size))
     have hxlt6 : wr.heap.size < w6.heap.size := Nat.lt_of_lt_of_le hxlt hb6.size
     clear hb6 h50 h51 h52 hx5 hve4 hve5 hve6 hxlt
     cases q
     ·have HY := hide (HX1.out.trans (if_pos (.inr rfl)))
      go_wp2_with fail
      go_ret
      exact ⟨ret_int HY.out.symm, HB6.out⟩
     ·have HX2 := hide (HX1.out.trans (if_neg (fun h => by rcases h with h | h; exact HVE.out h; cases h)))
      have hvs : va.data.toList.length = va.size := size_string va
      by_cases h64 : 64 < va.size
      ·have HY := hide (HX2.out.trans (if_pos (by rw [hvs]; exact h64)))
       clear hvs
       go_wp2_with fail
       go_ret
       exact ⟨ret_int HY.out.symm, HB6.out⟩
      ·have HX3 := hide (HX2.out.trans (if_neg (by rw [hvs]; exact h64)))
       clear hvs
       go_wp2_with fail
       go_loopw [5] (fun i wi => ∃ j : Nat, j ≤ k ∧ i = .int .i64 j ∧ Below w6.heap.size w6 wi ∧ Hid (∀ i (_ : i < j) (hi : i < l.length), l[i].1 ≠ ty.data.toList)) (fun i _ => k - (intOf i).toNat)
       case atStart => exact ⟨0, by omega, rfl, Below.refl _ _, hide (fun i hi => by omega)⟩
       case round =>
        obtain ⟨j, hj, rfl, hbi, HN⟩ := hrel
        by_cases hjk : j < k
        ·obtain ⟨b', off', hA', hbS2, e0, e1, e2⟩ := K.out.attAt (i := j) (by omega)
         simp only [Option.some.injEq, Addr.mk.injEq, and_true] at hA'
         obtain ⟨rfl, rfl⟩ := hA'
         obtain ⟨tb, htb⟩ : ∃ tb : ByteArray, tb = ⟨(l[j]'(by omega)).1.toArray⟩ := ⟨_, rfl⟩
         have htb2 : (l[j]'(by omega)).1 = tb.data.toList := by rw [htb]
         rw [← htb] at e0
         have hbw := HB6.out.trans (hbi.mono HB6.out.size)
         have d0 : wr.cell? ⟨b, off + j * 3, none⟩ = some (.string tb) := (hbw.cell hbS').trans e0
         have d3 := cell_grows hbi _ _ h60
         have HTB := hide htb2
         have HBI := hide (fun n => below_drewN hbi n)
         have HBW := hide (fun n => below_drewN hbw n)
         have hj0 : (0 : Int) ≤ (j : Int) := by omega
         have hjl : (j : Int) < (l.length : Int) := by omega
         clear e0 e1 e2 htb htb2 hbi hbw
         by_cases heq : tb.toList = ty.toList
         ·have HY := hide (HX3.out.trans (if_pos (any_yes (i := j) (by omega) hjk (by rw [HTB.out]; exact (str_eq tb ty).1 heq))))
          have heq2 : (tb.toList == ty.toList) = true := by simpa using heq
          go_wp2_with fail
          go_quiet (fail)
          go_wp2_with fail
          go_ret
          exact ⟨ret_int HY.out.symm, HBW.out _⟩
         ·have heq2 : (tb.toList == ty.toList) = false := by simpa using heq
          have HN2 := hide (show ∀ i (_ : i < j + 1) (hi : i < l.length), l[i].1 ≠ ty.data.toList from fun i hi hil e => by
           rcases Nat.lt_or_ge i j with h | h
           ·exact HN.out i h hil e
           ·obtain rfl : i = j := by omega
            exact heq ((str_eq tb ty).2 (HTB.out.symm.trans e)))
          go_wp2_with fail
          go_quiet (fail)
          go_wp2_with fail
          go_roundw
          case rel => exact ⟨j + 1, by omega, by go_num, HBI.out _, HN2⟩
          case measure => simp [intOf]; omega
        ·have HX4 := hide (HX3.out.trans (if_neg (by rw [any_no (fun i hi hil => HN.out i (by omega) hil)]; simp)))
         have HBW := hide (HB6.out.trans (hbi.mono HB6.out.size))
         clear hbi
         go_wp2_with fail
         go_roundw
         case rel => exact ⟨k + 1, by omega, by go_num, HBW.out, HX4⟩
         case measure => simp [intOf]; omega
  ·have HY := hide (show r = 0 by rw [H.out, List.drop_of_length_le (by omega)]; rfl)
   go_wp2_with fail
   go_ret
   exact ⟨ret_int HY.out.symm, hb⟩
set_option maxHeartbeats 4000000 in
theorem Check_any (n : Name) (A : Option Addr) (c : Nat) (w : World) (hmx : Mx w) (h : Sl RRdn 1 w (Lt w.heap.size) n [.slice A n.length c]) (hsm : SmallN n) :
  Calls Tryz.prog 62 #[.agg #[.slice A n.length c]] w fun e w' => e = .returned (.int .i64 (chkN n)) ∧ Below w.heap.size w w' := by
 obtain ⟨-, hnc, hcm⟩ := h.len_
 unfold maxLen at hcm
 obtain ⟨r, hr⟩ : ∃ r, chkN n = r := ⟨_, rfl⟩
 rw [hr]
 have K := hide h
 have HMX := hide hmx
 have HSM := hide hsm
 clear h hmx hsm
 by_cases h8 : 8 < n.length
 ·have HY := hide (show r = 2 by rw [← hr, chkN, if_pos h8])
  clear hr
  go_enter Tryz.func62, Tryz.ntmps62
  go_wp2_with fail
  go_ret
  exact ⟨ret_int HY.out.symm, (Below.refl _ _).alloc (Nat.le_refl _) _⟩
 ·have H0 := hide (show r = chkRs (n.drop 0) by rw [← hr, chkN, if_neg h8]; rfl)
  clear hr
  go_enter Tryz.func62, Tryz.ntmps62
  go_wp2_with fail
  go_loopw [13] (fun i wr => ∃ k : Nat, k ≤ n.length ∧ i = .int .i64 k ∧ Below w.heap.size w wr ∧ Hid (r = chkRs (n.drop k))) (fun i _ => n.length - (intOf i).toNat)
  case atStart => exact ⟨0, by omega, rfl, (Below.refl _ _).alloc (Nat.le_refl _) _, H0⟩
  case round =>
   obtain ⟨k, hk, rfl, hb, H⟩ := hrel
   by_cases hlt : k < n.length
   ·obtain ⟨b, off, A', c', hA, hbS, hc0, hsl⟩ := K.out.rdnAt hlt
    subst hA
    have hbS' : b < w.heap.size := hbS
    have hd0 : wr.cell? ⟨b, off + k, none⟩ = some (.slice A' n[k].length c') := (hb.cell hbS').trans hc0
    have hsm := HSM.out n[k] (List.getElem_mem hlt)
    have HX := hide (show r = if chkR n[k] = 0 then chkRs (n.drop (k + 1)) else chkR n[k] by rw [H.out, List.drop_eq_getElem_cons hlt, chkRs])
    have hslr := (Sl.ok RAttr.ok).below hsl hb
    obtain ⟨l, hl⟩ : ∃ l, n[k] = l := ⟨_, rfl⟩
    rw [hl] at hd0 hsm HX hslr
    have HSL := hide hslr
    have HMr := hide (HMX.out.below hb)
    have HSR := hide hsm
    have HB := hide hb
    clear hc0 hsl hl hslr hsm hb
    go_wp2_with fail
    refine (checkRel_any l _ _ _ HMr.out HSL.out HSR.out).mono ?_
    rintro e w5 ⟨rfl, hb5⟩
    have HB5 := hide (HB.out.trans (hb5.mono HB.out.size))
    have HCR := hide (rfl : chkR l = chkR l)
    clear hb5 hd0
    obtain ⟨q, hq⟩ : ∃ q, chkR l = q := ⟨_, rfl⟩
    rw [hq]
    have HQ := hide hq
    clear hq
    by_cases hq0 : q = 0
    ·have HY := hide (HX.out.trans (if_pos (by rw [HCR.out, HQ.out, hq0])))
     have ht : (q != 0) = false := by simp [hq0]
     clear hq0
     go_wp2_with fail
     go_roundw
     case rel => exact ⟨k + 1, by omega, by go_num, HB5.out, HY⟩
     case measure => simp [intOf]; omega
    ·have HY := hide (show r = q from (HX.out.trans (if_neg (by rw [HCR.out, HQ.out]; exact hq0))).trans (HCR.out.trans HQ.out))
     have ht : (q != 0) = true := by simp [hq0]
     clear hq0
     go_wp2_with fail
     go_ret
     exact ⟨ret_int HY.out.symm, HB5.out⟩
   ·have HY := hide (show r = 0 by rw [H.out, List.drop_of_length_le (by omega)]; rfl)
    go_wp2_with fail
    go_ret
    exact ⟨ret_int HY.out.symm, hb⟩
set_option maxHeartbeats 4000000 in
theorem rCheck_any (n : Name) (A : Option Addr) (c : Nat) (w : World) (hmx : Mx w) (h : Sl RRdn 1 w (Lt w.heap.size) n [.slice A n.length c]) (hsm : SmallN n) :
  Calls Tryz.prog 69 #[.agg #[.slice A n.length c]] w fun e w' => e = .returned (.int .i64 (chkN n)) ∧ Below w.heap.size w w' := by
 obtain ⟨-, hnc, hcm⟩ := h.len_
 unfold maxLen at hcm
 obtain ⟨r, hr⟩ : ∃ r, chkN n = r := ⟨_, rfl⟩
 rw [hr]
 have K := hide h
 have HMX := hide hmx
 have HSM := hide hsm
 clear h hmx hsm
 by_cases h8 : 8 < n.length
 ·have HY := hide (show r = 2 by rw [← hr, chkN, if_pos h8])
  clear hr
  go_enter Tryz.func69, Tryz.ntmps69
  go_wp2_with fail
  go_ret
  exact ⟨ret_int HY.out.symm, (Below.refl _ _).alloc (Nat.le_refl _) _⟩
 ·have H0 := hide (show r = chkRs (n.drop 0) by rw [← hr, chkN, if_neg h8]; rfl)
  clear hr
  go_enter Tryz.func69, Tryz.ntmps69
  go_wp2_with fail
  go_loopw [13] (fun i wr => ∃ k : Nat, k ≤ n.length ∧ i = .int .i64 k ∧ Below w.heap.size w wr ∧ Hid (r = chkRs (n.drop k))) (fun i _ => n.length - (intOf i).toNat)
  case atStart => exact ⟨0, by omega, rfl, (Below.refl _ _).alloc (Nat.le_refl _) _, H0⟩
  case round =>
   obtain ⟨k, hk, rfl, hb, H⟩ := hrel
   by_cases hlt : k < n.length
   ·obtain ⟨b, off, A', c', hA, hbS, hc0, hsl⟩ := K.out.rdnAt hlt
    subst hA
    have hbS' : b < w.heap.size := hbS
    have hd0 : wr.cell? ⟨b, off + k, none⟩ = some (.slice A' n[k].length c') := (hb.cell hbS').trans hc0
    have hsm := HSM.out n[k] (List.getElem_mem hlt)
    have HX := hide (show r = if chkR n[k] = 0 then chkRs (n.drop (k + 1)) else chkR n[k] by rw [H.out, List.drop_eq_getElem_cons hlt, chkRs])
    have hslr := (Sl.ok RAttr.ok).below hsl hb
    obtain ⟨l, hl⟩ : ∃ l, n[k] = l := ⟨_, rfl⟩
    rw [hl] at hd0 hsm HX hslr
    have HSL := hide hslr
    have HMr := hide (HMX.out.below hb)
    have HSR := hide hsm
    have HB := hide hb
    clear hc0 hsl hl hslr hsm hb
    by_cases hl0 : l.length = 0
    ·have HY := hide (HX.out.trans (if_neg (by rw [chkR, if_pos hl0]; decide)))
     have HZ := hide (show r = 14 by rw [HY.out, chkR, if_pos hl0])
     have ht : ((l.length : Int) == 0) = true := by rw [hl0]; rfl
     clear hl0
     go_wp2_with fail
     go_ret
     exact ⟨ret_int HZ.out.symm, HB.out⟩
    ·have ht : ((l.length : Int) == 0) = false := by rw [beq_eq_false_iff_ne]; omega
     by_cases hl4 : 4 < l.length
     ·have HY := hide (HX.out.trans (if_neg (by rw [chkR, if_neg hl0, if_pos hl4]; decide)))
      have HZ := hide (show r = 2 by rw [HY.out, chkR, if_neg hl0, if_pos hl4])
      clear hl0
      go_wp2_with fail
      go_ret
      exact ⟨ret_int HZ.out.symm, HB.out⟩
     ·have HCR := hide (show chkR l = chkA [] l by rw [chkR, if_neg hl0, if_neg hl4])
      clear hl0
      go_wp2_with fail
      refine (rcheckA_any l _ _ _ HMr.out HSL.out HSR.out).mono ?_
      rintro e w5 ⟨rfl, hb5⟩
      have HB5 := hide (HB.out.trans (hb5.mono HB.out.size))
      clear hb5 hd0 ht
      obtain ⟨q, hq⟩ : ∃ q, chkA [] l = q := ⟨_, rfl⟩
      rw [hq]
      have HQ := hide hq
      clear hq
      by_cases hq0 : q = 0
      ·have HY := hide (HX.out.trans (if_pos (by rw [HCR.out, HQ.out, hq0])))
       have ht : (q != 0) = false := by simp [hq0]
       clear hq0
       go_wp2_with fail
       go_roundw
       case rel => exact ⟨k + 1, by omega, by go_num, HB5.out, HY⟩
       case measure => simp [intOf]; omega
      ·have HY := hide (show r = q from (HX.out.trans (if_neg (by rw [HCR.out, HQ.out]; exact hq0))).trans (HCR.out.trans HQ.out))
       have ht : (q != 0) = true := by simp [hq0]
       clear hq0
       go_wp2_with fail
       go_ret
       exact ⟨ret_int HY.out.symm, HB5.out⟩
   ·have HY := hide (show r = 0 by rw [H.out, List.drop_of_length_le (by omega)]; rfl)
    go_wp2_with fail
    go_ret
    exact ⟨ret_int HY.out.symm, hb⟩
end Go.Proofs.YtmgnihmjjijdoaaGreatDoor
namespace Go.Proofs.YtmgnihmjjijdoaaGreatDoor
open Go.RowKit
theorem match_v (s t : ByteArray) (hs : s.size ≤ 1000000) (ht : t.size ≤ 1000000) (q : Bool) (hq : (foldF s.data.toList == foldF t.data.toList) = q) (w : World) :
  Calls Tryz.prog 220 #[.string s, .string t] w fun e w' => e = .returned (.bool q) ∧ Below w.heap.size w w' := hq ▸ Match_any s t hs ht w
theorem rmatch_v (s t : ByteArray) (hs : s.size ≤ 1000000) (ht : t.size ≤ 1000000) (q : Bool) (hq : (foldF s.data.toList == foldF t.data.toList) = q) (w : World) :
  Calls Tryz.prog 201 #[.string t, .string s] w fun e w' => e = .returned (.bool q) ∧ Below w.heap.size w w' :=
 (rMatch_any t s ht hs w).mono fun e w' ⟨he, hb⟩ => ⟨by rw [he, ← fold_eq, ← fold_eq, ← hq]; exact ret_bool Bool.beq_comm, hb⟩
def attV (a : Attr) : Value := .agg #[.string ⟨a.1.toArray⟩, .int .i64 a.2.1, .string ⟨a.2.2.toArray⟩]
theorem below_new2 {B : Nat} {w0 w w9 : World} {o : Obj} (h0 : Below B w0 w) (hB : B ≤ w.heap.size) (h : Below (w.alloc o).heap.size (w.alloc o) w9) : Below B w0 w9 :=
 h0.trans ((below_new h).mono hB)
set_option maxRecDepth 100000 in
set_option maxHeartbeats 4000000 in
theorem has_any (l : List Attr) (x : Attr) (A : Option Addr) (c : Nat) (w : World) (h : Sl RAttr 3 w (Lt w.heap.size) l [.slice A l.length c]) (hsm : SmallR l) (hx : SmallA x) :
  Calls Tryz.prog 205 #[.slice A l.length c, attV x] w fun e w' => e = .returned (.bool (hasA l x)) ∧ Below w.heap.size w w' := by
 obtain ⟨-, hnc, hcm⟩ := h.len_
 unfold maxLen at hcm
 obtain ⟨r, hr⟩ : ∃ r, hasA l x = r := ⟨_, rfl⟩
 rw [hr]
 have K := hide h
 have HSM := hide hsm
 have H0 := hide (show r = (l.drop 0).any (sameB x) by rw [← hr]; rfl)
 obtain ⟨xt, kx, xv⟩ := x
 obtain ⟨hx0, hx2⟩ := hx
 obtain ⟨ty, hty⟩ : ∃ ty : ByteArray, ty = ⟨xt.toArray⟩ := ⟨_, rfl⟩
 obtain ⟨va, hva⟩ : ∃ va : ByteArray, va = ⟨xv.toArray⟩ := ⟨_, rfl⟩
 have hty2 : xt = ty.data.toList := by rw [hty]
 have hva2 : xv = va.data.toList := by rw [hva]
 have hx0' : xt.length ≤ 131072 := hx0
 have hx2' : xv.length ≤ 131072 := hx2
 rw [hty2, size_string] at hx0'
 rw [hva2, size_string] at hx2'
 show Calls _ _ #[_, .agg #[.string ⟨xt.toArray⟩, .int .i64 kx, .string ⟨xv.toArray⟩]] _ _
 rw [← hty, ← hva]
 have HTY := hide hty2
 have HVA := hide hva2
 clear h hsm hr hx0 hx2 hty hva hty2 hva2
 go_enter Tryz.func205, Tryz.ntmps205
 go_wp2_with fail
 obtain ⟨wa, hwa⟩ : ∃ wa, wa = w.alloc (.cells #[.string ty, .int .i64 kx, .string va] 84) := ⟨_, rfl⟩
 have ha0 : wa.cell? ⟨w.heap.size, 0, none⟩ = some (.string ty) := by rw [hwa, World.cell?_alloc_new]; rfl
 have ha2 : wa.cell? ⟨w.heap.size, 2, none⟩ = some (.string va) := by rw [hwa, World.cell?_alloc_new]; rfl
 have hba : Below w.heap.size w wa := by rw [hwa]; exact (Below.refl _ _).alloc (Nat.le_refl _) _
 have hza : wa.heap.size = w.heap.size + 1 := by rw [hwa]; simp
 rw [← hwa]
 have HA0 := hide ha0
 have HA2 := hide ha2
 have HBA := hide hba
 have HZA := hide hza
 clear hwa ha0 ha2 hba hza
 go_loopw [9] (fun i wr => ∃ k : Nat, k ≤ l.length ∧ i = .int .i64 k ∧ Below wa.heap.size wa wr ∧ Hid (r = (l.drop k).any (sameB (xt, kx, xv)))) (fun i _ => l.length - (intOf i).toNat)
 case atStart => exact ⟨0, by omega, rfl, Below.refl _ _, H0⟩
 case round =>
  obtain ⟨k, hk, rfl, hb, H⟩ := hrel
  have hbw := HBA.out.trans (hb.mono HBA.out.size)
  have HBW := hide hbw
  by_cases hlt : k < l.length
  ·obtain ⟨b, off, hA, hbS, hc0, hc1, hc2⟩ := K.out.attAt hlt
   subst hA
   obtain ⟨hs0, hs2⟩ := HSM.out l[k] (List.getElem_mem hlt)
   obtain ⟨tb, htb⟩ : ∃ tb : ByteArray, tb = ⟨l[k].1.toArray⟩ := ⟨_, rfl⟩
   obtain ⟨vb, hvb⟩ : ∃ vb : ByteArray, vb = ⟨l[k].2.2.toArray⟩ := ⟨_, rfl⟩
   have htb2 : l[k].1 = tb.data.toList := by rw [htb]
   have hvb2 : l[k].2.2 = vb.data.toList := by rw [hvb]
   obtain ⟨kb, hkb⟩ : ∃ kb, l[k].2.1 = kb := ⟨_, rfl⟩
   rw [← htb] at hc0
   rw [hkb] at hc1
   rw [← hvb] at hc2
   rw [htb2, size_string] at hs0
   rw [hvb2, size_string] at hs2
   obtain ⟨q, hq⟩ : ∃ q, (foldF va.data.toList == foldF vb.data.toList) = q := ⟨_, rfl⟩
   have HX := hide (show r = ((ty.data.toList == tb.data.toList && q) || (l.drop (k + 1)).any (sameB (xt, kx, xv))) by
    rw [H.out, List.drop_eq_getElem_cons hlt, List.any_cons]
    congr 1
    show (xt == l[k].1 && foldF xv == foldF l[k].2.2) = _
    rw [htb2, hvb2, HTY.out, HVA.out, hq])
   have HQ := hide hq
   have hbS' : b < w.heap.size := hbS
   have hd0 : wr.cell? ⟨b, off + k * 3, none⟩ = some (.string tb) := (hbw.cell hbS').trans hc0
   have hd1 : wr.cell? ⟨b, off + k * 3 + 1, none⟩ = some (.int .i64 kb) := (hbw.cell hbS').trans hc1
   have hd2 : wr.cell? ⟨b, off + k * 3 + 2, none⟩ = some (.string vb) := (hbw.cell hbS').trans hc2
   have he0 := cell_grows hb _ _ HA0.out
   have he2 := cell_grows hb _ _ HA2.out
   have hez : w.heap.size < wr.heap.size := by have := HZA.out; have := hb.size; omega
   have hsz := hb.size
   have HB := hide hb
   clear hc0 hc1 hc2 htb hvb htb2 hvb2 hkb hq hb hbw
   by_cases heq : ty.toList = tb.toList
   ·have heq1 : (ty.toList == tb.toList) = true := by simpa using heq
    have heq3 : tb.toList = ty.toList := heq.symm
    have heq4 : (tb.toList == ty.toList) = true := by simpa using heq3
    have HX2 := hide (show r = (q || (l.drop (k + 1)).any (sameB (xt, kx, xv))) by
     rw [HX.out, show (ty.data.toList == tb.data.toList) = true by simpa using (str_eq ty tb).1 heq]; rfl)
    have HEQ := hide heq
    clear heq heq3
    go_wp2_with fail
    refine (match_v va vb (by omega) (by omega) q HQ.out _).mono ?_
    rintro e w5 ⟨rfl, hb5⟩
    have HB5 := hide (below_new2 HB.out hsz hb5)
    have HBW5 := hide (below_new2 HBW.out HBW.out.size hb5)
    clear hb5 hd0 hd1 hd2 he0 he2
    cases q
    ·go_wp2_with fail
     go_roundw
     case rel => exact ⟨k + 1, by omega, by go_num, HB5.out, HX2⟩
     case measure => simp [intOf]; omega
    ·go_wp2_with fail
     go_ret
     exact ⟨ret_bool (show true = r by rw [HX2.out]; rfl), HBW5.out⟩
   ·have heq1 : (ty.toList == tb.toList) = false := by simpa using heq
    have heq3 : ¬ tb.toList = ty.toList := fun e => heq e.symm
    have heq4 : (tb.toList == ty.toList) = false := by simpa using heq3
    have HX2 := hide (show r = (l.drop (k + 1)).any (sameB (xt, kx, xv)) by
     rw [HX.out, show (ty.data.toList == tb.data.toList) = false by simpa using fun e => heq ((str_eq ty tb).2 e)]; rfl)
    go_wp2_with fail
    go_roundw
    case rel => exact ⟨k + 1, by omega, by go_num, HB.out.alloc hsz _, HX2⟩
    case measure => simp [intOf]; omega
  ·have HX := hide (show r = false by rw [H.out, List.drop_of_length_le (by omega)]; rfl)
   clear hb hbw
   go_wp2_with fail
   go_ret
   exact ⟨ret_bool HX.out.symm, HBW.out⟩
set_option maxRecDepth 100000 in
set_option maxHeartbeats 4000000 in
theorem rhas_any (l : List Attr) (x : Attr) (A : Option Addr) (c : Nat) (w : World) (h : Sl RAttr 3 w (Lt w.heap.size) l [.slice A l.length c]) (hsm : SmallR l) (hx : SmallA x) :
  Calls Tryz.prog 179 #[.slice A l.length c, attV x] w fun e w' => e = .returned (.bool (hasA l x)) ∧ Below w.heap.size w w' := by
 obtain ⟨-, hnc, hcm⟩ := h.len_
 unfold maxLen at hcm
 obtain ⟨r, hr⟩ : ∃ r, hasA l x = r := ⟨_, rfl⟩
 rw [hr]
 have K := hide h
 have HSM := hide hsm
 have H0 := hide (show r = (l.drop 0).any (sameB x) by rw [← hr]; rfl)
 obtain ⟨xt, kx, xv⟩ := x
 obtain ⟨hx0, hx2⟩ := hx
 obtain ⟨ty, hty⟩ : ∃ ty : ByteArray, ty = ⟨xt.toArray⟩ := ⟨_, rfl⟩
 obtain ⟨va, hva⟩ : ∃ va : ByteArray, va = ⟨xv.toArray⟩ := ⟨_, rfl⟩
 have hty2 : xt = ty.data.toList := by rw [hty]
 have hva2 : xv = va.data.toList := by rw [hva]
 have hx0' : xt.length ≤ 131072 := hx0
 have hx2' : xv.length ≤ 131072 := hx2
 rw [hty2, size_string] at hx0'
 rw [hva2, size_string] at hx2'
 show Calls _ _ #[_, .agg #[.string ⟨xt.toArray⟩, .int .i64 kx, .string ⟨xv.toArray⟩]] _ _
 rw [← hty, ← hva]
 have HTY := hide hty2
 have HVA := hide hva2
 clear h hsm hr hx0 hx2 hty hva hty2 hva2
 go_enter Tryz.func179, Tryz.ntmps179
 go_wp2_with fail
 obtain ⟨wa, hwa⟩ : ∃ wa, wa = w.alloc (.cells #[.string ty, .int .i64 kx, .string va] 84) := ⟨_, rfl⟩
 have ha0 : wa.cell? ⟨w.heap.size, 0, none⟩ = some (.string ty) := by rw [hwa, World.cell?_alloc_new]; rfl
 have ha2 : wa.cell? ⟨w.heap.size, 2, none⟩ = some (.string va) := by rw [hwa, World.cell?_alloc_new]; rfl
 have hba : Below w.heap.size w wa := by rw [hwa]; exact (Below.refl _ _).alloc (Nat.le_refl _) _
 have hza : wa.heap.size = w.heap.size + 1 := by rw [hwa]; simp
 rw [← hwa]
 have HA0 := hide ha0
 have HA2 := hide ha2
 have HBA := hide hba
 have HZA := hide hza
 clear hwa ha0 ha2 hba hza
 go_loopw [9] (fun i wr => ∃ k : Nat, k ≤ l.length ∧ i = .int .i64 k ∧ Below wa.heap.size wa wr ∧ Hid (r = (l.drop k).any (sameB (xt, kx, xv)))) (fun i _ => l.length - (intOf i).toNat)
 case atStart => exact ⟨0, by omega, rfl, Below.refl _ _, H0⟩
 case round =>
  obtain ⟨k, hk, rfl, hb, H⟩ := hrel
  have hbw := HBA.out.trans (hb.mono HBA.out.size)
  have HBW := hide hbw
  by_cases hlt : k < l.length
  ·obtain ⟨b, off, hA, hbS, hc0, hc1, hc2⟩ := K.out.attAt hlt
   subst hA
   obtain ⟨hs0, hs2⟩ := HSM.out l[k] (List.getElem_mem hlt)
   obtain ⟨tb, htb⟩ : ∃ tb : ByteArray, tb = ⟨l[k].1.toArray⟩ := ⟨_, rfl⟩
   obtain ⟨vb, hvb⟩ : ∃ vb : ByteArray, vb = ⟨l[k].2.2.toArray⟩ := ⟨_, rfl⟩
   have htb2 : l[k].1 = tb.data.toList := by rw [htb]
   have hvb2 : l[k].2.2 = vb.data.toList := by rw [hvb]
   obtain ⟨kb, hkb⟩ : ∃ kb, l[k].2.1 = kb := ⟨_, rfl⟩
   rw [← htb] at hc0
   rw [hkb] at hc1
   rw [← hvb] at hc2
   rw [htb2, size_string] at hs0
   rw [hvb2, size_string] at hs2
   obtain ⟨q, hq⟩ : ∃ q, (foldF va.data.toList == foldF vb.data.toList) = q := ⟨_, rfl⟩
   have HX := hide (show r = ((ty.data.toList == tb.data.toList && q) || (l.drop (k + 1)).any (sameB (xt, kx, xv))) by
    rw [H.out, List.drop_eq_getElem_cons hlt, List.any_cons]
    congr 1
    show (xt == l[k].1 && foldF xv == foldF l[k].2.2) = _
    rw [htb2, hvb2, HTY.out, HVA.out, hq])
   have HQ := hide hq
   have hbS' : b < w.heap.size := hbS
   have hd0 : wr.cell? ⟨b, off + k * 3, none⟩ = some (.string tb) := (hbw.cell hbS').trans hc0
   have hd1 : wr.cell? ⟨b, off + k * 3 + 1, none⟩ = some (.int .i64 kb) := (hbw.cell hbS').trans hc1
   have hd2 : wr.cell? ⟨b, off + k * 3 + 2, none⟩ = some (.string vb) := (hbw.cell hbS').trans hc2
   have he0 := cell_grows hb _ _ HA0.out
   have he2 := cell_grows hb _ _ HA2.out
   have hez : w.heap.size < wr.heap.size := by have := HZA.out; have := hb.size; omega
   have hsz := hb.size
   have HB := hide hb
   clear hc0 hc1 hc2 htb hvb htb2 hvb2 hkb hq hb hbw
   by_cases heq : ty.toList = tb.toList
   ·have heq1 : (ty.toList == tb.toList) = true := by simpa using heq
    have heq3 : tb.toList = ty.toList := heq.symm
    have heq4 : (tb.toList == ty.toList) = true := by simpa using heq3
    have HX2 := hide (show r = (q || (l.drop (k + 1)).any (sameB (xt, kx, xv))) by
     rw [HX.out, show (ty.data.toList == tb.data.toList) = true by simpa using (str_eq ty tb).1 heq]; rfl)
    have HEQ := hide heq
    clear heq heq3
    go_wp2_with fail
    refine (rmatch_v va vb (by omega) (by omega) q HQ.out _).mono ?_
    rintro e w5 ⟨rfl, hb5⟩
    have HB5 := hide (below_new2 HB.out hsz hb5)
    have HBW5 := hide (below_new2 HBW.out HBW.out.size hb5)
    clear hb5 hd0 hd1 hd2 he0 he2
    cases q
    ·go_wp2_with fail
     go_roundw
     case rel => exact ⟨k + 1, by omega, by go_num, HB5.out, HX2⟩
     case measure => simp [intOf]; omega
    ·go_wp2_with fail
     go_ret
     exact ⟨ret_bool (show true = r by rw [HX2.out]; rfl), HBW5.out⟩
   ·have heq1 : (ty.toList == tb.toList) = false := by simpa using heq
    have heq3 : ¬ tb.toList = ty.toList := fun e => heq e.symm
    have heq4 : (tb.toList == ty.toList) = false := by simpa using heq3
    have HX2 := hide (show r = (l.drop (k + 1)).any (sameB (xt, kx, xv)) by
     rw [HX.out, show (ty.data.toList == tb.data.toList) = false by simpa using fun e => heq ((str_eq ty tb).2 e)]; rfl)
    go_wp2_with fail
    go_roundw
    case rel => exact ⟨k + 1, by omega, by go_num, HB.out.alloc hsz _, HX2⟩
    case measure => simp [intOf]; omega
  ·have HX := hide (show r = false by rw [H.out, List.drop_of_length_le (by omega)]; rfl)
   clear hb hbw
   go_wp2_with fail
   go_ret
   exact ⟨ret_bool HX.out.symm, HBW.out⟩
theorem attAt_v {w : World} {S : Nat → Prop} {A : Option Addr} {n c : Nat} {l : List Attr} (h : Sl RAttr 3 w S l [.slice A n c]) {i : Nat} (hi : i < l.length) :
  ∃ b off, A = some ⟨b, off, none⟩ ∧ S b ∧ w.cell? ⟨b, off + i * 3, none⟩ = some (.string ⟨l[i].1.toArray⟩) ∧ w.cell? ⟨b, off + i * 3 + 1, none⟩ = some (.int .i64 l[i].2.1) ∧ w.cell? ⟨b, off + i * 3 + 2, none⟩ = some (.string ⟨l[i].2.2.toArray⟩) := h.attAt hi
set_option maxRecDepth 100000 in
set_option maxHeartbeats 4000000 in
theorem same_any (a b : List Attr) (A B : Option Addr) (c d : Nat) (w : World) (h : Sl RAttr 3 w (Lt w.heap.size) a [.slice A a.length c]) (h2 : Sl RAttr 3 w (Lt w.heap.size) b [.slice B b.length d]) (hs1 : SmallR a) (hs2 : SmallR b) :
  Calls Tryz.prog 183 #[.slice A a.length c, .slice B b.length d] w fun e w' => e = .returned (.bool (sameR a b)) ∧ Below w.heap.size w w' := by
 obtain ⟨-, hnc, hcm⟩ := h.len_
 obtain ⟨-, hnc2, hcm2⟩ := h2.len_
 unfold maxLen at hcm hcm2
 obtain ⟨r, hr⟩ : ∃ r, sameR a b = r := ⟨_, rfl⟩
 rw [hr]
 have K := hide h
 have K2 := hide h2
 have HS1 := hide hs1
 have HS2 := hide hs2
 clear h h2 hs1 hs2
 by_cases hl : a.length = b.length
 ·have H0 := hide (show r = sameZ a b ((a.zip b).drop 0) by rw [← hr, sameR, decide_eq_true hl]; rfl)
  have ht : ((a.length : Int) != (b.length : Int)) = false := by simp [hl]
  have HL := hide hl
  have hl2 : a.length ≤ b.length := by omega
  clear hr hl
  go_enter Tryz.func183, Tryz.ntmps183
  go_wp2_with fail
  clear ht
  go_loopw [13] (fun i wr => ∃ k : Nat, k ≤ a.length ∧ i = .int .i64 k ∧ Below w.heap.size w wr ∧ Hid (r = sameZ a b ((a.zip b).drop k))) (fun i _ => a.length - (intOf i).toNat)
  case atStart => exact ⟨0, by omega, rfl, Below.refl _ _, H0⟩
  case round =>
   obtain ⟨k, hk, rfl, hb, H⟩ := hrel
   by_cases hlt : k < a.length
   ·obtain ⟨b1, o1, hA, hbS, c0, c1, c2⟩ := attAt_v K.out hlt
    obtain ⟨b2, o2, hA2, hbS2, d0, d1, d2⟩ := attAt_v K2.out (i := k) (by omega)
    subst hA hA2
    have hbS' : b1 < w.heap.size := hbS
    have hbS2' : b2 < w.heap.size := hbS2
    have hx1 := HS1.out a[k] (List.getElem_mem hlt)
    have hx2 := HS2.out (b[k]'(by omega)) (List.getElem_mem _)
    have HX := hide (show r = (hasA b a[k] && hasA a (b[k]'(by omega)) && sameZ a b ((a.zip b).drop (k + 1))) by
     rw [H.out, List.drop_eq_getElem_cons (show k < (a.zip b).length by rw [List.length_zip]; omega), List.getElem_zip]; rfl)
    obtain ⟨x, hx⟩ : ∃ x, a[k] = x := ⟨_, rfl⟩
    obtain ⟨y, hy⟩ : ∃ y, b[k]'(by omega) = y := ⟨_, rfl⟩
    rw [hx] at c0 c1 c2 hx1 HX
    rw [hy] at d0 d1 d2 hx2 HX
    obtain ⟨p1, hp1⟩ : ∃ p, hasA b x = p := ⟨_, rfl⟩
    obtain ⟨p2, hp2⟩ : ∃ p, hasA a y = p := ⟨_, rfl⟩
    rw [hp1, hp2] at HX
    have HP1 := hide hp1
    have HP2 := hide hp2
    have e0 := (hb.cell (p := ⟨b1, o1 + k * 3, none⟩) hbS').trans c0
    have e1 := (hb.cell (p := ⟨b1, o1 + k * 3 + 1, none⟩) hbS').trans c1
    have e2 := (hb.cell (p := ⟨b1, o1 + k * 3 + 2, none⟩) hbS').trans c2
    have HD0 := hide d0
    have HD1 := hide d1
    have HD2 := hide d2
    have HKa := hide ((Sl.ok RAttr.ok).below K2.out hb)
    have HX1 := hide hx1
    have HX2 := hide hx2
    have HB := hide hb
    have hkb : k < b.length := by omega
    clear c0 c1 c2 d0 d1 d2 hx hy hp1 hp2 hx1 hx2 hb
    go_wp2_with fail
    refine (has_any b x _ _ _ HKa.out HS2.out HX1.out).mono ?_
    rintro e w5 ⟨rfl, hb5⟩
    rw [HP1.out]
    have HB5 := hide (HB.out.trans (hb5.mono HB.out.size))
    have HKb := hide ((Sl.ok RAttr.ok).below K.out HB5.out)
    have f0 := (HB5.out.cell (p := ⟨b2, o2 + k * 3, none⟩) hbS2').trans HD0.out
    have f1 := (HB5.out.cell (p := ⟨b2, o2 + k * 3 + 1, none⟩) hbS2').trans HD1.out
    have f2 := (HB5.out.cell (p := ⟨b2, o2 + k * 3 + 2, none⟩) hbS2').trans HD2.out
    clear hb5 e0 e1 e2
    cases p1
    ·have HY := hide (show r = false by rw [HX.out]; rfl)
     go_wp2_with fail
     go_ret
     exact ⟨ret_bool HY.out.symm, HB5.out⟩
    ·go_wp2_with fail
     refine (has_any a y _ _ _ HKb.out HS1.out HX2.out).mono ?_
     rintro e w6 ⟨rfl, hb6⟩
     rw [HP2.out]
     have HB6 := hide (HB5.out.trans (hb6.mono HB5.out.size))
     clear hb6 f0 f1 f2
     cases p2
     ·have HY := hide (show r = false by rw [HX.out]; rfl)
      go_wp2_with fail
      go_ret
      exact ⟨ret_bool HY.out.symm, HB6.out⟩
     ·have HY := hide (show r = sameZ a b ((a.zip b).drop (k + 1)) by rw [HX.out]; rfl)
      go_wp2_with fail
      go_roundw
      case rel => exact ⟨k + 1, by omega, by go_num, HB6.out, HY⟩
      case measure => simp [intOf]; omega
   ·have HX := hide (show r = true by rw [H.out, List.drop_of_length_le (by rw [List.length_zip]; omega)]; rfl)
    go_wp2_with fail
    go_ret
    exact ⟨ret_bool HX.out.symm, hb⟩
 ·have HX := hide (show r = false by rw [← hr, sameR, decide_eq_false hl]; rfl)
  have ht : ((a.length : Int) != (b.length : Int)) = true := by simp; omega
  clear hr hl
  go_enter Tryz.func183, Tryz.ntmps183
  go_wp2_with fail
  go_ret
  exact ⟨ret_bool HX.out.symm, Below.refl _ _⟩
set_option maxRecDepth 100000 in
set_option maxHeartbeats 4000000 in
theorem rsame_any (a b : List Attr) (A B : Option Addr) (c d : Nat) (w : World) (h : Sl RAttr 3 w (Lt w.heap.size) a [.slice A a.length c]) (h2 : Sl RAttr 3 w (Lt w.heap.size) b [.slice B b.length d]) (hs1 : SmallR a) (hs2 : SmallR b) :
  Calls Tryz.prog 133 #[.slice A a.length c, .slice B b.length d] w fun e w' => e = .returned (.bool (sameR a b)) ∧ Below w.heap.size w w' := by
 obtain ⟨-, hnc, hcm⟩ := h.len_
 obtain ⟨-, hnc2, hcm2⟩ := h2.len_
 unfold maxLen at hcm hcm2
 obtain ⟨r, hr⟩ : ∃ r, sameR a b = r := ⟨_, rfl⟩
 rw [hr]
 have K := hide h
 have K2 := hide h2
 have HS1 := hide hs1
 have HS2 := hide hs2
 clear h h2 hs1 hs2
 by_cases hl : a.length = b.length
 ·have H0 := hide (show r = sameZ a b ((a.zip b).drop 0) by rw [← hr, sameR, decide_eq_true hl]; rfl)
  have ht : ((a.length : Int) != (b.length : Int)) = false := by simp [hl]
  have HL := hide hl
  have hl2 : a.length ≤ b.length := by omega
  clear hr hl
  go_enter Tryz.func133, Tryz.ntmps133
  go_wp2_with fail
  clear ht
  go_loopw [13] (fun i wr => ∃ k : Nat, k ≤ a.length ∧ i = .int .i64 k ∧ Below w.heap.size w wr ∧ Hid (r = sameZ a b ((a.zip b).drop k))) (fun i _ => a.length - (intOf i).toNat)
  case atStart => exact ⟨0, by omega, rfl, Below.refl _ _, H0⟩
  case round =>
   obtain ⟨k, hk, rfl, hb, H⟩ := hrel
   by_cases hlt : k < a.length
   ·obtain ⟨b1, o1, hA, hbS, c0, c1, c2⟩ := attAt_v K.out hlt
    obtain ⟨b2, o2, hA2, hbS2, d0, d1, d2⟩ := attAt_v K2.out (i := k) (by omega)
    subst hA hA2
    have hbS' : b1 < w.heap.size := hbS
    have hbS2' : b2 < w.heap.size := hbS2
    have hx1 := HS1.out a[k] (List.getElem_mem hlt)
    have hx2 := HS2.out (b[k]'(by omega)) (List.getElem_mem _)
    have HX := hide (show r = (hasA b a[k] && hasA a (b[k]'(by omega)) && sameZ a b ((a.zip b).drop (k + 1))) by
     rw [H.out, List.drop_eq_getElem_cons (show k < (a.zip b).length by rw [List.length_zip]; omega), List.getElem_zip]; rfl)
    obtain ⟨x, hx⟩ : ∃ x, a[k] = x := ⟨_, rfl⟩
    obtain ⟨y, hy⟩ : ∃ y, b[k]'(by omega) = y := ⟨_, rfl⟩
    rw [hx] at c0 c1 c2 hx1 HX
    rw [hy] at d0 d1 d2 hx2 HX
    obtain ⟨p1, hp1⟩ : ∃ p, hasA b x = p := ⟨_, rfl⟩
    obtain ⟨p2, hp2⟩ : ∃ p, hasA a y = p := ⟨_, rfl⟩
    rw [hp1, hp2] at HX
    have HP1 := hide hp1
    have HP2 := hide hp2
    have e0 := (hb.cell (p := ⟨b1, o1 + k * 3, none⟩) hbS').trans c0
    have e1 := (hb.cell (p := ⟨b1, o1 + k * 3 + 1, none⟩) hbS').trans c1
    have e2 := (hb.cell (p := ⟨b1, o1 + k * 3 + 2, none⟩) hbS').trans c2
    have HD0 := hide d0
    have HD1 := hide d1
    have HD2 := hide d2
    have HKa := hide ((Sl.ok RAttr.ok).below K2.out hb)
    have HX1 := hide hx1
    have HX2 := hide hx2
    have HB := hide hb
    have hkb : k < b.length := by omega
    clear c0 c1 c2 d0 d1 d2 hx hy hp1 hp2 hx1 hx2 hb
    go_wp2_with fail
    refine (rhas_any b x _ _ _ HKa.out HS2.out HX1.out).mono ?_
    rintro e w5 ⟨rfl, hb5⟩
    rw [HP1.out]
    have HB5 := hide (HB.out.trans (hb5.mono HB.out.size))
    have HKb := hide ((Sl.ok RAttr.ok).below K.out HB5.out)
    have f0 := (HB5.out.cell (p := ⟨b2, o2 + k * 3, none⟩) hbS2').trans HD0.out
    have f1 := (HB5.out.cell (p := ⟨b2, o2 + k * 3 + 1, none⟩) hbS2').trans HD1.out
    have f2 := (HB5.out.cell (p := ⟨b2, o2 + k * 3 + 2, none⟩) hbS2').trans HD2.out
    clear hb5 e0 e1 e2
    cases p1
    ·have HY := hide (show r = false by rw [HX.out]; rfl)
     go_wp2_with fail
     go_ret
     exact ⟨ret_bool HY.out.symm, HB5.out⟩
    ·go_wp2_with fail
     refine (rhas_any a y _ _ _ HKb.out HS1.out HX2.out).mono ?_
     rintro e w6 ⟨rfl, hb6⟩
     rw [HP2.out]
     have HB6 := hide (HB5.out.trans (hb6.mono HB5.out.size))
     clear hb6 f0 f1 f2
     cases p2
     ·have HY := hide (show r = false by rw [HX.out]; rfl)
      go_wp2_with fail
      go_ret
      exact ⟨ret_bool HY.out.symm, HB6.out⟩
     ·have HY := hide (show r = sameZ a b ((a.zip b).drop (k + 1)) by rw [HX.out]; rfl)
      go_wp2_with fail
      go_roundw
      case rel => exact ⟨k + 1, by omega, by go_num, HB6.out, HY⟩
      case measure => simp [intOf]; omega
   ·have HX := hide (show r = true by rw [H.out, List.drop_of_length_le (by rw [List.length_zip]; omega)]; rfl)
    go_wp2_with fail
    go_ret
    exact ⟨ret_bool HX.out.symm, hb⟩
 ·have HX := hide (show r = false by rw [← hr, sameR, decide_eq_false hl]; rfl)
  have ht : ((a.length : Int) != (b.length : Int)) = true := by simp; omega
  clear hr hl
  go_enter Tryz.func133, Tryz.ntmps133
  go_wp2_with fail
  go_ret
  exact ⟨ret_bool HX.out.symm, Below.refl _ _⟩
end Go.Proofs.YtmgnihmjjijdoaaGreatDoor
namespace Go.Proofs.YtmgnihmjjijdoaaGreatDoor
open Go.RowKit
theorem splitC_noneH (c : UInt8) : ∀ l : List UInt8, (∀ x ∈ l, x ≠ c) → splitC c l = [l]
  | [], _ => rfl
  | x :: r, h => by
    have ih := splitC_noneH c r (fun y hy => h y (by simp [hy]))
    rw [splitC, if_neg (h x (by simp)), ih]
theorem splitC_hit (c : UInt8) : ∀ l r : List UInt8, (∀ x ∈ l, x ≠ c) → splitC c (l ++ c :: r) = l :: splitC c r
  | [], r, _ => by rw [List.nil_append, splitC, if_pos rfl]
  | x :: l, r, h => by
    have ih := splitC_hit c l r (fun y hy => h y (by simp [hy]))
    rw [List.cons_append, splitC, if_neg (h x (by simp)), ih]
def SpSt (s : List UInt8) (c : UInt8) (out : List (List UInt8)) (at_ i : Nat) : Prop :=
 (i ≤ s.length ∧ at_ ≤ i ∧ out ++ splitC c (s.drop at_) = splitC c s ∧ ∀ x ∈ (s.drop at_).take (i - at_), x ≠ c) ∨ (i = s.length + 1 ∧ at_ = i ∧ out = splitC c s)
theorem SpSt.start (s : List UInt8) (c : UInt8) : SpSt s c [] 0 0 := .inl ⟨by omega, by omega, by simp, by simp⟩
theorem SpSt.bd {s : List UInt8} {c : UInt8} {out : List (List UInt8)} {at_ i : Nat} (h : SpSt s c out at_ i) : i ≤ s.length + 1 ∧ at_ ≤ i := by
 rcases h with ⟨h1, h2, _⟩ | ⟨h1, h2, _⟩ <;> omega
theorem SpSt.done {s : List UInt8} {c : UInt8} {out : List (List UInt8)} {at_ i : Nat} (h : SpSt s c out at_ i) (hi : s.length < i) : out = splitC c s := by
 rcases h with ⟨h1, _⟩ | ⟨_, _, h⟩
 ·omega
 ·exact h
theorem SpSt.end_ {s : List UInt8} {c : UInt8} {out : List (List UInt8)} {at_ : Nat} (h : SpSt s c out at_ s.length) : SpSt s c (out ++ [(s.take s.length).drop at_]) (s.length + 1) (s.length + 1) := by
 rcases h with ⟨h1, h2, h3, h4⟩ | ⟨h1, _⟩
 ·refine .inr ⟨rfl, rfl, ?_⟩
  rw [List.take_of_length_le (by rw [List.length_drop]; omega)] at h4
  rw [← h3, splitC_noneH c _ h4, List.take_of_length_le (Nat.le_refl _)]
 ·omega
theorem drop_cut {s : List UInt8} {a i : Nat} (h : i < s.length) (ha : a ≤ i) : s.drop a = (s.take i).drop a ++ s[i] :: s.drop (i + 1) := by
 have h1 : s = s.take i ++ s[i] :: s.drop (i + 1) := by rw [← List.drop_eq_getElem_cons h, List.take_append_drop]
 conv => lhs; rw [h1]
 rw [List.drop_append_of_le_length (by rw [List.length_take]; omega)]
theorem take_cut {s : List UInt8} {a i : Nat} (_h : i ≤ s.length) (ha : a ≤ i) : (s.drop a).take (i - a) = (s.take i).drop a := by
 rw [List.take_drop, show a + (i - a) = i by omega]
theorem SpSt.hit {s : List UInt8} {c : UInt8} {out : List (List UInt8)} {at_ i : Nat} (h : SpSt s c out at_ i) (hi : i < s.length) (hc : s[i] = c) : SpSt s c (out ++ [(s.take i).drop at_]) (i + 1) (i + 1) := by
 rcases h with ⟨h1, h2, h3, h4⟩ | ⟨h1, _⟩
 ·refine .inl ⟨by omega, by omega, ?_, by simp⟩
  rw [take_cut h1 h2] at h4
  rw [drop_cut hi h2, hc, splitC_hit c _ _ h4] at h3
  rw [← h3]; simp
 ·omega
theorem SpSt.go {s : List UInt8} {c : UInt8} {out : List (List UInt8)} {at_ i : Nat} (h : SpSt s c out at_ i) (hi : i < s.length) (hc : s[i] ≠ c) : SpSt s c out at_ (i + 1) := by
 rcases h with ⟨h1, h2, h3, h4⟩ | ⟨h1, _⟩
 ·refine .inl ⟨by omega, by omega, h3, ?_⟩
  rw [take_cut h1 h2] at h4
  rw [take_cut (by omega) (by omega), List.take_succ_eq_append_getElem hi, List.drop_append_of_le_length (by rw [List.length_take]; omega)]
  intro x hx
  rcases List.mem_append.1 hx with hx | hx
  ·exact h4 x hx
  ·simp at hx; subst hx; exact hc
 ·omega
theorem SpSt.len {s : List UInt8} {c : UInt8} {out : List (List UInt8)} {at_ i : Nat} (h : SpSt s c out at_ i) : out.length ≤ s.length + 1 := by
 have := splitC_len c s
 rcases h with ⟨_, _, h3, _⟩ | ⟨_, _, h3⟩
 ·rw [← h3, List.length_append] at this; omega
 ·rw [h3]; exact this
theorem news_strH (w : World) (S : Nat → Prop) (t : TypeId) (x : ByteArray) :
  ∀ i y, [x.data.toList][i]? = some y → ∃ cs, RStr (w.alloc (.cells #[.string x] t)) S y cs ∧ ∀ j u, cs[j]? = some u → (w.alloc (.cells #[.string x] t)).cell? ((⟨w.heap.size, 0, none⟩ : Addr).add (i * 1 + j)) = some u :=
 news_pu (f := strC) (size := 1) (fun _ => rfl) w S #[.string x] t [x.data.toList] rfl
theorem info_strH : (Tryz.prog.info? 9).map (fun i => (i.zero, i.size, i.bytes)) = some (some (.string ⟨#[]⟩), 1, 16) := by kernel_rfl
set_option maxRecDepth 100000 in
set_option maxHeartbeats 4000000 in
theorem rSplit_any (s : ByteArray) (hs : s.size ≤ 1000000) (c : UInt8) (w : World) :
  Calls Tryz.prog 79 #[.string s, .int .u8 (c.toNat : Int)] w fun e w' => ∃ v, e = .returned v ∧ Below w.heap.size w w' ∧ Sl RStr 1 w' (Btw w.heap.size w'.heap.size) (splitC c s.data.toList) [v] := by
 have hss := size_string s
 go_enter Tryz.func79, Tryz.ntmps79
 go_wp2_with fail
 go_loopw [5, 6, 7] (fun x5 x6 x7 wr => ∃ (at_ i : Nat) (out : List (List UInt8)) (vv : Value), SpSt s.data.toList c out at_ i ∧ vv = x5 ∧ x6 = .int .i64 at_ ∧ x7 = .int .i64 i ∧ Own RStr 1 9 wr w.heap.size No vv out ∧ Below w.heap.size w wr ∧ w.heap.size ≤ wr.heap.size) (fun _ _ i _ => s.size + 1 - (intOf i).toNat)
 case atStart => exact ⟨0, 0, [], _, SpSt.start _ _, rfl, rfl, rfl, Own.nil _ _ _ _ _ _, Below.refl _ _, Nat.le_refl _⟩
 case round =>
  obtain ⟨at_, i, out, vv, hst, rfl, rfl, rfl, hown, hb, hbz⟩ := hrel
  have hbd := hst.bd
  rw [hss] at hbd
  obtain ⟨hi1, hai⟩ := hbd
  have hol := hst.len
  rw [hss] at hol
  have HOWN := hide hown
  have HB := hide hb
  clear hown hb
  by_cases hil : i ≤ s.size
  ·by_cases hlt : i < s.size
   ·by_cases hc : s[i] = c
    ·have t1 : ((i : Int) == (s.size : Int)) = false := by rw [beq_eq_false_iff_ne]; omega
     have t2 : ((s[i].toNat : Int) == (c.toNat : Int)) = true := by rw [hc]; simp
     have HCI := hide hc
     clear hc
     have hxs := hst.hit (by rw [hss]; exact hlt) HCI.out
     obtain ⟨x, hx⟩ : ∃ x, x = s.extract at_ i := ⟨_, rfl⟩
     have HXS := hide (show SpSt s.data.toList c (out ++ [x.data.toList]) (i + 1) (i + 1) by rw [hx, Lib.extract_data, take_cut (by rw [hss]; exact hil) hai]; exact hxs)
     have hsl : ∀ W : World, (Instr.slice 9 (.string s) (some (.int .i64 (at_ : Int))) (some (.int .i64 (i : Int))) none).run Tryz.prog W = .ok (.string x) W := by
      rw [hx]
      exact slice_str 9 Tryz.underlying9 s at_ i at_ i rfl rfl hai hil
     clear hx hxs
     go_wp2_with (at_builtin; refine wpList_app RStr.ok _ rfl (.tmp 25) (.tmp 30) 38 rfl w.heap.size 9 (.string ⟨#[]⟩) 16 Tryz.underlying38 info_strH rfl (by decide) No _ out rfl (HOWN.out.alloc RStr.ok (no_lt _) _) ⟨_, 0, none⟩ 1 1 [x.data.toList] rfl rfl (news_strH _ _ _ x) (no_lt _) (by simp; omega) (by simp [maxLen]; omega) (by simp; omega) ?_; intro v7 w7 hown7 hg7 hb7 hat7; have hsz7 := hb7.size; simp at hsz7)
     go_roundw
     case rel => exact ⟨i + 1, i + 1, _, _, HXS.out, rfl, by go_num, by go_num, hown7, (HB.out.alloc hbz _).trans hb7, by omega⟩
     case measure => simp [intOf]; omega
    ·have t1 : ((i : Int) == (s.size : Int)) = false := by rw [beq_eq_false_iff_ne]; omega
     have t2 : ((s[i].toNat : Int) == (c.toNat : Int)) = false := by rw [byte_beq']; simpa using hc
     have HST := hide (hst.go (by rw [hss]; exact hlt) hc)
     clear hc
     go_wp2_with fail
     go_roundw
     case rel => exact ⟨at_, i + 1, out, _, HST.out, rfl, rfl, by go_num, HOWN.out, HB.out, hbz⟩
     case measure => simp [intOf]; omega
   ·have hie : i = s.size := by omega
    have t1 : ((i : Int) == (s.size : Int)) = true := by rw [hie]; simp
    have HST := hide (show SpSt s.data.toList c (out ++ [(s.data.toList.take i).drop at_]) (i + 1) (i + 1) by
     have h9 : SpSt s.data.toList c out at_ s.data.toList.length := by rw [hss, ← hie]; exact hst
     have := h9.end_
     rwa [hss, ← hie] at this)
    clear hie
    have hxs := HST.out
    obtain ⟨x, hx⟩ : ∃ x, x = s.extract at_ i := ⟨_, rfl⟩
    have HXS := hide (show SpSt s.data.toList c (out ++ [x.data.toList]) (i + 1) (i + 1) by rw [hx, Lib.extract_data, take_cut (by rw [hss]; exact hil) hai]; exact hxs)
    have hsl : ∀ W : World, (Instr.slice 9 (.string s) (some (.int .i64 (at_ : Int))) (some (.int .i64 (i : Int))) none).run Tryz.prog W = .ok (.string x) W := by
     rw [hx]
     exact slice_str 9 Tryz.underlying9 s at_ i at_ i rfl rfl hai hil
    clear hx hxs
    go_wp2_with (at_builtin; refine wpList_app RStr.ok _ rfl (.tmp 25) (.tmp 30) 38 rfl w.heap.size 9 (.string ⟨#[]⟩) 16 Tryz.underlying38 info_strH rfl (by decide) No _ out rfl (HOWN.out.alloc RStr.ok (no_lt _) _) ⟨_, 0, none⟩ 1 1 [x.data.toList] rfl rfl (news_strH _ _ _ x) (no_lt _) (by simp; omega) (by simp [maxLen]; omega) (by simp; omega) ?_; intro v7 w7 hown7 hg7 hb7 hat7; have hsz7 := hb7.size; simp at hsz7)
    go_roundw
    case rel => exact ⟨i + 1, i + 1, _, _, HXS.out, rfl, by go_num, by go_num, hown7, (HB.out.alloc hbz _).trans hb7, by omega⟩
    case measure => simp [intOf]; omega
  ·have HD := hide (hst.done (by rw [hss]; omega))
   have hslS := HOWN.out.sl RStr.ok
   obtain ⟨A, cc, hv⟩ := hslS.shape
   subst hv
   have HSL := hide hslS
   clear hslS
   go_wp2_with fail
   go_ret
   exact ⟨_, rfl, HB.out, by rw [← HD.out]; exact (Sl.ok RStr.ok).mono HSL.out (fun _ _ => rfl) (fun k hk => by rcases hk with hk | hk; exact hk.elim; exact hk)⟩
end Go.Proofs.YtmgnihmjjijdoaaGreatDoor
namespace Go.Proofs.YtmgnihmjjijdoaaGreatDoor
open Go.RowKit
def StrPost (d N : Nat) (w : World) (e : Ending) (w' : World) : Prop := ∃ y : ByteArray, y.size ≤ N ∧ e = .returned (.string y) ∧ DeckAt w' d ∧ Ex d w w'
theorem slice_size_to (s : ByteArray) (k : Nat) (h : k ≤ s.size) : (s.extract 0 k).size = k := by rw [ba_size_ex _ _ _ h]; omega
theorem slice_size_from (s : ByteArray) (k : Nat) : (s.extract k s.size).size = s.size - k := ba_size_ex _ _ _ (Nat.le_refl _)
theorem StrPost.mono {d N M : Nat} {w : World} {e : Ending} {w' : World} (h : StrPost d N w e w') (hN : N ≤ M) : StrPost d M w e w' := by
 obtain ⟨y, h1, h2⟩ := h
 exact ⟨y, by omega, h2⟩
theorem andN31 (b : Nat) (h : b < 256) : bits .andNot .i64 (b : Int) 31 = ((b / 32 * 32 : Nat) : Int) := by
 have h : ∀ n : Fin 256, bits .andNot .i64 ((n.1 : Nat) : Int) 31 = ((n.1 / 32 * 32 : Nat) : Int) := by decide +kernel
 exact h ⟨b, by omega⟩
theorem and224 (b : Nat) (h : b < 256) : bits .and .i64 (b : Int) 224 = ((b / 32 * 32 : Nat) : Int) := by
 have h : ∀ n : Fin 256, bits .and .i64 ((n.1 : Nat) : Int) 224 = ((n.1 / 32 * 32 : Nat) : Int) := by decide +kernel
 exact h ⟨b, by omega⟩
end Go.Proofs.YtmgnihmjjijdoaaGreatDoor
