/- The functions of package dname: Parse. -/
import Derived.Test.YtmgnihmjjijdoaaGreatDoorGNamD
import Derived.Test.YtmgnihmjjijdoaaGreatDoorGLibD
namespace Go.Proofs.YtmgnihmjjijdoaaGreatDoor
open Go.RowKit
theorem info_rdn : (Tryz.prog.info? 82).map (fun i => (i.zero, i.size, i.bytes)) = some (some (.slice none 0 0), 1, 24) := by kernel_rfl
theorem info_att : (Tryz.prog.info? 84).map (fun i => (i.zero, i.size, i.bytes)) = some (some (.agg #[.string ⟨#[]⟩, .int .i64 0, .string ⟨#[]⟩]), 3, 40) := by kernel_rfl
def NB (g : Nat) (v : Value) (W : World) : Prop := W.heap[g]? = some (.cells #[v] 24 (0, 0))
theorem NB.facts {g : Nat} {v : Value} {W : World} (h : NB g v W) : W.cell? ⟨g, 0, none⟩ = some v ∧ W.frozen? ⟨g, 0, none⟩ = false := by
 unfold NB at h
 simp [World.cell?, World.frozen?, h]
theorem NB.lt {g : Nat} {v : Value} {W : World} (h : NB g v W) : g < W.heap.size := (Array.getElem?_eq_some_iff.1 h).1
theorem NB.below {g : Nat} {v : Value} {W W' : World} (h : NB g v W) (hb : Below W.heap.size W W') : NB g v W' := (hb.block g h.lt).trans h
theorem NB.other {g g' j : Nat} {v u : Value} {W : World} (h : NB g v W) (hne : g ≠ g') : NB g v (W.setCell ⟨g', j, none⟩ u) := (Below.heap_setCell W ⟨g', j, none⟩ u g hne).trans h
theorem NB.store {g : Nat} {v : Value} {W : World} (h : NB g v W) (u : Value) : NB g u (W.setCell ⟨g, 0, none⟩ u) := by
 unfold NB at *
 simp [World.setCell, Array.getElem?_modify, h]
theorem Own.other {α : Type} {R : Rep α} {size : Nat} {e : TypeId} {w : World} {base : Nat} {S : Nat → Prop} {v : Value} {l : List α} (hR : RepOk R size) (h : Own R size e w base S v l) (hS : ∀ k, S k → base ≤ k) {g j : Nat} (hg : g < base) (u : Value) :
  Own R size e (w.setCell ⟨g, j, none⟩ u) base S v l :=
 Own.keep hR h (fun k hk => Below.heap_setCell w _ u k (by have := (h.lt k hk).1; show k ≠ g; omega)) (fun k hk => Below.heap_setCell w _ u k (by have := hS k hk; show k ≠ g; omega)) (fun _ hk => hk) (by obtain ⟨_, _, h2, _⟩ := h; exact h2)
theorem Ex.then_base {d : Nat} {a b c : World} (h : Ex d a b) (k : Below a.heap.size b c) : Ex d a c :=
 ⟨k.os.trans h.os, k.tape.trans h.tape, k.output.trans h.output, Nat.le_trans h.size k.size, fun j hj hne => (k.block j hj).trans (h.block j hj hne)⟩
theorem news_one {α : Type} {R : Rep α} {w : World} {S : Nat → Prop} {x : Value} {y : α} {t : TypeId} (h : R (w.alloc (.cells #[x] t)) S y [x]) :
    ∀ i z, [y][i]? = some z → ∃ cs, R (w.alloc (.cells #[x] t)) S z cs ∧ ∀ j u, cs[j]? = some u → (w.alloc (.cells #[x] t)).cell? ((⟨w.heap.size, 0, none⟩ : Addr).add (i * 1 + j)) = some u := by
  intro i z hz
  match i, hz with
  | 0, hz =>
    simp at hz; subst hz
    refine ⟨[x], h, fun j u hu => ?_⟩
    match j, hu with
    | 0, hu =>
      simp at hu; subst hu
      rw [Addr.add_lit, World.cell?_alloc_new]; rfl
theorem news_att (w : World) (S : Nat → Prop) (t : TypeId) (a : Attr) :
  ∀ i y, [a][i]? = some y → ∃ cs, RAttr (w.alloc (.cells #[.string ⟨a.1.toArray⟩, .int .i64 a.2.1, .string ⟨a.2.2.toArray⟩] t)) S y cs ∧ ∀ j u, cs[j]? = some u → (w.alloc (.cells #[.string ⟨a.1.toArray⟩, .int .i64 a.2.1, .string ⟨a.2.2.toArray⟩] t)).cell? ((⟨w.heap.size, 0, none⟩ : Addr).add (i * 3 + j)) = some u :=
 news_pu (f := attC) (size := 3) (fun _ => rfl) w S #[.string ⟨a.1.toArray⟩, .int .i64 a.2.1, .string ⟨a.2.2.toArray⟩] t [a] rfl
theorem news_att2 (w : World) (ob : Obj) (S : Nat → Prop) (t : TypeId) (a : Attr) :
  ∀ i y, [a][i]? = some y → ∃ cs, RAttr ((w.alloc ob).alloc (.cells #[.string ⟨a.1.toArray⟩, .int .i64 a.2.1, .string ⟨a.2.2.toArray⟩] t)) S y cs ∧ ∀ j u, cs[j]? = some u → ((w.alloc ob).alloc (.cells #[.string ⟨a.1.toArray⟩, .int .i64 a.2.1, .string ⟨a.2.2.toArray⟩] t)).cell? ((⟨w.heap.size + 1, 0, none⟩ : Addr).add (i * 3 + j)) = some u := by
 have := news_att (w.alloc ob) S t a
 rw [World.size_alloc] at this
 exact this
theorem split_v (s : ByteArray) (hs : s.size ≤ 1000000) (c : UInt8) (w : World) (hmx : Mx w) :
  Calls Tryz.prog 73 #[.string s, .string ⟨#[c]⟩] w fun e w' => e = .returned (.slice (some ⟨w.heap.size, 0, none⟩) (splitC c s.data.toList).length (splitC c s.data.toList).length) ∧ Below w.heap.size w w' ∧ w'.heap.size = w.heap.size + 1 ∧
   Sl RStr 1 w' (Lt w'.heap.size) (splitC c s.data.toList) [.slice (some ⟨w.heap.size, 0, none⟩) (splitC c s.data.toList).length (splitC c s.data.toList).length] := by
 obtain ⟨m, hm⟩ := hmx
 refine (Tryz.strings_Split s ⟨#[c]⟩ m w (by omega) hm (Nat.le_refl 1)).mono fun e w' ⟨he, hw⟩ => ?_
 have hl := splitB_len c s
 have hc := splitB_C c s
 have hl2 : (splitC c s.data.toList).length = Lib.countB s ⟨#[c]⟩ + 1 := by rw [← hc, List.length_map, hl]
 have hcl := splitC_len c s.data.toList
 rw [size_string] at hcl
 refine ⟨by rw [he, hl2], by rw [hw]; exact (Below.refl _ _).alloc (Nat.le_refl _) _, by rw [hw]; simp, ?_⟩
 rw [hw]
 refine sl_new (f := strC) (size := 1) (fun _ => rfl) w _ _ _ ?_ (by unfold maxLen; omega)
 rw [← hc]
 show (List.map Value.string _) = _
 generalize Lib.splitB ⟨#[c]⟩ 0 (Lib.countB s ⟨#[c]⟩) s = L
 induction L with
 | nil => rfl
 | cons x L ih => rw [List.map_cons, List.map_cons, List.flatMap_cons, ← ih]; rfl
def parseRs : List (List UInt8) → Option (List Attr)
 | [] => some []
 | p :: ps => (parseA p).bind fun a => (parseRs ps).map (a :: ·)
def parseNs : List (List UInt8) → Option Name
 | [] => some []
 | p :: ps => (parseRs (splitC 43 p)).bind fun r => (parseNs ps).map (r :: ·)
def parseF : Option Name → Int × Name
 | none => (32, [])
 | some n => if chkN n = 0 then (0, n) else (chkN n, [])
def parseP (s : List UInt8) : Int × Name := if s = [] then (0, []) else parseF (parseNs (splitC 44 s))
theorem parseA_small {s : List UInt8} {a : Attr} (h : parseA s = some a) (hs : s.length ≤ 100000) : SmallA a := by
 obtain ⟨h1, h2⟩ := cut_len s
 unfold parseA at h
 split at h
 ·cases h
 ·obtain ⟨v, hv, h3⟩ := Option.bind_eq_some_iff.1 h
  split at h3
  ·cases h3
   refine ⟨Nat.le_trans (shortL_len shortTab _ (by decide) (by omega)) (by decide), ?_⟩
   have := unesc_len hv
   show v.length ≤ 131072
   omega
  ·cases h3
def ParsePostB (w : World) (p : Int × Name) (e : Ending) (w' : World) : Prop :=
 ∃ v, e = .returned (.tuple #[.agg #[v], .int .i64 p.1]) ∧ Sl RRdn 1 w' (Btw w.heap.size w'.heap.size) p.2 [v] ∧ Below w.heap.size w w' ∧ SmallN p.2
end Go.Proofs.YtmgnihmjjijdoaaGreatDoor
namespace Go.Proofs.YtmgnihmjjijdoaaGreatDoor
open Go.RowKit
theorem indexByte_skip : ∀ (p r : List UInt8), (∀ x ∈ p, x ≠ 61) → Lib.indexByte (p ++ 61 :: r) 61 = (p.length : Int)
  | [], r, _ => by simpa using indexByte_hit 61 r
  | x :: p, r, h => by
    have ih := indexByte_skip p r (fun y hy => h y (by simp [hy]))
    rw [List.cons_append, indexByte_go (h x (by simp)) (by rw [ih]; omega), ih]
    simp
theorem indexByte_none : ∀ (p : List UInt8), (∀ x ∈ p, x ≠ 61) → Lib.indexByte p 61 = -1
 | [], _ => rfl
 | x :: p, h => indexByte_no (h x (by simp)) (indexByte_none p (fun y hy => h y (by simp [hy])))
theorem cutL_hit (p r : List UInt8) (h : ∀ x ∈ p, x ≠ 61) : cutL (p ++ 61 :: r) = (p, r, true) := by
 unfold cutL Lib.cut
 rw [Lib.index_one, indexByte_skip p r h, if_pos (by omega)]
 simp
theorem cutL_none (p : List UInt8) (h : ∀ x ∈ p, x ≠ 61) : (cutL p).2.2 = false := by
 unfold cutL Lib.cut
 rw [Lib.index_one, indexByte_none p h, if_neg (by omega)]
def rshL : List Short → List UInt8 → List UInt8
 | [], id => id
 | p :: r, id => rshL r (if p.1 = id then p.2 else id)
theorem rsh_eq (id : List UInt8) : rshL shortTab id = shortL shortTab id := by
 by_cases h : ∃ p ∈ shortTab, p.1 = id
 ·obtain ⟨p, hp, rfl⟩ := h
  revert p
  decide
 ·have hn : ∀ p ∈ shortTab, p.1 ≠ id := fun p hp e => h ⟨p, hp, e⟩
  have h1 : ∀ l : List Short, (∀ p ∈ l, p.1 ≠ id) → rshL l id = id := by
   intro l
   induction l with
   | nil => intro _; rfl
   | cons p r ih => intro hl; rw [rshL, if_neg (hl p (by simp)), ih (fun q hq => hl q (by simp [hq]))]
  have h2 : ∀ l : List Short, (∀ p ∈ l, p.1 ≠ id) → shortL l id = id := by
   intro l
   induction l with
   | nil => intro _; rfl
   | cons p r ih => intro hl; rw [shortL, if_neg (hl p (by simp)), ih (fun q hq => hl q (by simp [hq]))]
  rw [h1 _ hn, h2 _ hn]
def shortF : List (List UInt8) := shortTab.flatMap fun p => [p.1, p.2]
theorem shortF_at : ∀ i, i < 7 → shortF[2 * i]? = some (shortTab.getD i ([], [])).1 ∧ shortF[2 * i + 1]? = some (shortTab.getD i ([], [])).2 := by decide
theorem shortTab_drop : ∀ i, i < 7 → shortTab.drop i = shortTab.getD i ([], []) :: shortTab.drop (i + 1) := by decide
theorem shortTab_len : ∀ i, i < 7 → (shortTab.getD i ([], [])).1.length ≤ 100 ∧ (shortTab.getD i ([], [])).2.length ≤ 100 := by decide
set_option maxHeartbeats 1000000 in
theorem rshort_any (w : World) : Calls Tryz.prog 71 #[] w fun e w' => ∃ g, e = .returned (.slice (some ⟨g, 0, none⟩) 14 14) ∧ g = w.heap.size ∧ Below w.heap.size w w' ∧ w'.heap.size = w.heap.size + 1 ∧ Sl RStr 1 w' (Lt w'.heap.size) shortF [.slice (some ⟨g, 0, none⟩) 14 14] := by
 have hs := fun C t (h : C.toList = shortF.flatMap strC) => sl_new (f := strC) (size := 1) (fun _ => rfl) w C t shortF h (by simp [shortF, shortTab, maxLen])
 have HS := hide hs
 clear hs
 go_enter Tryz.func71, Tryz.ntmps71
 go_wp2_with fail
 go_ret
 exact ⟨_, rfl, rfl, (Below.refl _ _).alloc (Nat.le_refl _) _, by simp, HS.out _ _ rfl⟩
theorem runesc_v (s : ByteArray) (hs : s.size ≤ 1000000) (w : World) :
  Calls Tryz.prog 41 #[.string s] w fun e w' => e = .returned (optR (unesc s.data.toList)) ∧ Below w.heap.size w w' :=
 (rUnescape_any s hs w).mono fun _ _ ⟨he, hb⟩ => ⟨by rw [he, unesc_eq], hb⟩
theorem rparse_none {q : List UInt8} (h : ∀ x ∈ q, x ≠ 61) : parseA q = none := by
 unfold parseA
 rw [if_pos (cutL_none q h)]
theorem rparse_hit {p r : List UInt8} (h : ∀ x ∈ p, x ≠ 61) : parseA (p ++ 61 :: r) = (unesc r).bind fun v => if validB (rshL shortTab p) = true then some (rshL shortTab p, kindA (rshL shortTab p) v, v) else none := by
 unfold parseA
 rw [cutL_hit p r h, if_neg (by simp), rsh_eq]
end Go.Proofs.YtmgnihmjjijdoaaGreatDoor
namespace Go.Proofs.YtmgnihmjjijdoaaGreatDoor
open Go.RowKit
def attTab : List Attr := [([50, 46, 53, 46, 52, 46, 51], 12, [65, 110, 110]), ([50, 46, 53, 46, 52, 46, 51], 19, [32, 97, 110, 110]), ([50, 46, 53, 46, 52, 46, 51], 12, [103, 114, 195, 182, 195, 159, 101]), ([50, 46, 53, 46, 52, 46, 54], 19, [85, 83]), ([50, 46, 53, 46, 52, 46, 49, 48], 19, [69, 120, 97, 109, 112, 108, 101, 32, 32, 67, 111, 114, 112]), ([50, 46, 53, 46, 52, 46, 49, 48], 12, [101, 120, 97, 109, 112, 108, 101, 32, 99, 111, 114, 112]), ([50, 46, 53, 46, 52, 46, 49, 49], 22, [97, 44, 98, 43, 99, 61, 100, 92, 101]), ([48, 46, 57, 46, 50, 51, 52, 50, 46, 49, 57, 50, 48, 48, 51, 48, 48, 46, 49, 48, 48, 46, 49, 46, 50, 53], 22, [111, 114, 103]), ([49, 46, 50, 46, 56, 52, 48, 46, 49, 49, 51, 53, 52, 57, 46, 49, 46, 57, 46, 49], 22, [97, 110, 110, 64, 101, 120, 97, 109, 112, 108, 101, 46, 111, 114, 103]), ([49, 46, 50, 46, 56, 52, 48, 46, 49, 49, 51, 53, 52, 57, 46, 49, 46, 57, 46, 49], 22, [110, 111, 32, 97, 100, 100, 114, 101, 115, 115]), ([50, 46, 53, 46, 52, 46, 57, 57], 19, [120]), ([50, 46, 53, 46, 52, 46, 55], 12, [76])]
def attAt (m : Nat) : Attr := attTab.getD m ([], 0, [])
theorem attAt_mem (m : Nat) (h : m < 12) : attAt m ∈ attTab := by
 unfold attAt
 rw [List.getD_eq_getElem?_getD, List.getElem?_eq_getElem (show m < attTab.length from h)]
 exact List.getElem_mem _
def GoodR (r : List Attr) : Prop := (∃ a ∈ attTab, r = [a]) ∨ ∃ a ∈ attTab, ∃ b ∈ attTab, r = [a, b] ∧ a.1 ≠ b.1
def GoodN (n : Name) : Prop := n.length ≤ 3 ∧ ∀ r ∈ n, GoodR r
def BndA (B : Nat) (a : Attr) : Prop := a.1.length ≤ 1000 ∧ a.2.2.length ≤ B
def BndR (B : Nat) (r : List Attr) : Prop := r.length ≤ 10 ∧ ∀ a ∈ r, BndA B a
def BndN (B : Nat) (n : Name) : Prop := n.length ≤ 10 ∧ ∀ r ∈ n, BndR B r
theorem BndN.small {B : Nat} {n : Name} (h : BndN B n) (hB : B ≤ 100000) : SmallN n := fun r hr a ha => by
 obtain ⟨h1, h2⟩ := (h.2 r hr).2 a ha
 exact ⟨by omega, by omega⟩
theorem attTab_bnd : ∀ a ∈ attTab, BndA 15 a := by
 unfold BndA
 decide
theorem GoodR.bnd {r : List Attr} (h : GoodR r) : BndR 15 r := by
 rcases h with ⟨a, ha, rfl⟩ | ⟨a, ha, b, hb, rfl, _⟩
 ·exact ⟨by simp, fun x hx => by simp at hx; subst hx; exact attTab_bnd x ha⟩
 ·refine ⟨by simp, fun x hx => ?_⟩
  simp only [List.mem_cons, List.not_mem_nil, or_false] at hx
  rcases hx with rfl | rfl
  ·exact attTab_bnd x ha
  ·exact attTab_bnd x hb
theorem GoodN.bnd {n : Name} (h : GoodN n) : BndN 15 n := ⟨by have := h.1; omega, fun r hr => (h.2 r hr).bnd⟩
theorem BndN.take {B k : Nat} {n : Name} (h : BndN B n) : BndN B (n.take k) :=
 ⟨by rw [List.length_take]; have := h.1; omega, fun r hr => h.2 r (List.mem_of_mem_take hr)⟩
theorem chkR_one : ∀ a ∈ attTab, chkR [a] = 0 := by decide +kernel
theorem chkR_two : ∀ a ∈ attTab, ∀ b ∈ attTab, a.1 ≠ b.1 → chkR [a, b] = 0 := by decide +kernel
theorem GoodR.chk {r : List Attr} (h : GoodR r) : chkR r = 0 := by
 rcases h with ⟨a, ha, rfl⟩ | ⟨a, ha, b, hb, rfl, hab⟩
 ·exact chkR_one a ha
 ·exact chkR_two a ha b hb hab
theorem chkRs_good : ∀ {n : Name}, (∀ r ∈ n, GoodR r) → chkRs n = 0
 | [], _ => rfl
 | r :: n, h => by rw [chkRs, if_pos (h r (by simp)).chk, chkRs_good (fun x hx => h x (by simp [hx]))]
theorem GoodN.chk {n : Name} (h : GoodN n) : chkN n = 0 := by
 have := h.1
 rw [chkN, if_neg (by omega), chkRs_good h.2]
end Go.Proofs.YtmgnihmjjijdoaaGreatDoor
namespace Go.Proofs.YtmgnihmjjijdoaaGreatDoor
open Go.RowKit
theorem NB.ex {g d : Nat} {v : Value} {W W' : World} (h : NB g v W) (hx : Ex d W W') (hd : g ≠ d) : NB g v W' := (hx.at_ h.lt hd).trans h
theorem ResAtt.ex {g d : Nat} {W W' : World} (h : ResAtt g W) (hx : Ex d W W') (hd : g ≠ d) : ResAtt g W' := (hx.at_ (Array.getElem?_eq_some_iff.1 h).1 hd).trans h
theorem att_at {d : Nat} {w w1 : World} {o : Obj} {C : Array Value} {t : TypeId} (hex : Ex d ((w.alloc o).alloc (.cells C t)) w1) (hd : d < w.heap.size) (hC : C.toList = attTab.flatMap attC) {v : Nat} (hv : v < 12) :
  w1.cell? ⟨w.heap.size + 1, v * 3, none⟩ = some (.string ⟨(attAt v).1.toArray⟩) ∧ w1.cell? ⟨w.heap.size + 1, v * 3 + 1, none⟩ = some (.int .i64 (attAt v).2.1) ∧ w1.cell? ⟨w.heap.size + 1, v * 3 + 2, none⟩ = some (.string ⟨(attAt v).2.2.toArray⟩) := by
 have hy : attTab[v]? = some (attAt v) := by
  unfold attAt
  rw [List.getD_eq_getElem?_getD, List.getElem?_eq_getElem (show v < attTab.length from hv)]; rfl
 obtain ⟨cs, h1, h2⟩ := news_pu (f := attC) (size := 3) (fun _ => rfl) (w.alloc o) No C t attTab hC v _ hy
 have hcs : cs = attC (attAt v) := h1
 subst hcs
 have key : ∀ j u, (attC (attAt v))[j]? = some u → w1.cell? ⟨w.heap.size + 1, v * 3 + j, none⟩ = some u := fun j u hu => by
  have := h2 j u hu
  rw [Addr.add_lit, Nat.zero_add, World.size_alloc] at this
  exact (hex.cell (p := ⟨w.heap.size + 1, v * 3 + j, none⟩) (by simp) (by show w.heap.size + 1 ≠ d; omega)).trans this
 exact ⟨key 0 _ rfl, key 1 _ rfl, key 2 _ rfl⟩
def AttPost (d : Nat) (w : World) (e : Ending) (w' : World) : Prop :=
 ∃ (ta va : ByteArray) (k : Int), (ta.data.toList, k, va.data.toList) ∈ attTab ∧ e = .returned (.agg #[.string ta, .int .i64 k, .string va]) ∧ DeckAt w' d ∧ Ex d w w'
set_option maxRecDepth 100000 in
set_option maxHeartbeats 4000000 in
theorem attribute_any (d : Nat) (w : World) (h : DeckAt w d) : Calls Tryz.prog 60 #[.pointer (some ⟨d, 0, none⟩)] w (AttPost d w) := by
 have hd := h.lt
 have HDK := hide (fun o1 o2 => (h.alloc o1).alloc o2)
 clear h
 go_enter Tryz.func60, Tryz.ntmps60
 go_wp2_with fail
 refine (Next_any d 12 (by omega) (by omega) _ (HDK.out _ _)).mono ?_
 rintro e w1 ⟨v, hv, rfl, hdk, hex⟩
 obtain ⟨c0, c1, c2⟩ := att_at hex hd rfl hv
 have hra : ResAtt w.heap.size w1 := ResAtt.ex (by
  unfold ResAtt
  rw [Below.heap_alloc _ _ _ (by simp)]
  exact heap_alloc_new w _) hex (by omega)
 have HX := hide (show Ex d w w1 from (((Ex.refl d w).alloc _).alloc _).trans hex)
 have HDK := hide hdk
 have HRA := hide hra
 obtain ⟨r0, r1, r2, f0, f1, f2⟩ := hra.facts
 have HM := hide (attAt_mem v hv)
 obtain ⟨a, ha⟩ : ∃ a, attAt v = a := ⟨_, rfl⟩
 rw [ha] at c0 c1 c2 HM
 obtain ⟨ta, hta⟩ : ∃ ta : ByteArray, ta = ⟨a.1.toArray⟩ := ⟨_, rfl⟩
 obtain ⟨va, hva⟩ : ∃ va : ByteArray, va = ⟨a.2.2.toArray⟩ := ⟨_, rfl⟩
 obtain ⟨k, hk⟩ : ∃ k, a.2.1 = k := ⟨_, rfl⟩
 rw [← hta] at c0
 rw [hk] at c1
 rw [← hva] at c2
 have HE := hide (show (ta.data.toList, k, va.data.toList) ∈ attTab by rw [hta, hva, ← hk]; exact HM.out)
 have hv1 : (v : Int) < 12 := by omega
 have hv0 : (0 : Int) ≤ (v : Int) := by omega
 clear hex hdk hra ha hta hva hk
 go_wp2_with fail
 obtain ⟨q0, q1, q2⟩ := HRA.out.store (.string ta) (.int .i64 k) (.string va)
 have hx3 := ((HX.out.setNew (g := w.heap.size) (j := 0) (Nat.le_refl _) (.string ta)).setNew (g := w.heap.size) (j := 1) (Nat.le_refl _) (.int .i64 k)).setNew (g := w.heap.size) (j := 2) (Nat.le_refl _) (.string va)
 have hd3 := ((HDK.out.set_ (g := w.heap.size) (j := 0) hd (.string ta)).set_ (g := w.heap.size) (j := 1) hd (.int .i64 k)).set_ (g := w.heap.size) (j := 2) hd (.string va)
 obtain ⟨W3, hW3⟩ : ∃ W3, W3 = ((w1.setCell ⟨w.heap.size, 0, none⟩ (.string ta)).setCell ⟨w.heap.size, 1, none⟩ (.int .i64 k)).setCell ⟨w.heap.size, 2, none⟩ (.string va) := ⟨_, rfl⟩
 rw [← hW3] at q0 q1 q2 hx3 hd3 ⊢
 exact bodyPost_ret (v := .agg #[.string ta, .int .i64 k, .string va]) (by simp [results, Tryz.results60, go_sem, q0, q1, q2]) rfl ⟨ta, va, k, HE.out, rfl, hd3, hx3⟩
end Go.Proofs.YtmgnihmjjijdoaaGreatDoor
namespace Go.Proofs.YtmgnihmjjijdoaaGreatDoor
open Go.RowKit
set_option maxRecDepth 100000 in
set_option maxHeartbeats 16000000 in
theorem ParseB_any (s : ByteArray) (hs : s.size ≤ 100000) (w : World) (hmx : Mx w) :
    Calls Tryz.prog 37 #[.string s] w (ParsePostB w (parseP s.data.toList)) := by
  have HMX := hide hmx
  obtain ⟨r, hr⟩ : ∃ r, parseP s.data.toList = r := ⟨_, rfl⟩
  rw [hr]
  clear hmx
  by_cases h0 : s.data.toList = []
  · have HR := hide (show r = (0, []) by rw [← hr, parseP, if_pos h0])
    have HK := hide (show r.1 = 0 by rw [HR.out])
    have t1 : s.toList = [] := by rw [ByteArray.toList_eq]; exact h0
    have t2 : (s.toList == []) = true := by simpa using t1
    clear h0 hr
    go_enter Tryz.func37, Tryz.ntmps37
    go_wp2_with fail
    obtain ⟨wa, hwa⟩ : ∃ wa, wa = (w.alloc (.cells #[.slice none 0 0] 24)).alloc (.cells #[.slice none 0 0] 24) := ⟨_, rfl⟩
    have hnb : NB w.heap.size (.slice none 0 0) wa := by
      unfold NB
      rw [hwa, Below.heap_alloc _ _ _ (by simp)]
      exact heap_alloc_new w _
    have hba : Below w.heap.size w wa := by rw [hwa]; exact ((Below.refl _ _).alloc (Nat.le_refl _) _).alloc (by simp) _
    try rw [← hwa]
    have hNB := hnb.facts.1
    clear hwa
    exact bodyPost_ret (v := .tuple #[.agg #[.slice none 0 0], .int .i64 0]) (by simp [results, Tryz.results37, go_sem, hNB]) rfl ⟨_, by rw [HR.out], by rw [HR.out]; exact Sl.nil _ _ _ _, hba, by rw [HR.out]; intro x hx; cases hx⟩
  · obtain ⟨ps, hps⟩ : ∃ ps, splitC 44 s.data.toList = ps := ⟨_, rfl⟩
    have HR := hide (show r = parseF (parseNs ps) by rw [← hr, parseP, if_neg h0, hps])
    have HPL := hide (show ∀ p ∈ ps, p.length ≤ 100000 from fun p hp => by
      have := splitC_mem_len 44 s.data.toList p (hps ▸ hp)
      rw [size_string] at this
      omega)
    have hpl : ps.length ≤ 100001 := by
      have := splitC_len 44 s.data.toList
      rw [hps, size_string] at this
      omega
    have t1 : ¬ s.toList = [] := by rw [ByteArray.toList_eq]; exact h0
    have t2 : (s.toList == []) = false := by simpa using t1
    have t3 : s.toList.isEmpty = false := by simpa using t1
    have SP := hide (fun W hm => hps ▸ split_v s (by omega) 44 W hm)
    clear h0 hr hps
    go_enter Tryz.func37, Tryz.ntmps37
    go_wp2_with fail
    clear t1 t2 t3
    obtain ⟨wa, hwa⟩ : ∃ wa, wa = (w.alloc (.cells #[.slice none 0 0] 24)).alloc (.cells #[.slice none 0 0] 24) := ⟨_, rfl⟩
    have hnb2 : NB w.heap.size (.slice none 0 0) wa := by
      unfold NB
      rw [hwa, Below.heap_alloc _ _ _ (by simp)]
      exact heap_alloc_new w _
    have hnb4 : NB (w.heap.size + 1) (.slice none 0 0) wa := by
      unfold NB
      rw [hwa, show w.heap.size + 1 = (w.alloc (.cells #[.slice none 0 0] 24)).heap.size by simp]
      exact heap_alloc_new _ _
    have hba : Below w.heap.size w wa := by rw [hwa]; exact ((Below.refl _ _).alloc (Nat.le_refl _) _).alloc (by simp) _
    have hza : wa.heap.size = w.heap.size + 2 := by rw [hwa]; simp
    rw [← hwa]
    refine (SP.out _ (HMX.out.below hba)).mono ?_
    rintro e w1 ⟨rfl, hb1, hz1, hsl⟩
    have HNB2 := hide (hnb2.below hb1)
    have HNB4 := hide (hnb4.below hb1)
    have HB1 := hide (hba.trans (hb1.mono hba.size))
    have HSL := hide hsl
    have hz1' : w1.heap.size = w.heap.size + 3 := by omega
    have HZ1 := hide hz1'
    have HZA := hide hza
    rw [hza]
    obtain ⟨gp, hgp⟩ : ∃ gp, gp = w.heap.size + 2 := ⟨_, rfl⟩
    obtain ⟨g4, hg4⟩ : ∃ g4, g4 = w.heap.size + 1 := ⟨_, rfl⟩
    rw [hza] at HSL
    rw [← hgp] at HSL ⊢
    rw [← hg4] at HNB4 ⊢
    obtain ⟨base, hbase⟩ : ∃ base, base = w1.heap.size := ⟨_, rfl⟩
    have hgb : gp < base := by omega
    have hg4b : g4 < base := by omega
    have hg2b : w.heap.size < base := by omega
    have hwg : w.heap.size ≤ g4 := by omega
    have h24 : w.heap.size ≠ g4 := by omega
    have hp4 : gp ≠ g4 := by omega
    have HBASE := hide hbase
    clear hwa hnb2 hnb4 hba hb1 hsl hz1 hz1' hza hgp hg4 hbase
    go_wp2_with fail
    go_loopw [19] (fun i wr => ∃ (k : Nat) (l : Name) (v : Value) (S : Nat → Prop), k ≤ ps.length ∧ l.length = k ∧ i = .int .i64 k ∧ Below w.heap.size w wr ∧ Ex g4 w1 wr ∧ base ≤ wr.heap.size ∧ NB g4 v wr ∧ NB w.heap.size (.slice none 0 0) wr ∧ Own RRdn 1 82 wr base S v l ∧
      (∀ j, S j → base ≤ j ∧ j < wr.heap.size) ∧ SmallN l ∧ Hid (parseNs ps = (parseNs (ps.drop k)).map (l ++ ·))) (fun i _ => ps.length - (intOf i).toNat)
    case atStart => exact ⟨0, [], _, No, by omega, rfl, rfl, HB1.out, Ex.refl _ _, by rw [HBASE.out]; exact Nat.le_refl _, HNB4.out, HNB2.out, Own.nil _ _ _ _ _ _, fun j h => h.elim, (fun x hx => by cases hx), hide (by simp)⟩
    case round =>
      obtain ⟨k, l, v, S, hk, hlk, rfl, hb, hex, hgs, hnb4, hnb2, hown, hS, hsm, H⟩ := hrel
      have HLK := hide hlk
      have hlk2 : l.length ≤ k := by omega
      have HNB4 := hide hnb4
      have HNB2 := hide hnb2
      have HB := hide hb
      have HEX := hide hex
      have HOWN := hide hown
      have HS := hide hS
      have HSM := hide hsm
      have hsb := hb.size
      clear hlk hnb4 hnb2 hb hex hown hS hsm
      obtain ⟨c0, f0⟩ := HNB4.out.facts
      obtain ⟨c2, f2⟩ := HNB2.out.facts
      by_cases hlt : k < ps.length
      · obtain ⟨bk, off, xs, hA, hbS, hx, hcell⟩ := HSL.out.at_ hlt
        cases hA
        have hpp := HPL.out ps[k] (List.getElem_mem hlt)
        have HX := hide (show parseNs ps = ((parseRs (splitC 43 ps[k])).bind fun r => (parseNs (ps.drop (k + 1))).map (r :: ·)).map (l ++ ·) by rw [H.out, List.drop_eq_getElem_cons hlt, parseNs])
        obtain ⟨p, hp⟩ : ∃ p : ByteArray, p = ⟨ps[k].toArray⟩ := ⟨_, rfl⟩
        have hp2 : ps[k] = p.data.toList := by rw [hp]
        have hxs : xs = strC ps[k] := hx
        rw [hxs] at hcell
        have e0 := hcell 0 (.string p) (by rw [hp]; rfl)
        have d0 : wr.cell? ⟨gp, k, none⟩ = some (.string p) := (HEX.out.cell (p := ⟨gp, k, none⟩) (show gp < w1.heap.size by have := HBASE.out; omega) hp4).trans (by simpa using e0)
        rw [hp2] at HX hpp
        rw [size_string] at hpp
        obtain ⟨qs, hqs⟩ : ∃ qs, splitC 43 p.data.toList = qs := ⟨_, rfl⟩
        rw [hqs] at HX
        have HQL := hide (show ∀ q ∈ qs, q.length ≤ 100000 from fun q hq => by
          have := splitC_mem_len 43 p.data.toList q (hqs ▸ hq)
          rw [size_string] at this
          omega)
        have hql : qs.length ≤ 100001 := by
          have := splitC_len 43 p.data.toList
          rw [hqs, size_string] at this
          omega
        have SP2 := hide (fun W hm => hqs ▸ split_v p (by omega) 43 W hm)
        clear hx hcell hp hp2 hxs e0 hqs
        obtain ⟨wo, rfl⟩ : ∃ wo : World, wo = wr := ⟨_, rfl⟩
        go_wp2_with fail
        refine (SP2.out _ (HMX.out.below HB.out)).mono ?_
        rintro e w5 ⟨rfl, hb5, hz5, hsl5⟩
        have HB5 := hide hb5
        have HSL5 := hide hsl5
        have hz5' : w5.heap.size = wo.heap.size + 1 := hz5
        clear hb5 hsl5 hz5 d0
        go_wp2_with fail
        go_loopw [7, 26] (fun x7 i wi => ∃ (j : Nat) (rr : List Attr) (vv : Value), j ≤ qs.length ∧ rr.length = j ∧ vv = x7 ∧ i = .int .i64 j ∧ Own RAttr 3 84 wi w5.heap.size No vv rr ∧ Below w5.heap.size w5 wi ∧ w5.heap.size ≤ wi.heap.size ∧ SmallR rr ∧ Hid (parseRs qs = (parseRs (qs.drop j)).map (rr ++ ·))) (fun _ i _ => qs.length - (intOf i).toNat)
        case atStart => exact ⟨0, [], _, by omega, rfl, rfl, rfl, Own.nil _ _ _ _ _ _, Below.refl _ _, Nat.le_refl _, (fun x hx => by cases hx), hide (by simp)⟩
        case round =>
          obtain ⟨j, rr, vv, hj, hrj, rfl, rfl, hown5, hbi, hgi, hsmr, HI⟩ := hrel
          have hrl2 : rr.length ≤ j := by omega
          have HRJ := hide hrj
          have HSMR := hide hsmr
          have hbwi := HB5.out.trans (hbi.mono HB5.out.size)
          have hsz5 := HB5.out.size
          have hszi := hbi.size
          clear hrj hsmr
          by_cases hjl : j < qs.length
          · obtain ⟨bk, off, xs, hA, hbS2, hx, hcell⟩ := HSL5.out.at_ hjl
            cases hA
            have hqq := HQL.out qs[j] (List.getElem_mem hjl)
            have HX2 := hide (show parseRs qs = ((parseA qs[j]).bind fun a => (parseRs (qs.drop (j + 1))).map (a :: ·)).map (rr ++ ·) by rw [HI.out, List.drop_eq_getElem_cons hjl, parseRs])
            obtain ⟨q, hq⟩ : ∃ q : ByteArray, q = ⟨qs[j].toArray⟩ := ⟨_, rfl⟩
            have hq2 : qs[j] = q.data.toList := by rw [hq]
            have hxs : xs = strC qs[j] := hx
            rw [hxs] at hcell
            have e0 := hcell 0 (.string q) (by rw [hq]; rfl)
            have d0 : wr.cell? ⟨wo.heap.size, j, none⟩ = some (.string q) := (hbi.cell (p := ⟨wo.heap.size, j, none⟩) (show wo.heap.size < w5.heap.size by omega)).trans (by simpa using e0)
            rw [hq2] at HX2 hqq
            rw [size_string] at hqq
            obtain ⟨o, ho⟩ : ∃ o, parseA q.data.toList = o := ⟨_, rfl⟩
            rw [ho] at HX2
            have HO := hide ho
            have HMr := hide (HMX.out.below (HB.out.trans (hbwi.mono HB.out.size)))
            have HBI := hide hbi
            have HBWI := hide hbwi
            have HOWN5 := hide hown5
            clear hx hcell hq hq2 hxs e0 ho hbi hbwi hown5
            go_wp2_with fail
            refine (parseAtt_any q (by omega) _ HMr.out).mono ?_
            rintro e w6 ⟨rfl, hb6⟩
            rw [HO.out]
            have hs6 := hb6.size
            cases o with
            | none =>
              have HN := hide (show r = (32, []) by rw [HR.out, HX.out, HX2.out]; rfl)
              have HK := hide (show r.1 = 32 by rw [HN.out])
              have hb6w := HB.out.trans ((HBWI.out.trans (hb6.mono (by omega))).mono HB.out.size)
              have hnb6 : NB w.heap.size (.slice none 0 0) w6 := (HNB2.out.below HBWI.out).below hb6
              rw [show parR none = .tuple #[.agg #[.string ⟨#[]⟩, .int .i64 0, .string ⟨#[]⟩], .bool false] from rfl]
              have hnb7 := hnb6.below ((Below.refl w6.heap.size w6).alloc (Nat.le_refl _) (.cells #[.string ⟨#[]⟩, .int .i64 0, .string ⟨#[]⟩] 84))
              obtain ⟨c7, f7⟩ := hnb7.facts
              have HNB7 := hide hnb7
              have HB7 := hide (hb6w.alloc hb6w.size (.cells #[.string ⟨#[]⟩, .int .i64 0, .string ⟨#[]⟩] 84))
              clear hb6 hb6w hnb6 hnb7 c0 f0 c2 f2 d0
              go_wp2_with fail
              have hNB := (HNB7.out.store (.slice none 0 0)).facts.1
              obtain ⟨W3, hW3⟩ : ∃ W3, W3 = (w6.alloc (.cells #[.string ⟨#[]⟩, .int .i64 0, .string ⟨#[]⟩] 84)).setCell ⟨w.heap.size, 0, none⟩ (.slice none 0 0) := ⟨_, rfl⟩
              have hbz : Below w.heap.size w W3 := by rw [hW3]; exact HB7.out.setCell (p := ⟨w.heap.size, 0, none⟩) (Nat.le_refl _) _
              have HSL := hide (show Sl RRdn 1 W3 (Btw w.heap.size W3.heap.size) r.2 [(.slice none 0 0)] by rw [hW3]; (rw [HN.out]; exact Sl.nil _ _ _ _))
              rw [← hW3] at hNB ⊢
              clear hW3
              exact bodyPost_ret (v := .tuple #[.agg #[(.slice none 0 0)], .int .i64 32]) (by simp [results, Tryz.results37, go_sem, hNB]) rfl ⟨(.slice none 0 0), by rw [HK.out], HSL.out, hbz, (by rw [HN.out]; intro x hx; cases hx)⟩
            | some a =>
              have hsa := parseA_small HO.out (by rw [size_string]; exact hqq)
              have HSA := hide hsa
              have HY := hide (show parseRs qs = (parseRs (qs.drop (j + 1))).map ((rr ++ [a]) ++ ·) by
                rw [HX2.out, Option.bind_some, Option.map_map]; congr 1; funext z; simp)
              rw [show parR (some a) = .tuple #[.agg #[.string ⟨a.1.toArray⟩, .int .i64 a.2.1, .string ⟨a.2.2.toArray⟩], .bool true] from rfl]
              have hown6 := HOWN5.out.below RAttr.ok (no_lt _) hb6
              have HB6 := hide (HBI.out.trans (hb6.mono (by omega)))
              clear hb6 c0 f0 c2 f2 d0 hsa
              go_wp2_with (at_builtin; refine wpList_app RAttr.ok _ rfl (.tmp 38) (.tmp 40) 82 rfl w5.heap.size 84 (.agg #[.string ⟨#[]⟩, .int .i64 0, .string ⟨#[]⟩]) 40 Tryz.underlying82 info_att rfl (by decide) No _ rr rfl ((hown6.alloc RAttr.ok (no_lt _) _).alloc RAttr.ok (no_lt _) _) ⟨_, 0, none⟩ 1 1 [a] rfl rfl (news_att2 _ _ _ _ a) (no_lt _) (by simp; omega) (by simp [maxLen]; omega) (by simp; omega) ?_; intro v7 w7 hown7 hg7 hb7 hat7; have hsz7 := hb7.size; simp at hsz7)
              go_roundw
              case rel => exact ⟨j + 1, rr ++ [a], _, by omega, by simp [HRJ.out], rfl, by go_num, hown7, ((HB6.out.alloc (by omega) _).alloc (by simp; omega) _).trans hb7, by omega, (fun x hx => by
                rcases List.mem_append.1 hx with hx | hx
                · exact HSMR.out x hx
                · simp at hx; subst hx; exact HSA.out), HY⟩
              case measure => simp [intOf]; omega
          · have HPR := hide (show parseRs qs = some rr by rw [HI.out, List.drop_of_length_le (by omega)]; simp [parseRs])
            have HY := hide (show parseNs ps = (parseNs (ps.drop (k + 1))).map ((l ++ [rr]) ++ ·) by
              rw [HX.out, HPR.out, Option.bind_some, Option.map_map]; congr 1; funext z; simp)
            have hownS := hown5.sl RAttr.ok
            obtain ⟨A6, c7, hvv⟩ := hownS.shape
            subst hvv
            obtain ⟨S', hS'⟩ : ∃ S' : Nat → Prop, S' = fun j => S j ∨ (w5.heap.size ≤ j ∧ j < wr.heap.size) := ⟨_, rfl⟩
            have hS1 : ∀ j, S j → S' j := fun j hj => by rw [hS']; exact .inl hj
            have hS2 : ∀ j, S' j → base ≤ j ∧ j < wr.heap.size := fun j hj => by
              rw [hS'] at hj
              rcases hj with hj | hj
              · have := HS.out j hj; omega
              · omega
            have hnoS : ∀ g, v.ownBlock = some g → ¬ S' g := fun g hg hh => by
              rw [hS'] at hh
              have hlt := (HOWN.out.lt g hg).2
              rcases hh with hh | hh
              · obtain ⟨_, _, h2, _⟩ := HOWN.out
                exact h2 g hg hh
              · omega
            have hownO := ((HOWN.out.below RRdn.ok (fun j hj => (HS.out j hj).2) hbwi).more RRdn.ok hS1 hnoS)
            have hownA := hownO.alloc RRdn.ok (fun j hj => (hS2 j hj).2) (.cells #[.slice A6 rr.length c7] 82)
            have hgA : ∀ j, S' j → j < (wr.alloc (.cells #[.slice A6 rr.length c7] 82)).heap.size := fun j hj => by have := (hS2 j hj).2; simp; omega
            have hnew : Sl RAttr 3 (wr.alloc (.cells #[.slice A6 rr.length c7] 82)) S' rr [.slice A6 rr.length c7] := (Sl.ok RAttr.ok).mono hownS (fun j hj => Below.heap_alloc _ _ j (by rcases hj with hj | hj; exact hj.elim; exact hj.2)) (fun j hj => by rw [hS']; rcases hj with hj | hj; exact hj.elim; exact .inr hj)
            have HNEW := hide (news_one (R := RRdn) hnew)
            have hbA : Below wo.heap.size wo (wr.alloc (.cells #[.slice A6 rr.length c7] 82)) := hbwi.alloc (by omega) _
            have hnb4 := HNB4.out.below hbA
            have hnb2 := HNB2.out.below hbA
            have HN4 := hide (fun W (h : Below base (wr.alloc (.cells #[.slice A6 rr.length c7] 82)) W) => (show NB g4 v W from (h.block g4 hg4b).trans hnb4))
            have HN2 := hide (fun W (h : Below base (wr.alloc (.cells #[.slice A6 rr.length c7] 82)) W) => (show NB w.heap.size (.slice none 0 0) W from (h.block _ hg2b).trans hnb2))
            have c0 := (HNB4.out.below hbwi).facts.1
            have HBA := hide hbA
            have HOA := hide hownA
            have HS2 := hide hS2
            have hbz : base ≤ (wr.alloc (.cells #[.slice A6 rr.length c7] 82)).heap.size := by simp; omega
            clear hown5 hbi hbwi hownS hS' hS1 hS2 hnoS hownO hownA hnew hbA hnb4 hnb2 f0 c2 f2
            go_wp2_with (at_builtin; refine wpList_app RRdn.ok _ rfl (.tmp 44) (.tmp 46) 22 rfl base 82 (.slice none 0 0) 24 Tryz.underlying22 info_rdn rfl (by decide) S' _ l rfl HOA.out ⟨_, 0, none⟩ 1 1 [rr] rfl rfl HNEW.out hgA (by simp; omega) (by simp [maxLen]; omega) hbz ?_; intro v6 w6 hown6 hg6 hb6 hat6; obtain ⟨c6, f6⟩ := (HN4.out _ hb6).facts; have hsz6 := hb6.size; obtain ⟨A8, c8, hv8⟩ := (hown6.sl RRdn.ok).shape; obtain ⟨n8, hn8⟩ : ∃ n8, (l ++ [rr]).length = n8 := ⟨_, rfl⟩; rw [hn8] at hv8; subst hv8; clear hn8)
            have hsz7 : wr.heap.size + 1 ≤ w6.heap.size := by simpa using hsz6
            have hbf := (HB.out.trans (HBA.out.mono HB.out.size)).trans (hb6.mono (by omega))
            have hexf : Ex g4 w1 w6 := (HEX.out.then_ HBA.out).then_base (HBASE.out ▸ hb6)
            have hn2 := HN2.out _ hb6
            have hn4 := HN4.out _ hb6
            go_roundw
            case rel => exact ⟨k + 1, l ++ [rr], _, S', by omega, by simp [HLK.out], by go_num, hbf.setCell (p := ⟨g4, 0, none⟩) hwg _, hexf.trans (Ex.set g4 0 w6 _), by simp; omega, hn4.store _, hn2.other h24, hown6.other RRdn.ok (fun j hj => (HS2.out j hj).1) hg4b _, fun j hj => ⟨(HS2.out j hj).1, by have := (HS2.out j hj).2; simp; omega⟩, (fun x hx => by
              rcases List.mem_append.1 hx with hx | hx
              · exact HSM.out x hx
              · simp at hx; subst hx; exact HSMR.out), HY⟩
            case measure => simp [intOf]; omega
      · have HP := hide (show parseNs ps = some l by rw [H.out, List.drop_of_length_le (by omega)]; simp [parseNs])
        have hsl := (Sl.ok RRdn.ok).mono (HOWN.out.sl RRdn.ok) (fun _ _ => rfl) (S' := Lt wr.heap.size) (fun j hj => by rcases hj with hj | hj; exact (HS.out j hj).2; exact hj.2)
        have hslB := (Sl.ok RRdn.ok).mono (HOWN.out.sl RRdn.ok) (fun _ _ => rfl) (S' := fun j => base ≤ j ∧ j < wr.heap.size) (fun j hj => by rcases hj with hj | hj; exact HS.out j hj; exact hj)
        obtain ⟨A, cc, hv⟩ := hsl.shape
        subst hv
        have HSLv := hide hsl
        have HSLB := hide hslB
        clear hslB
        clear hsl
        go_wp2_with fail
        refine (Check_any l A cc _ (HMX.out.below HB.out) HSLv.out HSM.out).mono ?_
        rintro e w5 ⟨rfl, hb5⟩
        have HB5 := hide (HB.out.trans (hb5.mono HB.out.size))
        have hn2 := HNB2.out.below hb5
        have hn4 := HNB4.out.below hb5
        have HSL5 := hide ((Sl.ok RRdn.ok).mono HSLB.out (fun j hj => hb5.block j hj.2) (fun j hj => hj))
        have hs5 := hb5.size
        obtain ⟨c5, f5⟩ := hn2.facts
        obtain ⟨c6, f6⟩ := hn4.facts
        have HN2 := hide hn2
        obtain ⟨q, hq⟩ : ∃ q, chkN l = q := ⟨_, rfl⟩
        rw [hq]
        have HQ := hide hq
        clear hb5 hn2 hn4 c0 f0 c2 f2 hq
        by_cases hq0 : q = 0
        · have HN := hide (show r = (0, l) by rw [HR.out, HP.out, parseF, HQ.out, if_pos hq0])
          have HK := hide (show r.1 = 0 by rw [HN.out])
          have ht : (q != 0) = false := by simp [hq0]
          clear hq0
          go_wp2_with fail
          have hNB := (HN2.out.store (.slice A l.length cc)).facts.1
          obtain ⟨W3, hW3⟩ : ∃ W3, W3 = w5.setCell ⟨w.heap.size, 0, none⟩ (.slice A l.length cc) := ⟨_, rfl⟩
          have hbz : Below w.heap.size w W3 := by rw [hW3]; exact HB5.out.setCell (p := ⟨w.heap.size, 0, none⟩) (Nat.le_refl _) _
          have HSL := hide (show Sl RRdn 1 W3 (Btw w.heap.size W3.heap.size) r.2 [(.slice A l.length cc)] by rw [hW3]; (rw [HN.out]; exact (Sl.ok RRdn.ok).mono HSL5.out (fun j hj => Below.heap_setCell w5 _ _ j (by have := hj.1; show j ≠ w.heap.size; omega)) (fun j hj => ⟨by have := hj.1; omega, by have := hj.2; simp; omega⟩)))
          rw [← hW3] at hNB ⊢
          clear hW3
          exact bodyPost_ret (v := .tuple #[.agg #[(.slice A l.length cc)], .int .i64 0]) (by simp [results, Tryz.results37, go_sem, hNB]) rfl ⟨(.slice A l.length cc), by rw [HK.out], HSL.out, hbz, (by rw [HN.out]; exact HSM.out)⟩
        · have HN := hide (show r = (q, []) by rw [HR.out, HP.out, parseF, HQ.out, if_neg hq0])
          have HK := hide (show r.1 = q by rw [HN.out])
          have ht : (q != 0) = true := by simp [hq0]
          clear hq0
          go_wp2_with fail
          have hNB := (HN2.out.store (.slice none 0 0)).facts.1
          obtain ⟨W3, hW3⟩ : ∃ W3, W3 = w5.setCell ⟨w.heap.size, 0, none⟩ (.slice none 0 0) := ⟨_, rfl⟩
          have hbz : Below w.heap.size w W3 := by rw [hW3]; exact HB5.out.setCell (p := ⟨w.heap.size, 0, none⟩) (Nat.le_refl _) _
          have HSL := hide (show Sl RRdn 1 W3 (Btw w.heap.size W3.heap.size) r.2 [(.slice none 0 0)] by rw [hW3]; (rw [HN.out]; exact Sl.nil _ _ _ _))
          rw [← hW3] at hNB ⊢
          clear hW3
          exact bodyPost_ret (v := .tuple #[.agg #[(.slice none 0 0)], .int .i64 q]) (by simp [results, Tryz.results37, go_sem, hNB]) rfl ⟨(.slice none 0 0), by rw [HK.out], HSL.out, hbz, (by rw [HN.out]; intro x hx; cases hx)⟩
end Go.Proofs.YtmgnihmjjijdoaaGreatDoor
