/- Names that the laws make, each relative name in a block of its own, so that it may be written over. -/
import Derived.Test.YtahamclodagihaaGreatDoorKGNamY
namespace Go.Proofs.YtahamclodagihaaGreatDoor
open Go.RowKit
def RVal : Rep Value := fun _ _ x cs => cs = [x] ∧ x.oneCell' = true
theorem RVal.ok : RepOk RVal 1 := ⟨fun h => by rw [h.1]; rfl, fun h u hu => by rw [h.1] at hu; simp at hu; subst hu; exact h.2, fun h _ _ => h⟩
def Rws (w : World) (S : Nat → Prop) : Nat → Name → List Value → Prop
 | _, [], [] => True
 | lo, r :: l, x :: xs => ∃ (g c : Nat) (cur : Array Value), x = .slice (some ⟨g, 0, none⟩) r.length c ∧ r.length ≤ c ∧ c ≤ maxLen ∧ lo ≤ g ∧ S g ∧ w.heap[g]? = some (.cells cur 27 (0, 0)) ∧
   (∀ i a, r[i]? = some a → ∀ j u, (attC a)[j]? = some u → cur[i * 3 + j]? = some u) ∧ Rws w S (g + 1) l xs
 | _, [], _ :: _ => False
 | _, _ :: _, [] => False
theorem Rws.len {w : World} {S : Nat → Prop} : ∀ {lo : Nat} {l : Name} {xs : List Value}, Rws w S lo l xs → xs.length = l.length
  | _, [], [], _ => rfl
  | _, r :: l, x :: xs, h => by
    obtain ⟨g, c, cur, _, _, _, _, _, _, _, h9⟩ := h
    rw [List.length_cons, List.length_cons, Rws.len h9]
  | _, [], _ :: _, h => h.elim
  | _, _ :: _, [], h => h.elim
theorem Rws.mono {w w' : World} {S S' : Nat → Prop} : ∀ {lo : Nat} {l : Name} {xs : List Value}, Rws w S lo l xs → (∀ k, S k → lo ≤ k → w'.heap[k]? = w.heap[k]?) → (∀ k, S k → S' k) → Rws w' S' lo l xs
  | _, [], [], _, _, _ => trivial
  | _, r :: l, x :: xs, h, hk, hS => by
    obtain ⟨g, c, cur, h1, h2, h3, h4, h5, h6, h7, h9⟩ := h
    exact ⟨g, c, cur, h1, h2, h3, h4, hS g h5, (hk g h5 h4).trans h6, h7, Rws.mono h9 (fun k hs hl => hk k hs (by omega)) hS⟩
  | _, [], _ :: _, h, _, _ => h.elim
  | _, _ :: _, [], h, _, _ => h.elim
theorem Rws.snoc {w : World} {S : Nat → Prop} {r : List Attr} {g c : Nat} {cur : Array Value} (hc1 : r.length ≤ c) (hc2 : c ≤ maxLen) (hg : S g) (hh : w.heap[g]? = some (.cells cur 27 (0, 0)))
    (hcur : ∀ i a, r[i]? = some a → ∀ j u, (attC a)[j]? = some u → cur[i * 3 + j]? = some u) : ∀ {lo : Nat} {l : Name} {xs : List Value}, Rws w (fun k => S k ∧ k < g) lo l xs → lo ≤ g → Rws w S lo (l ++ [r]) (xs ++ [.slice (some ⟨g, 0, none⟩) r.length c])
  | _, [], [], _, hl => ⟨g, c, cur, rfl, hc1, hc2, hl, hg, hh, hcur, trivial⟩
  | _, r' :: l, x :: xs, h, _ => by
    obtain ⟨g', c', cur', h1, h2, h3, h4, h5, h6, h7, h9⟩ := h
    exact ⟨g', c', cur', h1, h2, h3, h4, h5.1, h6, h7, Rws.snoc hc1 hc2 hg hh hcur h9 (by have := h5.2; omega)⟩
  | _, [], _ :: _, h, _ => h.elim
  | _, _ :: _, [], h, _ => h.elim
theorem Rws.low {w : World} {S : Nat → Prop} : ∀ {lo : Nat} {l : Name} {xs : List Value}, Rws w S lo l xs → ∀ (i : Nat) {g n c : Nat}, xs[i]? = some (.slice (some ⟨g, 0, none⟩) n c) → lo ≤ g
  | _, [], [], _, i, _, _, _, h => by simp at h
  | _, r :: l, x :: xs, h, 0, g, n, c, hx => by
    obtain ⟨g', c', cur, h1, h2, h3, h4, _⟩ := h
    have e : x = .slice (some ⟨g, 0, none⟩) n c := Option.some.inj hx
    rw [h1] at e
    cases e
    exact h4
  | _, r :: l, x :: xs, h, i + 1, g, n, c, hx => by
    obtain ⟨g', c', cur, h1, h2, h3, h4, _, _, _, h9⟩ := h
    have := Rws.low h9 i (show xs[i]? = some (.slice (some ⟨g, 0, none⟩) n c) from hx)
    omega
  | _, [], _ :: _, h, _, _, _, _, _ => h.elim
  | _, _ :: _, [], h, _, _, _, _, _ => h.elim
theorem Rws.at_ {w : World} {S : Nat → Prop} : ∀ {lo : Nat} {l : Name} {xs : List Value}, Rws w S lo l xs → ∀ (i : Nat) (hi : i < l.length), ∃ g c, xs[i]? = some (.slice (some ⟨g, 0, none⟩) l[i].length c) ∧ l[i].length ≤ c ∧ c ≤ maxLen ∧ S g ∧ g < w.heap.size ∧
      (∀ j, w.frozen? ⟨g, j, none⟩ = false) ∧ (∀ k (hk : k < l[i].length) j u, (attC l[i][k])[j]? = some u → w.cell? ⟨g, k * 3 + j, none⟩ = some u) ∧
      ∀ k (hk : k < l[i].length) (j : Nat) (u : Value) (a' : Attr), j < 3 → (∀ j', j' ≠ j → (attC a')[j']? = (attC l[i][k])[j']?) → (attC a')[j]? = some u → Rws (w.setCell ⟨g, k * 3 + j, none⟩ u) S lo (l.set i (l[i].set k a')) xs
  | _, [], _, _, i, hi => absurd hi (by simp)
  | lo, r :: l, x :: xs, h, 0, _ => by
    obtain ⟨g, c, cur, h1, h2, h3, h4, h5, h6, h7, h9⟩ := h
    have hgl : g < w.heap.size := (Array.getElem?_eq_some_iff.1 h6).1
    refine ⟨g, c, by rw [h1]; rfl, h2, h3, h5, hgl, fun j => by simp [World.frozen?, h6], fun k hk j u hu => ?_, fun k hk j u a' hj h8 hu => ?_⟩
    · rw [cell_of_row w g _ cur _ (0, 0) h6]
      exact h7 k _ (List.getElem?_eq_getElem hk) j u hu
    · rw [List.set_cons_zero]
      refine ⟨g, c, cur.setIfInBounds (k * 3 + j) u, by rw [h1, List.length_set]; rfl, by rw [List.length_set]; exact h2, h3, h4, h5, ?_, ?_, Rws.mono h9 (fun k' hs hl => Below.heap_setCell w ⟨g, k * 3 + j, none⟩ u k' (by show k' ≠ g; omega)) (fun _ hs => hs)⟩
      · simp [World.setCell, Array.getElem?_modify, h6]
      · intro i a hi j' u' hu'
        rw [Array.getElem?_setIfInBounds]
        have h3' : ∀ (b : Attr), (attC b).length = 3 := fun _ => rfl
        have hj' : j' < 3 := by rw [← h3' a]; exact (List.getElem?_eq_some_iff.1 hu').1
        have hkj : k * 3 + j < cur.size := by
          have h0 : (attC r[k])[j]? = some ((attC r[k])[j]'(by rw [h3']; exact hj)) := List.getElem?_eq_getElem _
          exact (Array.getElem?_eq_some_iff.1 (h7 k _ (List.getElem?_eq_getElem hk) j _ h0)).1
        by_cases hik : k = i
        · subst hik
          rw [List.getElem?_set_self hk] at hi
          cases hi
          by_cases hjj : j = j'
          · subst hjj
            rw [if_pos rfl, if_pos hkj, ← hu, hu']
          · rw [if_neg (by omega)]
            have e := h8 j' (fun e => hjj e.symm)
            rw [hu'] at e
            exact h7 k _ (List.getElem?_eq_getElem hk) j' u' e.symm
        · rw [List.getElem?_set_ne hik] at hi
          rw [if_neg (by omega)]
          exact h7 i a hi j' u' hu'
  | lo, r :: l, x :: xs, h, i + 1, hi => by
    obtain ⟨g, c, cur, h1, h2, h3, h4, h5, h6, h7, h9⟩ := h
    obtain ⟨g', c', k1, k2, k3, k4, k5, k6, k7, k8⟩ := Rws.at_ h9 i (by simpa using hi)
    have hlow : g + 1 ≤ g' := Rws.low h9 i k1
    refine ⟨g', c', k1, k2, k3, k4, k5, k6, k7, fun k hk j u a' hj h8 hu => ?_⟩
    rw [List.set_cons_succ]
    exact ⟨g, c, cur, h1, h2, h3, h4, h5, (Below.heap_setCell w ⟨g', k * 3 + j, none⟩ u g (by show g ≠ g'; omega)).trans h6, h7, k8 k hk j u a' hj h8 hu⟩
theorem Rws.sl {w : World} {S : Nat → Prop} {base : Nat} {v : Value} {lo : Nat} {l : Name} {xs : List Value} (h : Rws w S lo l xs) (ho : Own RVal 1 33 w base S v xs) : Sl RRdn 1 w (fun k => S k ∨ (base ≤ k ∧ k < w.heap.size)) l [v] := by
 obtain ⟨A, c, e, h1, h2, h3⟩ := ho.sl RVal.ok
 have hl := h.len
 rw [hl] at e h1 h3
 refine ⟨A, c, e, h1, h2, fun h0 => ?_⟩
 obtain ⟨b, off, hA, hb, hh⟩ := h3 h0
 refine ⟨b, off, hA, hb, fun i r hr => ?_⟩
 obtain ⟨hi, hr'⟩ := List.getElem?_eq_some_iff.1 hr
 obtain ⟨g, c', k1, k2, k3, k4, k5, k6, k7, -⟩ := h.at_ i hi
 obtain ⟨ys, ⟨hy, -⟩, hc⟩ := hh i _ k1
 rw [hr'] at k2 k7 hy
 subst hy
 refine ⟨_, ⟨some ⟨g, 0, none⟩, c', rfl, k2, k3, fun _ => ⟨g, 0, rfl, .inl k4, fun k a ha => ⟨attC a, rfl, fun j u hu => ?_⟩⟩⟩, hc⟩
 obtain ⟨hk, ha'⟩ := List.getElem?_eq_some_iff.1 ha
 rw [Nat.zero_add]
 have k7' := k7 k (by omega) j u
 subst hr'
 exact k7 k hk j u (by rw [ha']; exact hu)
theorem Own.attBlock {e : TypeId} {w : World} {base : Nat} {v : Value} {r : List Attr} (h : Own RAttr 3 e w base No v r) (h0 : 0 < r.length) : ∃ (g c : Nat) (cur : Array Value), v = .slice (some ⟨g, 0, none⟩) r.length c ∧ base ≤ g ∧ g < w.heap.size ∧ r.length ≤ c ∧ c ≤ maxLen ∧
  w.heap[g]? = some (.cells cur e (0, 0)) ∧ ∀ i a, r[i]? = some a → ∀ j u, (attC a)[j]? = some u → cur[i * 3 + j]? = some u := by
 obtain ⟨xs, ⟨hl, h1⟩, h2, h3⟩ := h
 rcases h1 with ⟨rfl, hn⟩ | ⟨g, cap, cur, rfl, hb, hg, hnc, hcm, hsz, htk⟩
 ·omega
 ·refine ⟨g, cap, cur, rfl, hb, (Array.getElem?_eq_some_iff.1 hg).1, hnc, hcm, hg, fun i a ha j u hu => ?_⟩
  obtain ⟨ys, hr, hc⟩ := h3 i a ha
  have hr' : ys = attC a := hr
  subst hr'
  have hxu := hc j u hu
  rw [← htk, List.getElem?_take] at hxu
  split at hxu
  ·simpa using hxu
  ·cases hxu
theorem GoodR.pos {r : List Attr} (h : GoodR r) : 0 < r.length := by
 rcases h with ⟨a, _, rfl⟩ | ⟨a, _, b, _, rfl, _⟩ <;> simp
def NameWPost (d : Nat) (w : World) (e : Ending) (w' : World) : Prop :=
 ∃ (n : Name) (v : Value) (xs : List Value) (S : Nat → Prop) (base : Nat), GoodN n ∧ e = .returned (.agg #[v]) ∧ w.heap.size ≤ base ∧ Own RVal 1 33 w' base S v xs ∧ Rws w' S base n xs ∧ (∀ j, S j → base ≤ j ∧ j < w'.heap.size) ∧ DeckAt w' d ∧ Ex d w w'
set_option maxRecDepth 100000 in
set_option maxHeartbeats 16000000 in
theorem NameW_any (d : Nat) (w : World) (h : DeckAt w d) : Calls Tryz.prog 13 #[.pointer (some ⟨d, 0, none⟩)] w (NameWPost d w) := by
 have hd := h.lt
 have HDK0 := hide (fun o1 o2 => (h.alloc o1).alloc o2)
 clear h
 go_enter Tryz.func13, Tryz.ntmps13
 go_wp2_with fail
 refine (Next_any d 4 (by omega) (by omega) _ (HDK0.out _ _)).mono ?_
 rintro e w1 ⟨v4, hv4, rfl, hdk, hex⟩
 have hnb2 : NB w.heap.size (.slice none 0 0) w1 := NB.ex (by
  unfold NB
  rw [Below.heap_alloc _ _ _ (by simp)]
  exact heap_alloc_new w _) hex (by omega)
 have hnb3 : NB (w.heap.size + 1) (.slice none 0 0) w1 := NB.ex (by
  unfold NB
  rw [show w.heap.size + 1 = (w.alloc (.cells #[.slice none 0 0] 24)).heap.size by simp]
  exact heap_alloc_new _ _) hex (by omega)
 have hz1 : w.heap.size + 2 ≤ w1.heap.size := by have := hex.size; simp at this; omega
 have HEX := hide (show Ex d w w1 from (((Ex.refl d w).alloc _).alloc _).trans hex)
 have HDK := hide hdk
 obtain ⟨g3, hg3⟩ : ∃ g3, g3 = w.heap.size + 1 := ⟨_, rfl⟩
 obtain ⟨base, hbase⟩ : ∃ base, base = w.heap.size + 2 := ⟨_, rfl⟩
 rw [← hg3] at hnb3 ⊢
 have HNB2 := hide hnb2
 have HNB3 := hide hnb3
 have h3b : g3 < base := by omega
 have h2b : w.heap.size < base := by omega
 have h23 : w.heap.size < g3 := by omega
 have hd3 : d < g3 := by omega
 have hb1 : base ≤ w1.heap.size := by omega
 clear hex hdk hnb2 hnb3 hz1 hg3 hbase
 go_wp2_with fail
 go_loopw [4] (fun i wr => ∃ (k : Nat) (l : Name) (xs : List Value) (v : Value) (S : Nat → Prop), k + l.length ≤ 3 ∧ i = .int .i64 k ∧ Ex d w wr ∧ DeckAt wr d ∧ base ≤ wr.heap.size ∧ NB g3 v wr ∧ NB w.heap.size (.slice none 0 0) wr ∧ Own RVal 1 33 wr base S v xs ∧
   (∀ j, S j → base ≤ j ∧ j < wr.heap.size) ∧ Rws wr S base l xs ∧ GoodL l) (fun i _ => (intOf i).toNat)
 case atStart => exact ⟨v4, [], [], _, No, by simp; omega, rfl, HEX.out, HDK.out, hb1, HNB3.out, HNB2.out, Own.nil _ _ _ _ _ _, fun j h => h.elim, trivial, fun x hx => by cases hx⟩
 case round =>
  obtain ⟨k, l, xs, v, S, hk, rfl, hex, hdk, hgs, hnb3, hnb2, hown, hS, hrows, hgl⟩ := hrel
  have HROWS := hide hrows
  have hxl : xs.length = l.length := hrows.len
  have HNB3 := hide hnb3
  have HNB2 := hide hnb2
  have HEX := hide hex
  have HDK := hide hdk
  have HOWN := hide hown
  have HS := hide hS
  have HGL := hide hgl
  clear hnb3 hnb2 hex hdk hown hS hgl hrows
  obtain ⟨c3, f3⟩ := HNB3.out.facts
  obtain ⟨c2, f2⟩ := HNB2.out.facts
  obtain ⟨wo, rfl⟩ : ∃ wo : World, wo = wr := ⟨_, rfl⟩
  by_cases hlt : 0 < k
  ·have hk1 : (1 : Int) ≤ (k : Int) := by omega
   have hk0 : (0 : Int) < (k : Int) := by omega
   go_wp2_with fail
   refine (Next_any d 5 (by omega) (by omega) _ HDK.out).mono ?_
   rintro e w2 ⟨v5, hv5, rfl, hdk2, hex2⟩
   have hs2 := hex2.size
   have HEX2 := hide hex2
   have HDK2 := hide hdk2
   have hd2 : d + 1 ≤ w2.heap.size := by omega
   have hv50 : (0 : Int) ≤ (v5 : Int) := by omega
   have hv51 : (v5 : Int) < 5 := by omega
   clear hex2 hdk2 c3 f3 c2 f2
   go_wp2_with fail
   go_loopw [5, 6] (fun x5 x6 wi => ∃ (j : Nat) (rr : List Attr) (vv : Value), InR j rr ∧ vv = x5 ∧ x6 = .int .i64 j ∧ Ex d w2 wi ∧ DeckAt wi d ∧ Own RAttr 3 27 wi w2.heap.size No vv rr ∧ w2.heap.size ≤ wi.heap.size) (fun _ i _ => (intOf i).toNat)
   case atStart => exact ⟨1 + v5 / 4, [], _, InR.start (by omega) (by omega), rfl, by congr 1, Ex.refl _ _, HDK2.out, Own.nil _ _ _ _ _ _, Nat.le_refl _⟩
   case round =>
    obtain ⟨j, rr, vv, hin, rfl, rfl, hexi, hdki, howni, hzi⟩ := hrel
    by_cases hj : 0 < j
    ·have hj1 : (1 : Int) ≤ (j : Int) := by omega
     have hj0 : (0 : Int) < (j : Int) := by omega
     have hj2 : (j : Int) ≤ 2 := by have := hin.1; omega
     have HEXI := hide hexi
     have HDKI := hide hdki
     have HOWNI := hide howni
     have HIN := hide hin
     clear hexi hdki howni hin
     go_wp2_with fail
     refine (attribute_any d _ HDKI.out).mono ?_
     rintro e w5 ⟨ta, va, kk, ham, rfl, hdk5, hex5⟩
     obtain ⟨wq0, hwq0⟩ : ∃ wq0, wq0 = w5.alloc (.cells #[.string ta, .int .i64 kk, .string va] 27) := ⟨_, rfl⟩
     obtain ⟨a0, a1, a2⟩ := att_cells hwq0
     have hownq : Own RAttr 3 27 wq0 w2.heap.size No vv rr := by
      rw [hwq0]
      exact (HOWNI.out.ex RAttr.ok hex5 (by omega) (fun k hk => hk.elim)).alloc RAttr.ok (no_lt _) _
     have hexq : Ex d w2 wq0 := by rw [hwq0]; exact (HEXI.out.trans hex5).alloc _
     have hdkq : DeckAt wq0 d := by rw [hwq0]; exact hdk5.alloc _
     have hzq : w2.heap.size ≤ w5.heap.size := by have := hex5.size; omega
     have hzq2 : wq0.heap.size = w5.heap.size + 1 := by rw [hwq0]; simp
     have HAM := hide ham
     have HZQ := hide hzq2
     have HEX5 := hide hex5
     clear ham hdk5 hex5 hzq2
     rcases HIN.out.one hj with h0 | ⟨x, hx, h0, hj9⟩
     ·obtain ⟨A, c, hvv⟩ := (hownq.sl RAttr.ok).shape
      rw [h0] at hvv
      subst hvv
      rw [h0] at hownq
      have HOWNQ := hide (fun n => hownq.drewN RAttr.ok n)
      have HEXQ := hide (fun n => hexq.drewN n)
      have HDKQ := hide (fun n => hdkq.drewN n)
      have HIN0 := hide (show InR j [] from h0 ▸ HIN.out)
      clear hownq hexq hdkq h0
      go_wp2_with fail
      rw [← hwq0]
      clear hwq0
      go_quiet (fail)
      obtain ⟨wq, hwq⟩ : ∃ wq, wq = wq0.drewN nq := ⟨_, rfl⟩
      have b0 : wq.cell? ⟨w5.heap.size, 0, none⟩ = some (.string ta) := by rw [hwq]; exact a0
      have b1 : wq.cell? ⟨w5.heap.size, 1, none⟩ = some (.int .i64 kk) := by rw [hwq]; exact a1
      have b2 : wq.cell? ⟨w5.heap.size, 2, none⟩ = some (.string va) := by rw [hwq]; exact a2
      have HOWNQ := hide (hwq ▸ HOWNQ.out nq)
      have HEXQ := hide (hwq ▸ HEXQ.out nq)
      have HDKQ := hide (hwq ▸ HDKQ.out nq)
      have hzq3 : w2.heap.size ≤ wq.heap.size := by rw [hwq]; show _ ≤ wq0.heap.size; have := HZQ.out; omega
      rw [← hwq]
      clear hwq a0 a1 a2
      go_wp2_with (at_builtin; refine wpList_app RAttr.ok _ rfl (.tmp 37) (.tmp 39) 33 rfl w2.heap.size 27 (.agg #[.string ⟨#[]⟩, .int .i64 0, .string ⟨#[]⟩]) 40 Tryz.underlying33 info_att rfl (by decide) No _ [] rfl (HOWNQ.out.alloc RAttr.ok (no_lt _) _) ⟨_, 0, none⟩ 1 1 [(ta.data.toList, kk, va.data.toList)] rfl rfl (news_att4 _ _ _ ta va kk) (no_lt _) (by simp) (by simp [maxLen]) (by simp; omega) ?_; intro v7 w7 hown7 hg7 hb7 hat7; have hsz7 := hb7.size; simp at hsz7)
      have hex7 : Ex d w2 w7 := (HEXQ.out.alloc _).then_base hb7
      have hdk7 : DeckAt w7 d := (HDKQ.out.alloc _).keep (hb7.mono hd2)
      have HIN' := hide (show InR (j - 1) ([] ++ [(ta.data.toList, kk, va.data.toList)]) from HIN0.out.first HAM.out)
      go_roundw
      case rel => exact ⟨j - 1, _, _, HIN'.out, rfl, num_pred hj, hex7, hdk7, hown7, by omega⟩
      case measure => (simp [intOf]; omega)
     ·subst h0
      obtain ⟨tx, vx, kx, rfl⟩ : ∃ (tx vx : ByteArray) (kx : Int), x = (tx.data.toList, kx, vx.data.toList) := ⟨⟨x.1.toArray⟩, ⟨x.2.2.toArray⟩, x.2.1, rfl⟩
      obtain ⟨g, cap, ys, hvv, hg1, hg2, hc1, hc2, hr0, hcl, -⟩ := hownq.at_ (i := 0) (by simp)
      subst hvv
      have hys : ys = attC (tx.data.toList, kx, vx.data.toList) := hr0
      rw [hys] at hcl
      have d0 : wq0.cell? ⟨g, 0, none⟩ = some (.string tx) := hcl 0 _ rfl
      have HXM := hide hx
      have HOWNQ := hide (fun n => hownq.drewN RAttr.ok n)
      have HEXQ := hide (fun n => hexq.drewN n)
      have HDKQ := hide (fun n => hdkq.drewN n)
      obtain rfl : j = 1 := hj9
      clear hownq hexq hdkq hys hcl hr0 hx hc1 hc2
      by_cases heq : tx.toList = ta.toList
      ·have t1 : (tx.toList == ta.toList) = true := by simpa using heq
       have t2 : (tx.toList != ta.toList) = false := by simp [heq]
       clear heq
       go_wp2_with fail
       rw [← hwq0]
       clear hwq0
       go_quiet (fail)
       go_wp2_with fail
       go_roundw
       case rel => exact ⟨0, _, _, InR.skip HXM.out, rfl, rfl, HEXQ.out nq, HDKQ.out nq, HOWNQ.out nq, by show _ ≤ wq0.heap.size; have := HZQ.out; omega⟩
       case measure => simp [intOf]
      ·have t1 : (tx.toList == ta.toList) = false := by simpa using heq
       have t2 : (tx.toList != ta.toList) = true := by simpa using heq
       have HNE := hide (show tx.data.toList ≠ ta.data.toList from fun e => heq ((str_eq tx ta).2 e))
       clear heq
       go_wp2_with fail
       rw [← hwq0]
       clear hwq0
       go_quiet (fail)
       obtain ⟨wq, hwq⟩ : ∃ wq, wq = wq0.drewN nq := ⟨_, rfl⟩
       have b0 : wq.cell? ⟨w5.heap.size, 0, none⟩ = some (.string ta) := by rw [hwq]; exact a0
       have b1 : wq.cell? ⟨w5.heap.size, 1, none⟩ = some (.int .i64 kk) := by rw [hwq]; exact a1
       have b2 : wq.cell? ⟨w5.heap.size, 2, none⟩ = some (.string va) := by rw [hwq]; exact a2
       have HOWNQ := hide (hwq ▸ HOWNQ.out nq)
       have HEXQ := hide (hwq ▸ HEXQ.out nq)
       have HDKQ := hide (hwq ▸ HDKQ.out nq)
       have hzq3 : w2.heap.size ≤ wq.heap.size := by rw [hwq]; show _ ≤ wq0.heap.size; have := HZQ.out; omega
       rw [← hwq]
       clear hwq a0 a1 a2 d0
       go_wp2_with (at_builtin; refine wpList_app RAttr.ok _ rfl (.tmp 37) (.tmp 39) 33 rfl w2.heap.size 27 (.agg #[.string ⟨#[]⟩, .int .i64 0, .string ⟨#[]⟩]) 40 Tryz.underlying33 info_att rfl (by decide) No _ [(tx.data.toList, kx, vx.data.toList)] rfl (HOWNQ.out.alloc RAttr.ok (no_lt _) _) ⟨_, 0, none⟩ 1 1 [(ta.data.toList, kk, va.data.toList)] rfl rfl (news_att4 _ _ _ ta va kk) (no_lt _) (by simp) (by simp [maxLen]) (by simp; omega) ?_; intro v7 w7 hown7 hg7 hb7 hat7; have hsz7 := hb7.size; simp at hsz7)
       have hex7 : Ex d w2 w7 := (HEXQ.out.alloc _).then_base hb7
       have hdk7 : DeckAt w7 d := (HDKQ.out.alloc _).keep (hb7.mono hd2)
       have HIN' := hide (show InR (1 - 1) ([(tx.data.toList, kx, vx.data.toList)] ++ [(ta.data.toList, kk, va.data.toList)]) from InR.second HXM.out HAM.out HNE.out)
       go_roundw
       case rel => exact ⟨1 - 1, _, _, HIN'.out, rfl, num_pred hj, hex7, hdk7, hown7, by omega⟩
       case measure => (simp [intOf])
    ·obtain rfl : j = 0 := by omega
     have HGR := hide hin.done
     have hexo : Ex d wo wr := HEX2.out.trans hexi
     have hszo := hexo.size
     obtain ⟨g6, c7, cur6, hvv, hg61, hg62, hc71, hc72, hh6, hcur6⟩ := howni.attBlock HGR.out.pos
     subst hvv
     have hoz := HEX2.out.size
     have HG6 := hide (And.intro hg61 (And.intro hg62 (And.intro hc71 hc72)))
     have HH6 := hide hh6
     have HCUR6 := hide hcur6
     clear hg61 hg62 hc71 hc72 hh6 hcur6
     obtain ⟨S', hS'⟩ : ∃ S' : Nat → Prop, S' = fun j => S j ∨ (w2.heap.size ≤ j ∧ j < wr.heap.size) := ⟨_, rfl⟩
     have hS1 : ∀ j, S j → S' j := fun j hj => by rw [hS']; exact .inl hj
     have hS2 : ∀ j, S' j → base ≤ j ∧ j < wr.heap.size := fun j hj => by
      rw [hS'] at hj
      rcases hj with hj | hj
      ·have := HS.out j hj; omega
      ·omega
     have hnoS : ∀ g, v.ownBlock = some g → ¬ S' g := fun g hg hh => by
      rw [hS'] at hh
      have hlt := (HOWN.out.lt g hg).2
      rcases hh with hh | hh
      ·obtain ⟨_, _, h2, _⟩ := HOWN.out
       exact h2 g hg hh
      ·omega
     have hownO := ((HOWN.out.ex RVal.ok hexo (by omega) HS.out).more RVal.ok hS1 hnoS)
     have hownA := hownO.alloc RVal.ok (fun j hj => (hS2 j hj).2) (.cells #[.slice (some ⟨g6, 0, none⟩) rr.length c7] 33)
     have hgA : ∀ j, S' j → j < (wr.alloc (.cells #[.slice (some ⟨g6, 0, none⟩) rr.length c7] 33)).heap.size := fun j hj => by have := (hS2 j hj).2; simp; omega
     have HNEW := hide (news_one (R := RVal) (w := wr) (S := S') (x := .slice (some ⟨g6, 0, none⟩) rr.length c7) (y := .slice (some ⟨g6, 0, none⟩) rr.length c7) (t := 33) ⟨rfl, rfl⟩)
     have HNOS := hide hnoS
     have HEXO := hide hexo
     have HS1 := hide hS1
     have HSG := hide (show S' g6 by rw [hS']; exact .inr ⟨HG6.out.1, HG6.out.2.1⟩)
     have hexA : Ex d w (wr.alloc (.cells #[.slice (some ⟨g6, 0, none⟩) rr.length c7] 33)) := (HEX.out.trans hexo).alloc _
     have hdkA : DeckAt (wr.alloc (.cells #[.slice (some ⟨g6, 0, none⟩) rr.length c7] 33)) d := hdki.alloc _
     have hnb3 := (HNB3.out.ex hexo (by omega)).below ((Below.refl wr.heap.size wr).alloc (Nat.le_refl _) (.cells #[.slice (some ⟨g6, 0, none⟩) rr.length c7] 33))
     have hnb2 := (HNB2.out.ex hexo (by omega)).below ((Below.refl wr.heap.size wr).alloc (Nat.le_refl _) (.cells #[.slice (some ⟨g6, 0, none⟩) rr.length c7] 33))
     have HN3 := hide (fun W (h : Below base (wr.alloc (.cells #[.slice (some ⟨g6, 0, none⟩) rr.length c7] 33)) W) => (show NB g3 v W from (h.block g3 h3b).trans hnb3))
     have HN2 := hide (fun W (h : Below base (wr.alloc (.cells #[.slice (some ⟨g6, 0, none⟩) rr.length c7] 33)) W) => (show NB w.heap.size (.slice none 0 0) W from (h.block _ h2b).trans hnb2))
     have c3 := (HNB3.out.ex hexo (by omega)).facts.1
     have HEXA := hide hexA
     have HDKA := hide hdkA
     have HOA := hide hownA
     have HS2 := hide hS2
     have hbz : base ≤ (wr.alloc (.cells #[.slice (some ⟨g6, 0, none⟩) rr.length c7] 33)).heap.size := by simp; omega
     have hwb : w.heap.size ≤ base := by omega
     have hlk : xs.length ≤ 3 := by omega
     clear howni hexi hdki hS' hS1 hS2 hnoS hownO hownA hexA hdkA hnb3 hnb2 hin hexo
     go_wp2_with (at_builtin; refine wpList_app RVal.ok _ rfl (.tmp 42) (.tmp 44) 22 rfl base 33 (.slice none 0 0) 24 Tryz.underlying22 info_rdn rfl (by decide) S' _ xs rfl HOA.out ⟨_, 0, none⟩ 1 1 [.slice (some ⟨g6, 0, none⟩) rr.length c7] rfl rfl HNEW.out hgA (by simp; omega) (by simp [maxLen]; omega) hbz ?_; intro v6 w6 hown6 hg6 hb6 hat6; obtain ⟨c6, f6⟩ := (HN3.out _ hb6).facts; have hsz6 := hb6.size; obtain ⟨A8, c8, hv8⟩ := (hown6.sl RVal.ok).shape; obtain ⟨n8, hn8⟩ : ∃ n8, (xs ++ [Value.slice (some ⟨g6, 0, none⟩) rr.length c7]).length = n8 := ⟨_, rfl⟩; rw [hn8] at hv8; subst hv8; clear hn8)
     have hsz7 : wr.heap.size + 1 ≤ w6.heap.size := by simpa using hsz6
     have hexf : Ex d w w6 := HEXA.out.then_base (hb6.mono hwb)
     have hdkf : DeckAt w6 d := HDKA.out.keep (hb6.mono (by omega))
     have hkeep : ∀ k, S' k → w6.heap[k]? = wr.heap[k]? := fun k hk => (hg6.block k (hgA k hk) (fun e => HNOS.out k e.symm hk)).trans (Below.heap_alloc _ _ k (HS2.out k hk).2)
     have hrow0 : Rws w6 (fun k => S' k ∧ k < g6) base l xs := HROWS.out.mono (fun k hk _ => (hkeep k (HS1.out k hk)).trans (HEXO.out.at_ (HS.out k hk).2 (by have := (HS.out k hk).1; omega))) (fun k hk => ⟨HS1.out k hk, by have := (HS.out k hk).2; have := HG6.out.1; omega⟩)
     have hrow6 : Rws w6 S' base (l ++ [rr]) (xs ++ [.slice (some ⟨g6, 0, none⟩) rr.length c7]) := Rws.snoc HG6.out.2.2.1 HG6.out.2.2.2 HSG.out ((hkeep g6 HSG.out).trans HH6.out) HCUR6.out hrow0 (by have := HG6.out.1; omega)
     have hn2 := HN2.out _ hb6
     have hn3 := HN3.out _ hb6
     go_roundw
     case rel => exact ⟨k - 1, l ++ [rr], _, _, S', by simp; omega, num_pred hlt, hexf.setNew (by omega) _, hdkf.set_ hd3 _, by simp; omega, hn3.store _, hn2.other (by omega), hown6.other RVal.ok (fun j hj => (HS2.out j hj).1) h3b _, fun j hj => ⟨(HS2.out j hj).1, by have := (HS2.out j hj).2; simp; omega⟩, hrow6.mono (fun k hk _ => Below.heap_setCell w6 _ _ k (by have := (HS2.out k hk).1; show k ≠ g3; omega)) (fun _ hk => hk), HGL.out.snoc HGR.out⟩
     case measure => simp [intOf]; omega
  ·obtain rfl : k = 0 := by omega
   obtain ⟨A, cc, hv⟩ := (HOWN.out.sl RVal.ok).shape
   subst hv
   obtain ⟨ln, hln⟩ : ∃ n, xs.length = n := ⟨_, rfl⟩
   have HLN := hide hln
   rw [hln] at HOWN c3
   have hlk : l.length ≤ 3 := by omega
   clear hln hxl
   go_wp2_with fail
   have hNB := (HNB2.out.store (.slice A ln cc)).facts.1
   have hdk9 := HDK.out.set_ (g := w.heap.size) (j := 0) hd (.slice A ln cc)
   have hex9 := HEX.out.setNew (g := w.heap.size) (j := 0) (Nat.le_refl _) (.slice A ln cc)
   have hown9 := HOWN.out.other RVal.ok (fun j hj => (HS.out j hj).1) (g := w.heap.size) (j := 0) h2b (.slice A ln cc)
   have hrow9 : Rws (wo.setCell ⟨w.heap.size, 0, none⟩ (.slice A ln cc)) S base l xs := HROWS.out.mono (fun k hk _ => Below.heap_setCell wo _ _ k (by have := (HS.out k hk).1; show k ≠ w.heap.size; omega)) (fun _ hk => hk)
   have hS9 : ∀ j, S j → base ≤ j ∧ j < (wo.setCell ⟨w.heap.size, 0, none⟩ (.slice A ln cc)).heap.size := fun j hj => ⟨(HS.out j hj).1, by have := (HS.out j hj).2; simpa using this⟩
   obtain ⟨W3, hW3⟩ : ∃ W3, W3 = wo.setCell ⟨w.heap.size, 0, none⟩ (.slice A ln cc) := ⟨_, rfl⟩
   rw [← hW3] at hNB hdk9 hex9 hown9 hrow9 hS9 ⊢
   clear hW3
   exact bodyPost_ret (v := .agg #[.slice A ln cc]) (by simp [results, Tryz.results13, go_sem, hNB]) rfl ⟨l, _, xs, S, base, ⟨hlk, HGL.out⟩, rfl, by omega, hown9, hrow9, hS9, hdk9, hex9⟩
end Go.Proofs.YtahamclodagihaaGreatDoor
