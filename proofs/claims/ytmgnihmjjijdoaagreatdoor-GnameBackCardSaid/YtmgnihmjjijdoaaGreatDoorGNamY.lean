/- Names that the laws make: a name. -/
import Derived.Test.YtmgnihmjjijdoaaGreatDoorGNamR
namespace Go.Proofs.YtmgnihmjjijdoaaGreatDoor
open Go.RowKit
def GoodL (l : Name) : Prop := ∀ r ∈ l, GoodR r
theorem GoodL.snoc {l : Name} {r : List Attr} (h : GoodL l) (hr : GoodR r) : GoodL (l ++ [r]) := fun x hx => by
 rcases List.mem_append.1 hx with hx | hx
 ·exact h x hx
 ·simp at hx; subst hx; exact hr
def InR (j : Nat) (r : List Attr) : Prop := j ≤ 2 ∧ ((r = [] ∧ 1 ≤ j) ∨ (∃ a ∈ attTab, r = [a] ∧ j ≤ 1) ∨ ∃ a ∈ attTab, ∃ b ∈ attTab, r = [a, b] ∧ a.1 ≠ b.1 ∧ j = 0)
theorem InR.start {j : Nat} (h : 1 ≤ j) (h2 : j ≤ 2) : InR j [] := ⟨h2, .inl ⟨rfl, h⟩⟩
theorem InR.done {r : List Attr} (h : InR 0 r) : GoodR r := by
 rcases h.2 with ⟨_, h⟩ | ⟨a, ha, h, _⟩ | ⟨a, ha, b, hb, h, hab, _⟩
 ·omega
 ·exact .inl ⟨a, ha, h⟩
 ·exact .inr ⟨a, ha, b, hb, h, hab⟩
theorem InR.first {j : Nat} {a : Attr} (h : InR j []) (ha : a ∈ attTab) : InR (j - 1) [a] := ⟨by have := h.1; omega, .inr (.inl ⟨a, ha, rfl, by have := h.1; omega⟩)⟩
theorem InR.one {j : Nat} {r : List Attr} (h : InR j r) (hj : 0 < j) : r = [] ∨ ∃ a ∈ attTab, r = [a] ∧ j = 1 := by
 rcases h.2 with ⟨h, _⟩ | ⟨a, ha, h, _⟩ | ⟨a, ha, b, hb, h, hab, _⟩
 ·exact .inl h
 ·exact .inr ⟨a, ha, h, by omega⟩
 ·omega
theorem InR.skip {a : Attr} (ha : a ∈ attTab) : InR 0 [a] := ⟨by omega, .inr (.inl ⟨a, ha, rfl, by omega⟩)⟩
theorem InR.second {a b : Attr} (ha : a ∈ attTab) (hb : b ∈ attTab) (hab : a.1 ≠ b.1) : InR 0 [a, b] := ⟨by omega, .inr (.inr ⟨a, ha, b, hb, rfl, hab, rfl⟩)⟩
def NamePost (d : Nat) (w : World) (e : Ending) (w' : World) : Prop :=
 ∃ (n : Name) (v : Value), GoodN n ∧ e = .returned (.agg #[v]) ∧ Sl RRdn 1 w' (Btw w.heap.size w'.heap.size) n [v] ∧ DeckAt w' d ∧ Ex d w w'
theorem num_pred {k : Nat} (h : 0 < k) : Value.int .i64 ((k : Int) - 1) = .int .i64 ((k - 1 : Nat) : Int) := by congr 1; omega
theorem att_cells {w W : World} {ta va : ByteArray} {k : Int} {t : TypeId} (h : W = w.alloc (.cells #[.string ta, .int .i64 k, .string va] t)) :
  W.cell? ⟨w.heap.size, 0, none⟩ = some (.string ta) ∧ W.cell? ⟨w.heap.size, 1, none⟩ = some (.int .i64 k) ∧ W.cell? ⟨w.heap.size, 2, none⟩ = some (.string va) := by
 subst h
 refine ⟨?_, ?_, ?_⟩ <;> (rw [World.cell?_alloc_new]; rfl)
theorem news_att4 (w : World) (S : Nat → Prop) (t : TypeId) (X V : ByteArray) (k : Int) :
  ∀ i y, [(X.data.toList, k, V.data.toList)][i]? = some y → ∃ cs, RAttr (w.alloc (.cells #[.string X, .int .i64 k, .string V] t)) S y cs ∧ ∀ j u, cs[j]? = some u → (w.alloc (.cells #[.string X, .int .i64 k, .string V] t)).cell? ((⟨w.heap.size, 0, none⟩ : Addr).add (i * 3 + j)) = some u :=
 news_att w S t (X.data.toList, k, V.data.toList)
set_option maxRecDepth 100000 in
set_option maxHeartbeats 16000000 in
theorem Name_any (d : Nat) (w : World) (h : DeckAt w d) : Calls Tryz.prog 26 #[.pointer (some ⟨d, 0, none⟩)] w (NamePost d w) := by
 have hd := h.lt
 have HDK0 := hide (fun o1 o2 => (h.alloc o1).alloc o2)
 clear h
 go_enter Tryz.func26, Tryz.ntmps26
 go_wp2_with fail
 refine (Next_any d 4 (by omega) (by omega) _ (HDK0.out _ _)).mono ?_
 rintro e w1 ⟨v4, hv4, rfl, hdk, hex⟩
 have hnb2 : NB w.heap.size (.slice none 0 0) w1 := NB.ex (by
  unfold NB
  rw [Below.heap_alloc _ _ _ (by simp)]
  exact heap_alloc_new w _) hex (by omega)
 have hnb3 : NB (w.heap.size + 1) (.slice none 0 0) w1 := NB.ex (by
  unfold NB
  rw [show w.heap.size + 1 = (w.alloc (.cells #[.slice none 0 0] 24)).heap.size by simp]
  exact heap_alloc_new _ _) hex (by omega)
 have hz1 : w.heap.size + 2 ≤ w1.heap.size := by have := hex.size; simp at this; omega
 have HEX := hide (show Ex d w w1 from (((Ex.refl d w).alloc _).alloc _).trans hex)
 have HDK := hide hdk
 obtain ⟨g3, hg3⟩ : ∃ g3, g3 = w.heap.size + 1 := ⟨_, rfl⟩
 obtain ⟨base, hbase⟩ : ∃ base, base = w.heap.size + 2 := ⟨_, rfl⟩
 rw [← hg3] at hnb3 ⊢
 have HNB2 := hide hnb2
 have HNB3 := hide hnb3
 have h3b : g3 < base := by omega
 have h2b : w.heap.size < base := by omega
 have h23 : w.heap.size < g3 := by omega
 have hd3 : d < g3 := by omega
 have hb1 : base ≤ w1.heap.size := by omega
 clear hex hdk hnb2 hnb3 hz1 hg3 hbase
 go_wp2_with fail
 go_loopw [4] (fun i wr => ∃ (k : Nat) (l : Name) (v : Value) (S : Nat → Prop), k + l.length ≤ 3 ∧ i = .int .i64 k ∧ Ex d w wr ∧ DeckAt wr d ∧ base ≤ wr.heap.size ∧ NB g3 v wr ∧ NB w.heap.size (.slice none 0 0) wr ∧ Own RRdn 1 82 wr base S v l ∧
   (∀ j, S j → base ≤ j ∧ j < wr.heap.size) ∧ GoodL l) (fun i _ => (intOf i).toNat)
 case atStart => exact ⟨v4, [], _, No, by simp; omega, rfl, HEX.out, HDK.out, hb1, HNB3.out, HNB2.out, Own.nil _ _ _ _ _ _, fun j h => h.elim, fun x hx => by cases hx⟩
 case round =>
  obtain ⟨k, l, v, S, hk, rfl, hex, hdk, hgs, hnb3, hnb2, hown, hS, hgl⟩ := hrel
  have HNB3 := hide hnb3
  have HNB2 := hide hnb2
  have HEX := hide hex
  have HDK := hide hdk
  have HOWN := hide hown
  have HS := hide hS
  have HGL := hide hgl
  clear hnb3 hnb2 hex hdk hown hS hgl
  obtain ⟨c3, f3⟩ := HNB3.out.facts
  obtain ⟨c2, f2⟩ := HNB2.out.facts
  obtain ⟨wo, rfl⟩ : ∃ wo : World, wo = wr := ⟨_, rfl⟩
  by_cases hlt : 0 < k
  ·have hk1 : (1 : Int) ≤ (k : Int) := by omega
   have hk0 : (0 : Int) < (k : Int) := by omega
   go_wp2_with fail
   refine (Next_any d 5 (by omega) (by omega) _ HDK.out).mono ?_
   rintro e w2 ⟨v5, hv5, rfl, hdk2, hex2⟩
   have hs2 := hex2.size
   have HEX2 := hide hex2
   have HDK2 := hide hdk2
   have hd2 : d + 1 ≤ w2.heap.size := by omega
   have hv50 : (0 : Int) ≤ (v5 : Int) := by omega
   have hv51 : (v5 : Int) < 5 := by omega
   clear hex2 hdk2 c3 f3 c2 f2
   go_wp2_with fail
   go_loopw [5, 6] (fun x5 x6 wi => ∃ (j : Nat) (rr : List Attr) (vv : Value), InR j rr ∧ vv = x5 ∧ x6 = .int .i64 j ∧ Ex d w2 wi ∧ DeckAt wi d ∧ Own RAttr 3 84 wi w2.heap.size No vv rr ∧ w2.heap.size ≤ wi.heap.size) (fun _ i _ => (intOf i).toNat)
   case atStart => exact ⟨1 + v5 / 4, [], _, InR.start (by omega) (by omega), rfl, by congr 1, Ex.refl _ _, HDK2.out, Own.nil _ _ _ _ _ _, Nat.le_refl _⟩
   case round =>
    obtain ⟨j, rr, vv, hin, rfl, rfl, hexi, hdki, howni, hzi⟩ := hrel
    by_cases hj : 0 < j
    ·have hj1 : (1 : Int) ≤ (j : Int) := by omega
     have hj0 : (0 : Int) < (j : Int) := by omega
     have hj2 : (j : Int) ≤ 2 := by have := hin.1; omega
     have HEXI := hide hexi
     have HDKI := hide hdki
     have HOWNI := hide howni
     have HIN := hide hin
     clear hexi hdki howni hin
     go_wp2_with fail
     refine (attribute_any d _ HDKI.out).mono ?_
     rintro e w5 ⟨ta, va, kk, ham, rfl, hdk5, hex5⟩
     obtain ⟨wq0, hwq0⟩ : ∃ wq0, wq0 = w5.alloc (.cells #[.string ta, .int .i64 kk, .string va] 84) := ⟨_, rfl⟩
     obtain ⟨a0, a1, a2⟩ := att_cells hwq0
     have hownq : Own RAttr 3 84 wq0 w2.heap.size No vv rr := by
      rw [hwq0]
      exact (HOWNI.out.ex RAttr.ok hex5 (by omega) (fun k hk => hk.elim)).alloc RAttr.ok (no_lt _) _
     have hexq : Ex d w2 wq0 := by rw [hwq0]; exact (HEXI.out.trans hex5).alloc _
     have hdkq : DeckAt wq0 d := by rw [hwq0]; exact hdk5.alloc _
     have hzq : w2.heap.size ≤ w5.heap.size := by have := hex5.size; omega
     have hzq2 : wq0.heap.size = w5.heap.size + 1 := by rw [hwq0]; simp
     have HAM := hide ham
     have HZQ := hide hzq2
     have HEX5 := hide hex5
     clear ham hdk5 hex5 hzq2
     rcases HIN.out.one hj with h0 | ⟨x, hx, h0, hj9⟩
     ·obtain ⟨A, c, hvv⟩ := (hownq.sl RAttr.ok).shape
      rw [h0] at hvv
      subst hvv
      rw [h0] at hownq
      have HOWNQ := hide (fun n => hownq.drewN RAttr.ok n)
      have HEXQ := hide (fun n => hexq.drewN n)
      have HDKQ := hide (fun n => hdkq.drewN n)
      have HIN0 := hide (show InR j [] from h0 ▸ HIN.out)
      clear hownq hexq hdkq h0
      go_wp2_with fail
      rw [← hwq0]
      clear hwq0
      go_quiet (fail)
      obtain ⟨wq, hwq⟩ : ∃ wq, wq = wq0.drewN nq := ⟨_, rfl⟩
      have b0 : wq.cell? ⟨w5.heap.size, 0, none⟩ = some (.string ta) := by rw [hwq]; exact a0
      have b1 : wq.cell? ⟨w5.heap.size, 1, none⟩ = some (.int .i64 kk) := by rw [hwq]; exact a1
      have b2 : wq.cell? ⟨w5.heap.size, 2, none⟩ = some (.string va) := by rw [hwq]; exact a2
      have HOWNQ := hide (hwq ▸ HOWNQ.out nq)
      have HEXQ := hide (hwq ▸ HEXQ.out nq)
      have HDKQ := hide (hwq ▸ HDKQ.out nq)
      have hzq3 : w2.heap.size ≤ wq.heap.size := by rw [hwq]; show _ ≤ wq0.heap.size; have := HZQ.out; omega
      rw [← hwq]
      clear hwq a0 a1 a2
      go_wp2_with (at_builtin; refine wpList_app RAttr.ok _ rfl (.tmp 37) (.tmp 39) 82 rfl w2.heap.size 84 (.agg #[.string ⟨#[]⟩, .int .i64 0, .string ⟨#[]⟩]) 40 Tryz.underlying82 info_att rfl (by decide) No _ [] rfl (HOWNQ.out.alloc RAttr.ok (no_lt _) _) ⟨_, 0, none⟩ 1 1 [(ta.data.toList, kk, va.data.toList)] rfl rfl (news_att4 _ _ _ ta va kk) (no_lt _) (by simp) (by simp [maxLen]) (by simp; omega) ?_; intro v7 w7 hown7 hg7 hb7 hat7; have hsz7 := hb7.size; simp at hsz7)
      have hex7 : Ex d w2 w7 := (HEXQ.out.alloc _).then_base hb7
      have hdk7 : DeckAt w7 d := (HDKQ.out.alloc _).keep (hb7.mono hd2)
      have HIN' := hide (show InR (j - 1) ([] ++ [(ta.data.toList, kk, va.data.toList)]) from HIN0.out.first HAM.out)
      go_roundw
      case rel => exact ⟨j - 1, _, _, HIN'.out, rfl, num_pred hj, hex7, hdk7, hown7, by omega⟩
      case measure => (simp [intOf]; omega)
     ·subst h0
      obtain ⟨tx, vx, kx, rfl⟩ : ∃ (tx vx : ByteArray) (kx : Int), x = (tx.data.toList, kx, vx.data.toList) := ⟨⟨x.1.toArray⟩, ⟨x.2.2.toArray⟩, x.2.1, rfl⟩
      obtain ⟨g, cap, ys, hvv, hg1, hg2, hc1, hc2, hr0, hcl, -⟩ := hownq.at_ (i := 0) (by simp)
      subst hvv
      have hys : ys = attC (tx.data.toList, kx, vx.data.toList) := hr0
      rw [hys] at hcl
      have d0 : wq0.cell? ⟨g, 0, none⟩ = some (.string tx) := hcl 0 _ rfl
      have HXM := hide hx
      have HOWNQ := hide (fun n => hownq.drewN RAttr.ok n)
      have HEXQ := hide (fun n => hexq.drewN n)
      have HDKQ := hide (fun n => hdkq.drewN n)
      obtain rfl : j = 1 := hj9
      clear hownq hexq hdkq hys hcl hr0 hx hc1 hc2
      by_cases heq : tx.toList = ta.toList
      ·have t1 : (tx.toList == ta.toList) = true := by simpa using heq
       have t2 : (tx.toList != ta.toList) = false := by simp [heq]
       clear heq
       go_wp2_with fail
       rw [← hwq0]
       clear hwq0
       go_quiet (fail)
       go_wp2_with fail
       go_roundw
       case rel => exact ⟨0, _, _, InR.skip HXM.out, rfl, rfl, HEXQ.out nq, HDKQ.out nq, HOWNQ.out nq, by show _ ≤ wq0.heap.size; have := HZQ.out; omega⟩
       case measure => simp [intOf]
      ·have t1 : (tx.toList == ta.toList) = false := by simpa using heq
       have t2 : (tx.toList != ta.toList) = true := by simpa using heq
       have HNE := hide (show tx.data.toList ≠ ta.data.toList from fun e => heq ((str_eq tx ta).2 e))
       clear heq
       go_wp2_with fail
       rw [← hwq0]
       clear hwq0
       go_quiet (fail)
       obtain ⟨wq, hwq⟩ : ∃ wq, wq = wq0.drewN nq := ⟨_, rfl⟩
       have b0 : wq.cell? ⟨w5.heap.size, 0, none⟩ = some (.string ta) := by rw [hwq]; exact a0
       have b1 : wq.cell? ⟨w5.heap.size, 1, none⟩ = some (.int .i64 kk) := by rw [hwq]; exact a1
       have b2 : wq.cell? ⟨w5.heap.size, 2, none⟩ = some (.string va) := by rw [hwq]; exact a2
       have HOWNQ := hide (hwq ▸ HOWNQ.out nq)
       have HEXQ := hide (hwq ▸ HEXQ.out nq)
       have HDKQ := hide (hwq ▸ HDKQ.out nq)
       have hzq3 : w2.heap.size ≤ wq.heap.size := by rw [hwq]; show _ ≤ wq0.heap.size; have := HZQ.out; omega
       rw [← hwq]
       clear hwq a0 a1 a2 d0
       go_wp2_with (at_builtin; refine wpList_app RAttr.ok _ rfl (.tmp 37) (.tmp 39) 82 rfl w2.heap.size 84 (.agg #[.string ⟨#[]⟩, .int .i64 0, .string ⟨#[]⟩]) 40 Tryz.underlying82 info_att rfl (by decide) No _ [(tx.data.toList, kx, vx.data.toList)] rfl (HOWNQ.out.alloc RAttr.ok (no_lt _) _) ⟨_, 0, none⟩ 1 1 [(ta.data.toList, kk, va.data.toList)] rfl rfl (news_att4 _ _ _ ta va kk) (no_lt _) (by simp) (by simp [maxLen]) (by simp; omega) ?_; intro v7 w7 hown7 hg7 hb7 hat7; have hsz7 := hb7.size; simp at hsz7)
       have hex7 : Ex d w2 w7 := (HEXQ.out.alloc _).then_base hb7
       have hdk7 : DeckAt w7 d := (HDKQ.out.alloc _).keep (hb7.mono hd2)
       have HIN' := hide (show InR (1 - 1) ([(tx.data.toList, kx, vx.data.toList)] ++ [(ta.data.toList, kk, va.data.toList)]) from InR.second HXM.out HAM.out HNE.out)
       go_roundw
       case rel => exact ⟨1 - 1, _, _, HIN'.out, rfl, num_pred hj, hex7, hdk7, hown7, by omega⟩
       case measure => (simp [intOf])
    ·obtain rfl : j = 0 := by omega
     have HGR := hide hin.done
     have hexo : Ex d wo wr := HEX2.out.trans hexi
     have hszo := hexo.size
     have hownS := howni.sl RAttr.ok
     obtain ⟨A6, c7, hvv⟩ := hownS.shape
     subst hvv
     obtain ⟨S', hS'⟩ : ∃ S' : Nat → Prop, S' = fun j => S j ∨ (w2.heap.size ≤ j ∧ j < wr.heap.size) := ⟨_, rfl⟩
     have hS1 : ∀ j, S j → S' j := fun j hj => by rw [hS']; exact .inl hj
     have hS2 : ∀ j, S' j → base ≤ j ∧ j < wr.heap.size := fun j hj => by
      rw [hS'] at hj
      rcases hj with hj | hj
      ·have := HS.out j hj; omega
      ·omega
     have hnoS : ∀ g, v.ownBlock = some g → ¬ S' g := fun g hg hh => by
      rw [hS'] at hh
      have hlt := (HOWN.out.lt g hg).2
      rcases hh with hh | hh
      ·obtain ⟨_, _, h2, _⟩ := HOWN.out
       exact h2 g hg hh
      ·omega
     have hownO := ((HOWN.out.ex RRdn.ok hexo (by omega) HS.out).more RRdn.ok hS1 hnoS)
     have hownA := hownO.alloc RRdn.ok (fun j hj => (hS2 j hj).2) (.cells #[.slice A6 rr.length c7] 82)
     have hgA : ∀ j, S' j → j < (wr.alloc (.cells #[.slice A6 rr.length c7] 82)).heap.size := fun j hj => by have := (hS2 j hj).2; simp; omega
     have hnew : Sl RAttr 3 (wr.alloc (.cells #[.slice A6 rr.length c7] 82)) S' rr [.slice A6 rr.length c7] := (Sl.ok RAttr.ok).mono hownS (fun j hj => Below.heap_alloc _ _ j (by rcases hj with hj | hj; exact hj.elim; exact hj.2)) (fun j hj => by rw [hS']; rcases hj with hj | hj; exact hj.elim; exact .inr hj)
     have HNEW := hide (news_one (R := RRdn) hnew)
     have hexA : Ex d w (wr.alloc (.cells #[.slice A6 rr.length c7] 82)) := (HEX.out.trans hexo).alloc _
     have hdkA : DeckAt (wr.alloc (.cells #[.slice A6 rr.length c7] 82)) d := hdki.alloc _
     have hnb3 := (HNB3.out.ex hexo (by omega)).below ((Below.refl wr.heap.size wr).alloc (Nat.le_refl _) (.cells #[.slice A6 rr.length c7] 82))
     have hnb2 := (HNB2.out.ex hexo (by omega)).below ((Below.refl wr.heap.size wr).alloc (Nat.le_refl _) (.cells #[.slice A6 rr.length c7] 82))
     have HN3 := hide (fun W (h : Below base (wr.alloc (.cells #[.slice A6 rr.length c7] 82)) W) => (show NB g3 v W from (h.block g3 h3b).trans hnb3))
     have HN2 := hide (fun W (h : Below base (wr.alloc (.cells #[.slice A6 rr.length c7] 82)) W) => (show NB w.heap.size (.slice none 0 0) W from (h.block _ h2b).trans hnb2))
     have c3 := (HNB3.out.ex hexo (by omega)).facts.1
     have HEXA := hide hexA
     have HDKA := hide hdkA
     have HOA := hide hownA
     have HS2 := hide hS2
     have hbz : base ≤ (wr.alloc (.cells #[.slice A6 rr.length c7] 82)).heap.size := by simp; omega
     have hwb : w.heap.size ≤ base := by omega
     have hlk : l.length ≤ 3 := by omega
     clear howni hexi hdki hownS hS' hS1 hS2 hnoS hownO hownA hnew hexA hdkA hnb3 hnb2 hin hexo
     go_wp2_with (at_builtin; refine wpList_app RRdn.ok _ rfl (.tmp 42) (.tmp 44) 22 rfl base 82 (.slice none 0 0) 24 Tryz.underlying22 info_rdn rfl (by decide) S' _ l rfl HOA.out ⟨_, 0, none⟩ 1 1 [rr] rfl rfl HNEW.out hgA (by simp; omega) (by simp [maxLen]; omega) hbz ?_; intro v6 w6 hown6 hg6 hb6 hat6; obtain ⟨c6, f6⟩ := (HN3.out _ hb6).facts; have hsz6 := hb6.size; obtain ⟨A8, c8, hv8⟩ := (hown6.sl RRdn.ok).shape; obtain ⟨n8, hn8⟩ : ∃ n8, (l ++ [rr]).length = n8 := ⟨_, rfl⟩; rw [hn8] at hv8; subst hv8; clear hn8)
     have hsz7 : wr.heap.size + 1 ≤ w6.heap.size := by simpa using hsz6
     have hexf : Ex d w w6 := HEXA.out.then_base (hb6.mono hwb)
     have hdkf : DeckAt w6 d := HDKA.out.keep (hb6.mono (by omega))
     have hn2 := HN2.out _ hb6
     have hn3 := HN3.out _ hb6
     go_roundw
     case rel => exact ⟨k - 1, l ++ [rr], _, S', by simp; omega, num_pred hlt, hexf.setNew (by omega) _, hdkf.set_ hd3 _, by simp; omega, hn3.store _, hn2.other (by omega), hown6.other RRdn.ok (fun j hj => (HS2.out j hj).1) h3b _, fun j hj => ⟨(HS2.out j hj).1, by have := (HS2.out j hj).2; simp; omega⟩, HGL.out.snoc HGR.out⟩
     case measure => simp [intOf]; omega
  ·obtain rfl : k = 0 := by omega
   have hslB := (Sl.ok RRdn.ok).mono (HOWN.out.sl RRdn.ok) (fun _ _ => rfl) (S' := fun j => base ≤ j ∧ j < wo.heap.size) (fun j hj => by rcases hj with hj | hj; exact HS.out j hj; exact hj)
   obtain ⟨A, cc, hv⟩ := hslB.shape
   subst hv
   have HSLB := hide hslB
   have hlk : l.length ≤ 3 := by omega
   clear hslB
   go_wp2_with fail
   have hNB := (HNB2.out.store (.slice A l.length cc)).facts.1
   have hdk9 := HDK.out.set_ (g := w.heap.size) (j := 0) hd (.slice A l.length cc)
   have hex9 := HEX.out.setNew (g := w.heap.size) (j := 0) (Nat.le_refl _) (.slice A l.length cc)
   have hsl9 : Sl RRdn 1 (wo.setCell ⟨w.heap.size, 0, none⟩ (.slice A l.length cc)) (Btw w.heap.size (wo.setCell ⟨w.heap.size, 0, none⟩ (.slice A l.length cc)).heap.size) l [.slice A l.length cc] :=
    (Sl.ok RRdn.ok).mono HSLB.out (fun j hj => Below.heap_setCell wo _ _ j (by have := hj.1; show j ≠ w.heap.size; omega)) (fun j hj => ⟨by have := hj.1; omega, by have := hj.2; simp; omega⟩)
   obtain ⟨W3, hW3⟩ : ∃ W3, W3 = wo.setCell ⟨w.heap.size, 0, none⟩ (.slice A l.length cc) := ⟨_, rfl⟩
   rw [← hW3] at hNB hdk9 hex9 hsl9 ⊢
   clear hW3
   exact bodyPost_ret (v := .agg #[.slice A l.length cc]) (by simp [results, Tryz.results26, go_sem, hNB]) rfl ⟨l, _, ⟨hlk, HGL.out⟩, rfl, hsl9, hdk9, hex9⟩
end Go.Proofs.YtmgnihmjjijdoaaGreatDoor
namespace Go.Proofs.YtmgnihmjjijdoaaGreatDoor
open Go.RowKit
def AB (g : Nat) (ta : ByteArray) (k : Int) (va : ByteArray) (W : World) : Prop := W.heap[g]? = some (.cells #[.string ta, .int .i64 k, .string va] 84 (0, 0))
theorem AB.facts {g : Nat} {ta va : ByteArray} {k : Int} {W : World} (h : AB g ta k va W) : W.cell? ⟨g, 0, none⟩ = some (.string ta) ∧ W.cell? ⟨g, 1, none⟩ = some (.int .i64 k) ∧ W.cell? ⟨g, 2, none⟩ = some (.string va) ∧ W.frozen? ⟨g, 2, none⟩ = false := by
 unfold AB at h
 simp [World.cell?, World.frozen?, h]
theorem AB.lt {g : Nat} {ta va : ByteArray} {k : Int} {W : World} (h : AB g ta k va W) : g < W.heap.size := (Array.getElem?_eq_some_iff.1 h).1
theorem AB.ex {g d : Nat} {ta va : ByteArray} {k : Int} {W W' : World} (h : AB g ta k va W) (hx : Ex d W W') (hd : g ≠ d) : AB g ta k va W' := (hx.at_ h.lt hd).trans h
theorem AB.below {g : Nat} {ta va : ByteArray} {k : Int} {W W' : World} (h : AB g ta k va W) (hx : Below W.heap.size W W') : AB g ta k va W' := (hx.block g h.lt).trans h
theorem AB.store {g : Nat} {ta va : ByteArray} {k : Int} {W : World} (h : AB g ta k va W) (u : ByteArray) : AB g ta k u (W.setCell ⟨g, 2, none⟩ (.string u)) := by
 unfold AB at *
 simp [World.setCell, Array.getElem?_modify, h]
end Go.Proofs.YtmgnihmjjijdoaaGreatDoor
