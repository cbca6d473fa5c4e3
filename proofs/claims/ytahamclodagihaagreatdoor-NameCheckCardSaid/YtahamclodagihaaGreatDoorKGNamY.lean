/- Names that the laws make: a name. -/
import Derived.Test.YtahamclodagihaaGreatDoorKGNamR
namespace Go.Proofs.YtahamclodagihaaGreatDoor
open Go.RowKit
def GoodL (l : Name) : Prop := ∀ r ∈ l, GoodR r
theorem GoodL.snoc {l : Name} {r : List Attr} (h : GoodL l) (hr : GoodR r) : GoodL (l ++ [r]) := fun x hx => by
 rcases List.mem_append.1 hx with hx | hx
 ·exact h x hx
 ·simp at hx; subst hx; exact hr
def InR (j : Nat) (r : List Attr) : Prop := j ≤ 2 ∧ ((r = [] ∧ 1 ≤ j) ∨ (∃ a ∈ attTab, r = [a] ∧ j ≤ 1) ∨ ∃ a ∈ attTab, ∃ b ∈ attTab, r = [a, b] ∧ a.1 ≠ b.1 ∧ j = 0)
theorem InR.start {j : Nat} (h : 1 ≤ j) (h2 : j ≤ 2) : InR j [] := ⟨h2, .inl ⟨rfl, h⟩⟩
theorem InR.done {r : List Attr} (h : InR 0 r) : GoodR r := by
 rcases h.2 with ⟨_, h⟩ | ⟨a, ha, h, _⟩ | ⟨a, ha, b, hb, h, hab, _⟩
 ·omega
 ·exact .inl ⟨a, ha, h⟩
 ·exact .inr ⟨a, ha, b, hb, h, hab⟩
theorem InR.first {j : Nat} {a : Attr} (h : InR j []) (ha : a ∈ attTab) : InR (j - 1) [a] := ⟨by have := h.1; omega, .inr (.inl ⟨a, ha, rfl, by have := h.1; omega⟩)⟩
theorem InR.one {j : Nat} {r : List Attr} (h : InR j r) (hj : 0 < j) : r = [] ∨ ∃ a ∈ attTab, r = [a] ∧ j = 1 := by
 rcases h.2 with ⟨h, _⟩ | ⟨a, ha, h, _⟩ | ⟨a, ha, b, hb, h, hab, _⟩
 ·exact .inl h
 ·exact .inr ⟨a, ha, h, by omega⟩
 ·omega
theorem InR.skip {a : Attr} (ha : a ∈ attTab) : InR 0 [a] := ⟨by omega, .inr (.inl ⟨a, ha, rfl, by omega⟩)⟩
theorem InR.second {a b : Attr} (ha : a ∈ attTab) (hb : b ∈ attTab) (hab : a.1 ≠ b.1) : InR 0 [a, b] := ⟨by omega, .inr (.inr ⟨a, ha, b, hb, rfl, hab, rfl⟩)⟩
def NamePost (d : Nat) (w : World) (e : Ending) (w' : World) : Prop :=
 ∃ (n : Name) (v : Value), GoodN n ∧ e = .returned (.agg #[v]) ∧ Sl RRdn 1 w' (Btw w.heap.size w'.heap.size) n [v] ∧ DeckAt w' d ∧ Ex d w w'
theorem num_pred {k : Nat} (h : 0 < k) : Value.int .i64 ((k : Int) - 1) = .int .i64 ((k - 1 : Nat) : Int) := by congr 1; omega
theorem att_cells {w W : World} {ta va : ByteArray} {k : Int} {t : TypeId} (h : W = w.alloc (.cells #[.string ta, .int .i64 k, .string va] t)) :
  W.cell? ⟨w.heap.size, 0, none⟩ = some (.string ta) ∧ W.cell? ⟨w.heap.size, 1, none⟩ = some (.int .i64 k) ∧ W.cell? ⟨w.heap.size, 2, none⟩ = some (.string va) := by
 subst h
 refine ⟨?_, ?_, ?_⟩ <;> (rw [World.cell?_alloc_new]; rfl)
theorem news_att4 (w : World) (S : Nat → Prop) (t : TypeId) (X V : ByteArray) (k : Int) :
  ∀ i y, [(X.data.toList, k, V.data.toList)][i]? = some y → ∃ cs, RAttr (w.alloc (.cells #[.string X, .int .i64 k, .string V] t)) S y cs ∧ ∀ j u, cs[j]? = some u → (w.alloc (.cells #[.string X, .int .i64 k, .string V] t)).cell? ((⟨w.heap.size, 0, none⟩ : Addr).add (i * 3 + j)) = some u :=
 news_att w S t (X.data.toList, k, V.data.toList)
set_option maxRecDepth 100000 in
set_option maxHeartbeats 16000000 in
theorem Name_any (d : Nat) (w : World) (h : DeckAt w d) : Calls Tryz.prog 13 #[.pointer (some ⟨d, 0, none⟩)] w (NamePost d w) := by
 have hd := h.lt
 have HDK0 := hide (fun o1 o2 => (h.alloc o1).alloc o2)
 clear h
 go_enter Tryz.func13, Tryz.ntmps13
 go_wp2_with fail
 refine (Next_any d 4 (by omega) (by omega) _ (HDK0.out _ _)).mono ?_
 rintro e w1 ⟨v4, hv4, rfl, hdk, hex⟩
 have hnb2 : NB w.heap.size (.slice none 0 0) w1 := NB.ex (by
  unfold NB
  rw [Below.heap_alloc _ _ _ (by simp)]
  exact heap_alloc_new w _) hex (by omega)
 have hnb3 : NB (w.heap.size + 1) (.slice none 0 0) w1 := NB.ex (by
  unfold NB
  rw [show w.heap.size + 1 = (w.alloc (.cells #[.slice none 0 0] 24)).heap.size by simp]
  exact heap_alloc_new _ _) hex (by omega)
 have hz1 : w.heap.size + 2 ≤ w1.heap.size := by have := hex.size; simp at this; omega
 have HEX := hide (show Ex d w w1 from (((Ex.refl d w).alloc _).alloc _).trans hex)
 have HDK := hide hdk
 obtain ⟨g3, hg3⟩ : ∃ g3, g3 = w.heap.size + 1 := ⟨_, rfl⟩
 obtain ⟨base, hbase⟩ : ∃ base, base = w.heap.size + 2 := ⟨_, rfl⟩
 rw [← hg3] at hnb3 ⊢
 have HNB2 := hide hnb2
 have HNB3 := hide hnb3
 have h3b : g3 < base := by omega
 have h2b : w.heap.size < base := by omega
 have h23 : w.heap.size < g3 := by omega
 have hd3 : d < g3 := by omega
 have hb1 : base ≤ w1.heap.size := by omega
 clear hex hdk hnb2 hnb3 hz1 hg3 hbase
 go_wp2_with fail
 go_loopw [4] (fun i wr => ∃ (k : Nat) (l : Name) (v : Value) (S : Nat → Prop), k + l.length ≤ 3 ∧ i = .int .i64 k ∧ Ex d w wr ∧ DeckAt wr d ∧ base ≤ wr.heap.size ∧ NB g3 v wr ∧ NB w.heap.size (.slice none 0 0) wr ∧ Own RRdn 1 33 wr base S v l ∧
   (∀ j, S j → base ≤ j ∧ j < wr.heap.size) ∧ GoodL l) (fun i _ => (intOf i).toNat)
 case atStart => exact ⟨v4, [], _, No, by simp; omega, rfl, HEX.out, HDK.out, hb1, HNB3.out, HNB2.out, Own.nil _ _ _ _ _ _, fun j h => h.elim, fun x hx => by cases hx⟩
 case round =>
  obtain ⟨k, l, v, S, hk, rfl, hex, hdk, hgs, hnb3, hnb2, hown, hS, hgl⟩ := hrel
  have HNB3 := hide hnb3
  have HNB2 := hide hnb2
  have HEX := hide hex
  have HDK := hide hdk
  have HOWN := hide hown
  have HS := hide hS
  have HGL := hide hgl
  clear hnb3 hnb2 hex hdk hown hS hgl
  obtain ⟨c3, f3⟩ := HNB3.out.facts
  obtain ⟨c2, f2⟩ := HNB2.out.facts
  obtain ⟨wo, rfl⟩ : ∃ wo : World, wo = wr := ⟨_, rfl⟩
  by_cases hlt : 0 < k
  ·have hk1 : (1 : Int) ≤ (k : Int) := by omega
   have hk0 : (0 : Int) < (k : Int) := by omega
   go_wp2_with fail
   refine (Next_any d 5 (by omega) (by omega) _ HDK.out).mono ?_
   rintro e w2 ⟨v5, hv5, rfl, hdk2, hex2⟩
   have hs2 := hex2.size
   have HEX2 := hide hex2
   have HDK2 := hide hdk2
   have hd2 : d + 1 ≤ w2.heap.size := by omega
   have hv50 : (0 : Int) ≤ (v5 : Int) := by omega
   have hv51 : (v5 : Int) < 5 := by omega
   clear hex2 hdk2 c3 f3 c2 f2
   go_wp2_with fail
   go_loopw [5, 6] (fun x5 x6 wi => ∃ (j : Nat) (rr : List Attr) (vv : Value), InR j rr ∧ vv = x5 ∧ x6 = .int .i64 j ∧ Ex d w2 wi ∧ DeckAt wi d ∧ Own RAttr 3 27 wi w2.heap.size No vv rr ∧ w2.heap.size ≤ wi.heap.size) (fun _ i _ => (intOf i).toNat)
   case atStart => exact ⟨1 + v5 / 4, [], _, InR.start (by omega) (by omega), rfl, by congr 1, Ex.refl _ _, HDK2.out, Own.nil _ _ _ _ _ _, Nat.le_refl _⟩
   case round =>
    obtain ⟨j, rr, vv, hin, rfl, rfl, hexi, hdki, howni, hzi⟩ := hrel
    by_cases hj : 0 < j
    ·have hj1 : (1 : Int) ≤ (j : Int) := by omega
     have hj0 : (0 : Int) < (j : Int) := by omega
     have hj2 : (j : Int) ≤ 2 := by have := hin.1; omega
     have HEXI := hide hexi
     have HDKI := hide hdki
     have HOWNI := hide howni
     have HIN := hide hin
     clear hexi hdki howni hin
     go_wp2_with fail
     refine (attribute_any d _ HDKI.out).mono ?_
     rintro e w5 ⟨ta, va, kk, ham, rfl, hdk5, hex5⟩
     obtain ⟨wq0, hwq0⟩ : ∃ wq0, wq0 = w5.alloc (.cells #[.string ta, .int .i64 kk, .string va] 27) := ⟨_, rfl⟩
     obtain ⟨a0, a1, a2⟩ := att_cells hwq0
     have hownq : Own RAttr 3 27 wq0 w2.heap.size No vv rr := by
      rw [hwq0]
      exact (HOWNI.out.ex RAttr.ok hex5 (by omega) (fun k hk => hk.elim)).alloc RAttr.ok (no_lt _) _
     have hexq : Ex d w2 wq0 := by rw [hwq0]; exact (HEXI.out.trans hex5).alloc _
     have hdkq : DeckAt wq0 d := by rw [hwq0]; exact hdk5.alloc _
     have hzq : w2.heap.size ≤ w5.heap.size := by have := hex5.size; omega
     have hzq2 : wq0.heap.size = w5.heap.size + 1 := by rw [hwq0]; simp
     have HAM := hide ham
     have HZQ := hide hzq2
     have HEX5 := hide hex5
     clear ham hdk5 hex5 hzq2
     rcases HIN.out.one hj with h0 | ⟨x, hx, h0, hj9⟩
     ·obtain ⟨A, c, hvv⟩ := (hownq.sl RAttr.ok).shape
      rw [h0] at hvv
      subst hvv
      rw [h0] at hownq
      have HOWNQ := hide (fun n => hownq.drewN RAttr.ok n)
      have HEXQ := hide (fun n => hexq.drewN n)
      have HDKQ := hide (fun n => hdkq.drewN n)
      have HIN0 := hide (show InR j [] from h0 ▸ HIN.out)
      clear hownq hexq hdkq h0
      go_wp2_with fail
      rw [← hwq0]
      clear hwq0
      go_quiet (fail)
      obtain ⟨wq, hwq⟩ : ∃ wq, wq = wq0.drewN nq := ⟨_, rfl⟩
      have b0 : wq.cell? ⟨w5.heap.size, 0, none⟩ = some (.string ta) := by rw [hwq]; exact a0
      have b1 : wq.cell? ⟨w5.heap.size, 1, none⟩ = some (.int .i64 kk) := by rw [hwq]; exact a1
      have b2 : wq.cell? ⟨w5.heap.size, 2, none⟩ = some (.string va) := by rw [hwq]; exact a2
      have HOWNQ := hide (hwq ▸ HOWNQ.out nq)
      have HEXQ := hide (hwq ▸ HEXQ.out nq)
      have HDKQ := hide (hwq ▸ HDKQ.out nq)
      have hzq3 : w2.heap.size ≤ wq.heap.size := by rw [hwq]; show _ ≤ wq0.heap.size; have := HZQ.out; omega
      rw [← hwq]
      clear hwq a0 a1 a2
      go_wp2_with (at_builtin; refine wpList_app RAttr.ok _ rfl (.tmp 37) (.tmp 39) 33 rfl w2.heap.size 27 (.agg #[.string ⟨#[]⟩, .int .i64 0, .string ⟨#[]⟩]) 40 Tryz.underlying33 info_att rfl (by decide) No _ [] rfl (HOWNQ.out.alloc RAttr.ok (no_lt _) _) ⟨_, 0, none⟩ 1 1 [(ta.data.toList, kk, va.data.toList)] rfl rfl (news_att4 _ _ _ ta va kk) (no_lt _) (by simp) (by simp [maxLen]) (by simp; omega) ?_; intro v7 w7 hown7 hg7 hb7 hat7; have hsz7 := hb7.size; simp at hsz7)
      have hex7 : Ex d w2 w7 := (HEXQ.out.alloc _).then_base hb7
      have hdk7 : DeckAt w7 d := (HDKQ.out.alloc _).keep (hb7.mono hd2)
      have HIN' := hide (show InR (j - 1) ([] ++ [(ta.data.toList, kk, va.data.toList)]) from HIN0.out.first HAM.out)
      go_roundw
      case rel => exact ⟨j - 1, _, _, HIN'.out, rfl, num_pred hj, hex7, hdk7, hown7, by omega⟩
      case measure => (simp [intOf]; omega)
     ·subst h0
      obtain ⟨tx, vx, kx, rfl⟩ : ∃ (tx vx : ByteArray) (kx : Int), x = (tx.data.toList, kx, vx.data.toList) := ⟨⟨x.1.toArray⟩, ⟨x.2.2.toArray⟩, x.2.1, rfl⟩
      obtain ⟨g, cap, ys, hvv, hg1, hg2, hc1, hc2, hr0, hcl, -⟩ := hownq.at_ (i := 0) (by simp)
      subst hvv
      have hys : ys = attC (tx.data.toList, kx, vx.data.toList) := hr0
      rw [hys] at hcl
      have d0 : wq0.cell? ⟨g, 0, none⟩ = some (.string tx) := hcl 0 _ rfl
      have HXM := hide hx
      have HOWNQ := hide (fun n => hownq.drewN RAttr.ok n)
      have HEXQ := hide (fun n => hexq.drewN n)
      have HDKQ := hide (fun n => hdkq.drewN n)
      obtain rfl : j = 1 := hj9
      clear hownq hexq hdkq hys hcl hr0 hx hc1 hc2
      by_cases heq : tx.toList = ta.toList
      ·have t1 : (tx.toList == ta.toList) = true := by simpa using heq
       have t2 : (tx.toList != ta.toList) = false := by simp [heq]
       clear heq
       go_wp2_with fail
       rw [← hwq0]
       clear hwq0
       go_quiet (fail)
       go_wp2_with fail
       go_roundw
       case rel => exact ⟨0, _, _, InR.skip HXM.out, rfl, rfl, HEXQ.out nq, HDKQ.out nq, HOWNQ.out nq, by show _ ≤ wq0.heap.size; have := HZQ.out; omega⟩
       case measure => simp [intOf]
      ·have t1 : (tx.toList == ta.toList) = false := by simpa using heq
       have t2 : (tx.toList != ta.toList) = true := by simpa using heq
       have HNE := hide (show tx.data.toList ≠ ta.data.toList from fun e => heq ((str_eq tx ta).2 e))
       clear heq
       go_wp2_with fail
       rw [← hwq0]
       clear hwq0
       go_quiet (fail)
       obtain ⟨wq, hwq⟩ : ∃ wq, wq = wq0.drewN nq := ⟨_, rfl⟩
       have b0 : wq.cell? ⟨w5.heap.size, 0, none⟩ = some (.string ta) := by rw [hwq]; exact a0
       have b1 : wq.cell? ⟨w5.heap.size, 1, none⟩ = some (.int .i64 kk) := by rw [hwq]; exact a1
       have b2 : wq.cell? ⟨w5.heap.size, 2, none⟩ = some (.string va) := by rw [hwq]; exact a2
       have HOWNQ := hide (hwq ▸ HOWNQ.out nq)
       have HEXQ := hide (hwq ▸ HEXQ.out nq)
       have HDKQ := hide (hwq ▸ HDKQ.out nq)
       have hzq3 : w2.heap.size ≤ wq.heap.size := by rw [hwq]; show _ ≤ wq0.heap.size; have := HZQ.out; omega
       rw [← hwq]
       clear hwq a0 a1 a2 d0
       go_wp2_with (at_builtin; refine wpList_app RAttr.ok _ rfl (.tmp 37) (.tmp 39) 33 rfl w2.heap.size 27 (.agg #[.string ⟨#[]⟩, .int .i64 0, .string ⟨#[]⟩]) 40 Tryz.underlying33 info_att rfl (by decide) No _ [(tx.data.toList, kx, vx.data.toList)] rfl (HOWNQ.out.alloc RAttr.ok (no_lt _) _) ⟨_, 0, none⟩ 1 1 [(ta.data.toList, kk, va.data.toList)] rfl rfl (news_att4 _ _ _ ta va kk) (no_lt _) (by simp) (by simp [maxLen]) (by simp; omega) ?_; intro v7 w7 hown7 hg7 hb7 hat7; have hsz7 := hb7.size; simp at hsz7)
       have hex7 : Ex d w2 w7 := (HEXQ.out.alloc _).then_base hb7
       have hdk7 : DeckAt w7 d := (HDKQ.out.alloc _).keep (hb7.mono hd2)
       have HIN' := hide (show InR (1 - 1) ([(tx.data.toList, kx, vx.data.toList)] ++ [(ta.data.toList, kk, va.data.toList)]) from InR.second HXM.out HAM.out HNE.out)
       go_roundw
       case rel => exact ⟨1 - 1, _, _, HIN'.out, rfl, num_pred hj, hex7, hdk7, hown7, by omega⟩
       case measure => (simp [intOf])
    ·obtain rfl : j = 0 := by omega
     have HGR := hide hin.done
     have hexo : Ex d wo wr := HEX2.out.trans hexi
     have hszo := hexo.size
     have hownS := howni.sl RAttr.ok
     obtain ⟨A6, c7, hvv⟩ := hownS.shape
     subst hvv
     obtain ⟨S', hS'⟩ : ∃ S' : Nat → Prop, S' = fun j => S j ∨ (w2.heap.size ≤ j ∧ j < wr.heap.size) := ⟨_, rfl⟩
     have hS1 : ∀ j, S j → S' j := fun j hj => by rw [hS']; exact .inl hj
     have hS2 : ∀ j, S' j → base ≤ j ∧ j < wr.heap.size := fun j hj => by
      rw [hS'] at hj
      rcases hj with hj | hj
      ·have := HS.out j hj; omega
      ·omega
     have hnoS : ∀ g, v.ownBlock = some g → ¬ S' g := fun g hg hh => by
      rw [hS'] at hh
      have hlt := (HOWN.out.lt g hg).2
      rcases hh with hh | hh
      ·obtain ⟨_, _, h2, _⟩ := HOWN.out
       exact h2 g hg hh
      ·omega
     have hownO := ((HOWN.out.ex RRdn.ok hexo (by omega) HS.out).more RRdn.ok hS1 hnoS)
     have hownA := hownO.alloc RRdn.ok (fun j hj => (hS2 j hj).2) (.cells #[.slice A6 rr.length c7] 33)
     have hgA : ∀ j, S' j → j < (wr.alloc (.cells #[.slice A6 rr.length c7] 33)).heap.size := fun j hj => by have := (hS2 j hj).2; simp; omega
     have hnew : Sl RAttr 3 (wr.alloc (.cells #[.slice A6 rr.length c7] 33)) S' rr [.slice A6 rr.length c7] := (Sl.ok RAttr.ok).mono hownS (fun j hj => Below.heap_alloc _ _ j (by rcases hj with hj | hj; exact hj.elim; exact hj.2)) (fun j hj => by rw [hS']; rcases hj with hj | hj; exact hj.elim; exact .inr hj)
     have HNEW := hide (news_one (R := RRdn) hnew)
     have hexA : Ex d w (wr.alloc (.cells #[.slice A6 rr.length c7] 33)) := (HEX.out.trans hexo).alloc _
     have hdkA : DeckAt (wr.alloc (.cells #[.slice A6 rr.length c7] 33)) d := hdki.alloc _
     have hnb3 := (HNB3.out.ex hexo (by omega)).below ((Below.refl wr.heap.size wr).alloc (Nat.le_refl _) (.cells #[.slice A6 rr.length c7] 33))
     have hnb2 := (HNB2.out.ex hexo (by omega)).below ((Below.refl wr.heap.size wr).alloc (Nat.le_refl _) (.cells #[.slice A6 rr.length c7] 33))
     have HN3 := hide (fun W (h : Below base (wr.alloc (.cells #[.slice A6 rr.length c7] 33)) W) => (show NB g3 v W from (h.block g3 h3b).trans hnb3))
     have HN2 := hide (fun W (h : Below base (wr.alloc (.cells #[.slice A6 rr.length c7] 33)) W) => (show NB w.heap.size (.slice none 0 0) W from (h.block _ h2b).trans hnb2))
     have c3 := (HNB3.out.ex hexo (by omega)).facts.1
     have HEXA := hide hexA
     have HDKA := hide hdkA
     have HOA := hide hownA
     have HS2 := hide hS2
     have hbz : base ≤ (wr.alloc (.cells #[.slice A6 rr.length c7] 33)).heap.size := by simp; omega
     have hwb : w.heap.size ≤ base := by omega
     have hlk : l.length ≤ 3 := by omega
     clear howni hexi hdki hownS hS' hS1 hS2 hnoS hownO hownA hnew hexA hdkA hnb3 hnb2 hin hexo
     go_wp2_with (at_builtin; refine wpList_app RRdn.ok _ rfl (.tmp 42) (.tmp 44) 22 rfl base 33 (.slice none 0 0) 24 Tryz.underlying22 info_rdn rfl (by decide) S' _ l rfl HOA.out ⟨_, 0, none⟩ 1 1 [rr] rfl rfl HNEW.out hgA (by simp; omega) (by simp [maxLen]; omega) hbz ?_; intro v6 w6 hown6 hg6 hb6 hat6; obtain ⟨c6, f6⟩ := (HN3.out _ hb6).facts; have hsz6 := hb6.size; obtain ⟨A8, c8, hv8⟩ := (hown6.sl RRdn.ok).shape; obtain ⟨n8, hn8⟩ : ∃ n8, (l ++ [rr]).length = n8 := ⟨_, rfl⟩; rw [hn8] at hv8; subst hv8; clear hn8)
     have hsz7 : wr.heap.size + 1 ≤ w6.heap.size := by simpa using hsz6
     have hexf : Ex d w w6 := HEXA.out.then_base (hb6.mono hwb)
     have hdkf : DeckAt w6 d := HDKA.out.keep (hb6.mono (by omega))
     have hn2 := HN2.out _ hb6
     have hn3 := HN3.out _ hb6
     go_roundw
     case rel => exact ⟨k - 1, l ++ [rr], _, S', by simp; omega, num_pred hlt, hexf.setNew (by omega) _, hdkf.set_ hd3 _, by simp; omega, hn3.store _, hn2.other (by omega), hown6.other RRdn.ok (fun j hj => (HS2.out j hj).1) h3b _, fun j hj => ⟨(HS2.out j hj).1, by have := (HS2.out j hj).2; simp; omega⟩, HGL.out.snoc HGR.out⟩
     case measure => simp [intOf]; omega
  ·obtain rfl : k = 0 := by omega
   have hslB := (Sl.ok RRdn.ok).mono (HOWN.out.sl RRdn.ok) (fun _ _ => rfl) (S' := fun j => base ≤ j ∧ j < wo.heap.size) (fun j hj => by rcases hj with hj | hj; exact HS.out j hj; exact hj)
   obtain ⟨A, cc, hv⟩ := hslB.shape
   subst hv
   have HSLB := hide hslB
   have hlk : l.length ≤ 3 := by omega
   clear hslB
   go_wp2_with fail
   have hNB := (HNB2.out.store (.slice A l.length cc)).facts.1
   have hdk9 := HDK.out.set_ (g := w.heap.size) (j := 0) hd (.slice A l.length cc)
   have hex9 := HEX.out.setNew (g := w.heap.size) (j := 0) (Nat.le_refl _) (.slice A l.length cc)
   have hsl9 : Sl RRdn 1 (wo.setCell ⟨w.heap.size, 0, none⟩ (.slice A l.length cc)) (Btw w.heap.size (wo.setCell ⟨w.heap.size, 0, none⟩ (.slice A l.length cc)).heap.size) l [.slice A l.length cc] :=
    (Sl.ok RRdn.ok).mono HSLB.out (fun j hj => Below.heap_setCell wo _ _ j (by have := hj.1; show j ≠ w.heap.size; omega)) (fun j hj => ⟨by have := hj.1; omega, by have := hj.2; simp; omega⟩)
   obtain ⟨W3, hW3⟩ : ∃ W3, W3 = wo.setCell ⟨w.heap.size, 0, none⟩ (.slice A l.length cc) := ⟨_, rfl⟩
   rw [← hW3] at hNB hdk9 hex9 hsl9 ⊢
   clear hW3
   exact bodyPost_ret (v := .agg #[.slice A l.length cc]) (by simp [results, Tryz.results13, go_sem, hNB]) rfl ⟨l, _, ⟨hlk, HGL.out⟩, rfl, hsl9, hdk9, hex9⟩
end Go.Proofs.YtahamclodagihaaGreatDoor
namespace Go.Proofs.YtahamclodagihaaGreatDoor
open Go.RowKit
theorem Own.att {e : TypeId} {w : World} {base : Nat} (hbase : base ≤ w.heap.size) (ta va : ByteArray) (k : Int) :
    Own RAttr 3 e (w.alloc (.cells #[.string ta, .int .i64 k, .string va] e)) base No (.slice (some ⟨w.heap.size, 0, none⟩) 1 1) [(ta.data.toList, k, va.data.toList)] := by
  refine ⟨[.string ta, .int .i64 k, .string va], ⟨rfl, .inr ⟨w.heap.size, 1, #[.string ta, .int .i64 k, .string va], rfl, hbase, heap_alloc_new w _, Nat.le_refl _, by simp [maxLen], rfl, rfl⟩⟩, fun g _ hg => hg.elim, fun i y hy => ?_⟩
  match i, hy with
  | 0, hy =>
    simp at hy; subst hy
    exact ⟨_, rfl, fun j u hu => by simpa [attC] using hu⟩
def SpelledPost (d : Nat) (n : Name) (w : World) (e : Ending) (w' : World) : Prop :=
 ∃ (m : Name) (v : Value), SpN n m ∧ e = .returned (.agg #[v]) ∧ Sl RRdn 1 w' (Btw w.heap.size w'.heap.size) m [v] ∧ DeckAt w' d ∧ Ex d w w'
theorem Lower_v (s : ByteArray) (hs : s.size ≤ 1000000) (w : World) :
  Calls Tryz.prog 72 #[.string s] w fun e w' => ∃ t : ByteArray, t.data.toList = s.data.toList.map low ∧ e = .returned (.string t) ∧ Below w.heap.size w w' :=
 (Lower_any s hs w).mono fun _ _ ⟨he, hb⟩ => ⟨_, rfl, he, hb⟩
def AB (g : Nat) (ta : ByteArray) (k : Int) (va : ByteArray) (W : World) : Prop := W.heap[g]? = some (.cells #[.string ta, .int .i64 k, .string va] 27 (0, 0))
theorem AB.facts {g : Nat} {ta va : ByteArray} {k : Int} {W : World} (h : AB g ta k va W) : W.cell? ⟨g, 0, none⟩ = some (.string ta) ∧ W.cell? ⟨g, 1, none⟩ = some (.int .i64 k) ∧ W.cell? ⟨g, 2, none⟩ = some (.string va) ∧ W.frozen? ⟨g, 2, none⟩ = false := by
 unfold AB at h
 simp [World.cell?, World.frozen?, h]
theorem AB.lt {g : Nat} {ta va : ByteArray} {k : Int} {W : World} (h : AB g ta k va W) : g < W.heap.size := (Array.getElem?_eq_some_iff.1 h).1
theorem AB.ex {g d : Nat} {ta va : ByteArray} {k : Int} {W W' : World} (h : AB g ta k va W) (hx : Ex d W W') (hd : g ≠ d) : AB g ta k va W' := (hx.at_ h.lt hd).trans h
theorem AB.below {g : Nat} {ta va : ByteArray} {k : Int} {W W' : World} (h : AB g ta k va W) (hx : Below W.heap.size W W') : AB g ta k va W' := (hx.block g h.lt).trans h
theorem AB.store {g : Nat} {ta va : ByteArray} {k : Int} {W : World} (h : AB g ta k va W) (u : ByteArray) : AB g ta k u (W.setCell ⟨g, 2, none⟩ (.string u)) := by
 unfold AB at *
 simp [World.setCell, Array.getElem?_modify, h]
set_option maxRecDepth 100000 in
set_option maxHeartbeats 16000000 in
theorem spelled_any (d B : Nat) (hB : B ≤ 1000) (n : Name) (hn : BndN B n) (A : Option Addr) (c : Nat) (w : World) (h : DeckAt w d) (hsl : Sl RRdn 1 w (Nd d w.heap.size) n [.slice A n.length c]) :
    Calls Tryz.prog 24 #[.pointer (some ⟨d, 0, none⟩), .agg #[.slice A n.length c]] w (SpelledPost d n w) := by
  have hd := h.lt
  have hnl := hn.1
  have HBN := hide hn.2
  have hex0 : Ex d w (((w.alloc (.cells #[.slice A n.length c] 24)).alloc (.cells #[.slice none 0 0] 24)).alloc (.cells #[.slice none 0 0] 24)) := (((Ex.refl d w).alloc _).alloc _).alloc _
  have hdk0 := ((h.alloc (.cells #[.slice A n.length c] 24)).alloc (.cells #[.slice none 0 0] 24)).alloc (.cells #[.slice none 0 0] 24)
  have HSL := hide hsl
  have HEX := hide hex0
  have HDK := hide hdk0
  clear h hn hsl hex0 hdk0
  go_enter Tryz.func24, Tryz.ntmps24
  go_wp2_with fail
  obtain ⟨w1, hw1⟩ : ∃ w1, w1 = ((w.alloc (.cells #[.slice A n.length c] 24)).alloc (.cells #[.slice none 0 0] 24)).alloc (.cells #[.slice none 0 0] 24) := ⟨_, rfl⟩
  have hnb4 : NB (w.heap.size + 1) (.slice none 0 0) w1 := by
    unfold NB
    rw [hw1, Below.heap_alloc _ _ _ (by simp), show w.heap.size + 1 = (w.alloc (.cells #[.slice A n.length c] 24)).heap.size by simp]
    exact heap_alloc_new _ _
  have hnb5 : NB (w.heap.size + 2) (.slice none 0 0) w1 := by
    unfold NB
    rw [hw1, show w.heap.size + 2 = ((w.alloc (.cells #[.slice A n.length c] 24)).alloc (.cells #[.slice none 0 0] 24)).heap.size by simp]
    exact heap_alloc_new _ _
  have hz1 : w1.heap.size = w.heap.size + 3 := by rw [hw1]; simp
  rw [← hw1] at HEX HDK ⊢
  obtain ⟨g5, hg5⟩ : ∃ g5, g5 = w.heap.size + 2 := ⟨_, rfl⟩
  obtain ⟨g4, hg4⟩ : ∃ g4, g4 = w.heap.size + 1 := ⟨_, rfl⟩
  obtain ⟨base, hbase⟩ : ∃ base, base = w.heap.size + 3 := ⟨_, rfl⟩
  rw [← hg5] at hnb5 ⊢
  rw [← hg4] at hnb4 ⊢
  have HNB4 := hide hnb4
  have HNB5 := hide hnb5
  have h4b : g4 < base := by omega
  have h5b : g5 < base := by omega
  have h45 : g4 ≠ g5 := by omega
  have hd4 : d < g4 := by omega
  have hd5 : d < g5 := by omega
  have hw4 : w.heap.size ≤ g4 := by omega
  have hw5 : w.heap.size ≤ g5 := by omega
  have hb1 : base ≤ w1.heap.size := by omega
  have hwb : w.heap.size ≤ base := by omega
  clear hw1 hnb4 hnb5 hz1 hg5 hg4 hbase
  go_loopw [16] (fun i wr => ∃ (k : Nat) (l : Name) (v : Value) (S : Nat → Prop), k ≤ n.length ∧ l.length = k ∧ SpN (n.take k) l ∧ i = .int .i64 k ∧ Ex d w wr ∧ DeckAt wr d ∧ base ≤ wr.heap.size ∧ NB g5 v wr ∧ NB g4 (.slice none 0 0) wr ∧ Own RRdn 1 33 wr base S v l ∧
      (∀ j, S j → base ≤ j ∧ j < wr.heap.size)) (fun i _ => n.length - (intOf i).toNat)
  case atStart => exact ⟨0, [], _, No, by omega, rfl, trivial, rfl, HEX.out, HDK.out, hb1, HNB5.out, HNB4.out, Own.nil _ _ _ _ _ _, fun j h => h.elim⟩
  case round =>
    obtain ⟨k, l, v, S, hk, hlk, hsp, rfl, hex, hdk, hgs, hnb5, hnb4, hown, hS⟩ := hrel
    have HNB5 := hide hnb5
    have HNB4 := hide hnb4
    have HEX := hide hex
    have HDK := hide hdk
    have HOWN := hide hown
    have HS := hide hS
    have HLK := hide hlk
    have HSPN := hide hsp
    have hlk2 : l.length ≤ 10 := by omega
    clear hnb5 hnb4 hex hdk hown hS hlk hsp
    obtain ⟨wo, rfl⟩ : ∃ wo : World, wo = wr := ⟨_, rfl⟩
    by_cases hlt : k < n.length
    · have hslw := (Sl.ok RRdn.ok).ex HSL.out HEX.out
      obtain ⟨b, off, A', c', hA, hbS, hc0, hslr⟩ := hslw.rdnAt hlt
      subst hA
      have HSLR := hide hslr
      have HBR := hide (HBN.out n[k] (List.getElem_mem hlt))
      obtain ⟨r, hr⟩ : ∃ r, n[k] = r := ⟨_, rfl⟩
      have HRK := hide hr
      rw [hr] at HSLR HBR hc0
      have hrl : r.length ≤ 10 := HBR.out.1
      have hs2 : w.heap.size ≤ wo.heap.size := HEX.out.size
      have hd2 : d + 1 ≤ wo.heap.size := by omega
      clear hslw hslr hr
      go_wp2_with fail
      clear hc0
      go_loopw [8, 22] (fun x8 i wi => ∃ (j : Nat) (ll : List Attr) (vv : Value), j ≤ r.length ∧ SpR (r.take j) ll ∧ ll.length = j ∧ vv = x8 ∧ i = .int .i64 j ∧ Ex d wo wi ∧ DeckAt wi d ∧ Own RAttr 3 27 wi wo.heap.size No vv ll ∧ wo.heap.size ≤ wi.heap.size) (fun _ i _ => r.length - (intOf i).toNat)
      case atStart => exact ⟨0, [], _, by omega, SpR.nil, rfl, rfl, rfl, Ex.refl _ _, HDK.out, Own.nil _ _ _ _ _ _, Nat.le_refl _⟩
      case round =>
        obtain ⟨j, ll, vv, hj, hsp, hlj, rfl, rfl, hexi, hdki, howni, hzi⟩ := hrel
        have hlj2 : ll.length ≤ 10 := by omega
        have HSP := hide hsp
        have HLJ := hide hlj
        have HOWNI := hide howni
        have HEXI := hide hexi
        have HDKI := hide hdki
        clear hsp hlj howni hexi hdki
        by_cases hjl : j < r.length
        · have hsli := (Sl.ok RAttr.ok).ex HSLR.out HEXI.out
          obtain ⟨b2, o2, hA2, hbS2, e0, e1, e2⟩ := attAt_v hsli hjl
          subst hA2
          obtain ⟨hx0, hx2⟩ := HBR.out.2 r[j] (List.getElem_mem hjl)
          obtain ⟨ta, va, kk, hrj⟩ : ∃ (ta va : ByteArray) (kk : Int), r[j] = (ta.data.toList, kk, va.data.toList) := ⟨⟨r[j].1.toArray⟩, ⟨r[j].2.2.toArray⟩, r[j].2.1, rfl⟩
          rw [hrj] at e0 e1 e2 hx0 hx2
          have d0 : wr.cell? ⟨b2, o2 + j * 3, none⟩ = some (.string ta) := e0
          have d1 : wr.cell? ⟨b2, o2 + j * 3 + 1, none⟩ = some (.int .i64 kk) := e1
          have d2 : wr.cell? ⟨b2, o2 + j * 3 + 2, none⟩ = some (.string va) := e2
          have hvs : va.size ≤ 1000 := by
            have : va.data.toList.length ≤ B := hx2
            rw [size_string] at this
            omega
          have HRJ := hide hrj
          clear hsli e0 e1 e2 hx0 hx2 hrj
          go_wp2_with fail
          refine (Next_any d 3 (by omega) (by omega) _ ((HDKI.out.alloc _).alloc _)).mono ?_
          rintro e w5 ⟨v3, hv3, rfl, hdk5, hex5⟩
          obtain ⟨g7, hg7⟩ : ∃ g7, g7 = wr.heap.size + 1 := ⟨_, rfl⟩
          have ha1 : AB wr.heap.size ta kk va w5 := AB.ex (by
            unfold AB
            rw [Below.heap_alloc _ _ _ (by simp)]
            exact heap_alloc_new wr _) hex5 (by omega)
          have ha2 : AB g7 ta 12 va w5 := AB.ex (by
            unfold AB
            rw [hg7, show wr.heap.size + 1 = (wr.alloc (.cells #[.string ta, .int .i64 kk, .string va] 27)).heap.size by simp]
            exact heap_alloc_new _ _) hex5 (by omega)
          have hown5 := (((HOWNI.out.alloc RAttr.ok (no_lt _) _).alloc RAttr.ok (no_lt _) _).ex RAttr.ok hex5 (by omega) (fun k hk => hk.elim))
          have hexo5 : Ex d wo w5 := ((HEXI.out.alloc _).alloc _).trans hex5
          have hs5 := hex5.size
          simp only [World.size_alloc] at hs5
          obtain ⟨c0, c1, c2, f2⟩ := ha1.facts
          obtain ⟨k0, k1, k2, l2⟩ := ha2.facts
          have HGL := hide (fun g hg => (HOWNI.out.lt g hg).2)
          have HA2 := hide ha2
          have HOWN5 := hide hown5
          have HEX5 := hide hexo5
          have HDK5 := hide hdk5
          rw [← hg7]
          have hd7 : d < g7 := by omega
          have hw7 : wo.heap.size ≤ g7 := by omega
          have hgw5 : g7 < w5.heap.size := by omega
          have hgl7 : wr.heap.size < g7 := by omega
          have hzz : wo.heap.size ≤ w5.heap.size := by omega
          clear ha1 ha2 hown5 hexo5 hdk5 hex5 d0 d1 d2 hg7
          match v3, hv3 with
          | 0, _ =>
            have hz1 : (⟨#[32]⟩ : ByteArray).size = 1 := rfl
            have hbs : ¬ 9223372036854775807 < 1 + va.size := by omega
            obtain ⟨vn, hvn⟩ : ∃ vn, vn = (⟨#[32]⟩ : ByteArray) ++ va := ⟨_, rfl⟩
            have hvn2 : (⟨#[32]⟩ : ByteArray) ++ va = vn := hvn.symm
            have HVN := hide (show vn.data.toList = 32 :: va.data.toList by rw [hvn, ba_append]; rfl)
            clear hvn
            go_upto_region 15 with (fail)
            obtain ⟨wq, hwq⟩ : ∃ wq, wq = w5.setCell ⟨g7, 2, none⟩ (.string vn) := ⟨_, rfl⟩
            have HAB := hide (hwq ▸ HA2.out.store vn)
            have HOWNQ := hide (show Own RAttr 3 27 wq wo.heap.size No _ ll from hwq ▸ Own.keep RAttr.ok HOWN5.out (fun g hg => Below.heap_setCell _ _ _ g (by show g ≠ g7; have := HGL.out g hg; omega)) (fun _ hk => hk.elim) (fun _ hk => hk) (fun _ _ hk => hk))
            have HEXQ := hide (show Ex d wo wq from hwq ▸ HEX5.out.setNew hw7 _)
            have HDKQ := hide (show DeckAt wq d from hwq ▸ HDK5.out.set_ hd7 _)
            have hzq3 : wo.heap.size ≤ wq.heap.size := by rw [hwq]; simp; omega
            rw [← hwq]
            clear hwq
            obtain ⟨b0, b1, b2, -⟩ := HAB.out.facts
            have HSPA := hide (show SpA (ta.data.toList, kk, va.data.toList) (ta.data.toList, 12, vn.data.toList) from SpA.mk' (a := (ta.data.toList, kk, va.data.toList)) (k := 12) (v := vn.data.toList) (.inr (.inl HVN.out)))
            have HSRC := hide (fun ob => (HOWNQ.out.src (S := No)).grow RAttr.ok (no_lt _) ((Below.refl wq.heap.size wq).alloc (Nat.le_refl _) ob))
            have HOW2 := hide (HOWNQ.out)
            clear HOWNQ
            go_wp2_with (at_builtin; refine wpList_apps RAttr.ok _ rfl (.tmp 46) (.tmp 47) 33 rfl wo.heap.size 27 (.agg #[.string ⟨#[]⟩, .int .i64 0, .string ⟨#[]⟩]) 40 Tryz.underlying33 info_att rfl (by decide) No _ [(ta.data.toList, 12, vn.data.toList)] rfl (Own.att hzq3 ta vn 12) _ ll rfl (HSRC.out _) (no_lt _) (by simp; omega) (by simp [maxLen]; omega) (by simp; omega) ?_; intro v7 w7 hown7 hg7 hb7 hat7; have hsz7 := hb7.size; simp at hsz7)
            have hex7 : Ex d wo w7 := (HEXQ.out.alloc _).then_base hb7
            have hdk7 : DeckAt w7 d := (HDKQ.out.alloc _).keep (hb7.mono hd2)
            have HSP' := hide (show SpR (r.take (j + 1)) ((ta.data.toList, 12, vn.data.toList) :: ll) by
              rw [List.take_succ_eq_append_getElem hjl, HRJ.out]; exact HSP.out.snoc HSPA.out)
            go_roundw
            case rel => exact ⟨j + 1, _, _, by omega, HSP'.out, by simp [HLJ.out], rfl, by go_num, hex7, hdk7, hown7, by omega⟩
            case measure => simp [intOf]; omega
          | 1, _ =>
            go_wp2_with fail
            refine (Lower_v va (by omega) _).mono ?_
            rintro e w6 ⟨vn, hvn, rfl, hb6⟩
            have HVN := hide hvn
            have hb6' := hb6
            have HA2 := hide (HA2.out.below hb6)
            have HOWN5 := hide (HOWN5.out.below RAttr.ok (no_lt _) hb6)
            have HEX5 := hide (HEX5.out.then_ hb6)
            have HDK5 := hide (HDK5.out.below hb6)
            obtain ⟨k0', k1', k2', l2'⟩ := HA2.out.facts
            have hz6 := hb6.size
            have hgw5 : g7 < w6.heap.size := by omega
            have hzz : wo.heap.size ≤ w6.heap.size := by omega
            clear hvn hb6 hb6' c0 c1 c2 f2 k0 k1 k2 l2
            go_upto_region 15 with (fail)
            obtain ⟨wq, hwq⟩ : ∃ wq, wq = w6.setCell ⟨g7, 2, none⟩ (.string vn) := ⟨_, rfl⟩
            have HAB := hide (hwq ▸ HA2.out.store vn)
            have HOWNQ := hide (show Own RAttr 3 27 wq wo.heap.size No _ ll from hwq ▸ Own.keep RAttr.ok HOWN5.out (fun g hg => Below.heap_setCell _ _ _ g (by show g ≠ g7; have := HGL.out g hg; omega)) (fun _ hk => hk.elim) (fun _ hk => hk) (fun _ _ hk => hk))
            have HEXQ := hide (show Ex d wo wq from hwq ▸ HEX5.out.setNew hw7 _)
            have HDKQ := hide (show DeckAt wq d from hwq ▸ HDK5.out.set_ hd7 _)
            have hzq3 : wo.heap.size ≤ wq.heap.size := by rw [hwq]; simp; omega
            rw [← hwq]
            clear hwq
            obtain ⟨b0, b1, b2, -⟩ := HAB.out.facts
            have HSPA := hide (show SpA (ta.data.toList, kk, va.data.toList) (ta.data.toList, 12, vn.data.toList) from SpA.mk' (a := (ta.data.toList, kk, va.data.toList)) (k := 12) (v := vn.data.toList) (.inr (.inr HVN.out)))
            have HSRC := hide (fun ob => (HOWNQ.out.src (S := No)).grow RAttr.ok (no_lt _) ((Below.refl wq.heap.size wq).alloc (Nat.le_refl _) ob))
            have HOW2 := hide (HOWNQ.out)
            clear HOWNQ
            go_wp2_with (at_builtin; refine wpList_apps RAttr.ok _ rfl (.tmp 46) (.tmp 47) 33 rfl wo.heap.size 27 (.agg #[.string ⟨#[]⟩, .int .i64 0, .string ⟨#[]⟩]) 40 Tryz.underlying33 info_att rfl (by decide) No _ [(ta.data.toList, 12, vn.data.toList)] rfl (Own.att hzq3 ta vn 12) _ ll rfl (HSRC.out _) (no_lt _) (by simp; omega) (by simp [maxLen]; omega) (by simp; omega) ?_; intro v7 w7 hown7 hg7 hb7 hat7; have hsz7 := hb7.size; simp at hsz7)
            have hex7 : Ex d wo w7 := (HEXQ.out.alloc _).then_base hb7
            have hdk7 : DeckAt w7 d := (HDKQ.out.alloc _).keep (hb7.mono hd2)
            have HSP' := hide (show SpR (r.take (j + 1)) ((ta.data.toList, 12, vn.data.toList) :: ll) by
              rw [List.take_succ_eq_append_getElem hjl, HRJ.out]; exact HSP.out.snoc HSPA.out)
            go_roundw
            case rel => exact ⟨j + 1, _, _, by omega, HSP'.out, by simp [HLJ.out], rfl, by go_num, hex7, hdk7, hown7, by omega⟩
            case measure => simp [intOf]; omega
          | 2, _ =>
            go_upto_region 15 with (fail)
            obtain ⟨wq, hwq⟩ : ∃ wq, wq = w5 := ⟨_, rfl⟩
            have HAB := hide (hwq ▸ HA2.out)
            have HOWNQ := hide (hwq ▸ HOWN5.out)
            have HEXQ := hide (hwq ▸ HEX5.out)
            have HDKQ := hide (hwq ▸ HDK5.out)
            have hzq3 : wo.heap.size ≤ wq.heap.size := by rw [hwq]; exact hzz
            rw [← hwq]
            clear hwq c0 c1 c2 f2 k0 k1 k2 l2
            obtain ⟨b0, b1, b2, -⟩ := HAB.out.facts
            have HSPA := hide (show SpA (ta.data.toList, kk, va.data.toList) (ta.data.toList, 12, va.data.toList) from SpA.mk' (a := (ta.data.toList, kk, va.data.toList)) (k := 12) (v := va.data.toList) (.inl rfl))
            have HSRC := hide (fun ob => (HOWNQ.out.src (S := No)).grow RAttr.ok (no_lt _) ((Below.refl wq.heap.size wq).alloc (Nat.le_refl _) ob))
            have HOW2 := hide (HOWNQ.out)
            clear HOWNQ
            go_wp2_with (at_builtin; refine wpList_apps RAttr.ok _ rfl (.tmp 46) (.tmp 47) 33 rfl wo.heap.size 27 (.agg #[.string ⟨#[]⟩, .int .i64 0, .string ⟨#[]⟩]) 40 Tryz.underlying33 info_att rfl (by decide) No _ [(ta.data.toList, 12, va.data.toList)] rfl (Own.att hzq3 ta va 12) _ ll rfl (HSRC.out _) (no_lt _) (by simp; omega) (by simp [maxLen]; omega) (by simp; omega) ?_; intro v7 w7 hown7 hg7 hb7 hat7; have hsz7 := hb7.size; simp at hsz7)
            have hex7 : Ex d wo w7 := (HEXQ.out.alloc _).then_base hb7
            have hdk7 : DeckAt w7 d := (HDKQ.out.alloc _).keep (hb7.mono hd2)
            have HSP' := hide (show SpR (r.take (j + 1)) ((ta.data.toList, 12, va.data.toList) :: ll) by
              rw [List.take_succ_eq_append_getElem hjl, HRJ.out]; exact HSP.out.snoc HSPA.out)
            go_roundw
            case rel => exact ⟨j + 1, _, _, by omega, HSP'.out, by simp [HLJ.out], rfl, by go_num, hex7, hdk7, hown7, by omega⟩
            case measure => simp [intOf]; omega
        · obtain rfl : j = r.length := by omega
          have HSPR := hide (show SpR r ll by have := HSP.out; rwa [List.take_of_length_le (Nat.le_refl _)] at this)
          have hszo := HEXI.out.size
          have hownS := HOWNI.out.sl RAttr.ok
          obtain ⟨A6, c7, hvv⟩ := hownS.shape
          subst hvv
          obtain ⟨S', hS'⟩ : ∃ S' : Nat → Prop, S' = fun j => S j ∨ (wo.heap.size ≤ j ∧ j < wr.heap.size) := ⟨_, rfl⟩
          have hS1 : ∀ j, S j → S' j := fun j hj => by rw [hS']; exact .inl hj
          have hS2 : ∀ j, S' j → base ≤ j ∧ j < wr.heap.size := fun j hj => by
            rw [hS'] at hj
            rcases hj with hj | hj
            · have := HS.out j hj; omega
            · omega
          have hnoS : ∀ g, v.ownBlock = some g → ¬ S' g := fun g hg hh => by
            rw [hS'] at hh
            have hlt := (HOWN.out.lt g hg).2
            rcases hh with hh | hh
            · obtain ⟨_, _, h2, _⟩ := HOWN.out
              exact h2 g hg hh
            · omega
          have hownO := ((HOWN.out.ex RRdn.ok HEXI.out (by omega) HS.out).more RRdn.ok hS1 hnoS)
          have hownA := hownO.alloc RRdn.ok (fun j hj => (hS2 j hj).2) (.cells #[.slice A6 ll.length c7] 33)
          have hgA : ∀ j, S' j → j < (wr.alloc (.cells #[.slice A6 ll.length c7] 33)).heap.size := fun j hj => by have := (hS2 j hj).2; simp; omega
          have hnew : Sl RAttr 3 (wr.alloc (.cells #[.slice A6 ll.length c7] 33)) S' ll [.slice A6 ll.length c7] := (Sl.ok RAttr.ok).mono hownS (fun j hj => Below.heap_alloc _ _ j (by rcases hj with hj | hj; exact hj.elim; exact hj.2)) (fun j hj => by rw [hS']; rcases hj with hj | hj; exact hj.elim; exact .inr hj)
          have HNEW := hide (news_one (R := RRdn) hnew)
          have hexA : Ex d w (wr.alloc (.cells #[.slice A6 ll.length c7] 33)) := (HEX.out.trans HEXI.out).alloc _
          have hdkA : DeckAt (wr.alloc (.cells #[.slice A6 ll.length c7] 33)) d := HDKI.out.alloc _
          have hnb5 := (HNB5.out.ex HEXI.out (by omega)).below ((Below.refl wr.heap.size wr).alloc (Nat.le_refl _) (.cells #[.slice A6 ll.length c7] 33))
          have hnb4 := (HNB4.out.ex HEXI.out (by omega)).below ((Below.refl wr.heap.size wr).alloc (Nat.le_refl _) (.cells #[.slice A6 ll.length c7] 33))
          have HN5 := hide (fun W (h : Below base (wr.alloc (.cells #[.slice A6 ll.length c7] 33)) W) => (show NB g5 v W from (h.block g5 h5b).trans hnb5))
          have HN4 := hide (fun W (h : Below base (wr.alloc (.cells #[.slice A6 ll.length c7] 33)) W) => (show NB g4 (.slice none 0 0) W from (h.block _ h4b).trans hnb4))
          have c5 := (HNB5.out.ex HEXI.out (by omega)).facts.1
          have HEXA := hide hexA
          have HDKA := hide hdkA
          have HOA := hide hownA
          have HS2 := hide hS2
          have hbz : base ≤ (wr.alloc (.cells #[.slice A6 ll.length c7] 33)).heap.size := by simp; omega
          have HSPN' := hide (show SpN (n.take (k + 1)) (l ++ [ll]) by
            rw [List.take_succ_eq_append_getElem hlt, HRK.out]; exact HSPN.out.snoc HSPR.out)
          clear hownS hS' hS1 hS2 hnoS hownO hownA hnew hexA hdkA hnb5 hnb4
          go_wp2_with (at_builtin; refine wpList_app RRdn.ok _ rfl (.tmp 51) (.tmp 53) 22 rfl base 33 (.slice none 0 0) 24 Tryz.underlying22 info_rdn rfl (by decide) S' _ l rfl HOA.out ⟨_, 0, none⟩ 1 1 [ll] rfl rfl HNEW.out hgA (by simp; omega) (by simp [maxLen]; omega) hbz ?_; intro v6 w6 hown6 hg6 hb6 hat6; obtain ⟨c6, f6⟩ := (HN5.out _ hb6).facts; have hsz6 := hb6.size; obtain ⟨A8, c8, hv8⟩ := (hown6.sl RRdn.ok).shape; obtain ⟨n8, hn8⟩ : ∃ n8, (l ++ [ll]).length = n8 := ⟨_, rfl⟩; rw [hn8] at hv8; subst hv8; clear hn8)
          have hsz7 : wr.heap.size + 1 ≤ w6.heap.size := by simpa using hsz6
          have hexf : Ex d w w6 := HEXA.out.then_base (hb6.mono hwb)
          have hdkf : DeckAt w6 d := HDKA.out.keep (hb6.mono (by omega))
          have hn4 := HN4.out _ hb6
          have hn5 := HN5.out _ hb6
          go_roundw
          case rel => exact ⟨k + 1, l ++ [ll], _, S', by omega, by simp [HLK.out], HSPN'.out, by go_num, hexf.setNew hw5 _, hdkf.set_ hd5 _, by simp; omega, hn5.store _, hn4.other h45, hown6.other RRdn.ok (fun j hj => (HS2.out j hj).1) h5b _, fun j hj => ⟨(HS2.out j hj).1, by have := (HS2.out j hj).2; simp; omega⟩⟩
          case measure => simp [intOf]; omega
    · have HSPF := hide (show SpN n l by have := HSPN.out; rwa [List.take_of_length_le (by omega)] at this)
      have hslB := (Sl.ok RRdn.ok).mono (HOWN.out.sl RRdn.ok) (fun _ _ => rfl) (S' := fun j => base ≤ j ∧ j < wo.heap.size) (fun j hj => by rcases hj with hj | hj; exact HS.out j hj; exact hj)
      obtain ⟨A9, cc, hv⟩ := hslB.shape
      subst hv
      have HSLB := hide hslB
      obtain ⟨c5, f5⟩ := HNB5.out.facts
      obtain ⟨c4, f4⟩ := HNB4.out.facts
      clear hslB
      go_wp2_with fail
      have hNB := (HNB4.out.store (.slice A9 l.length cc)).facts.1
      have hdk9 := HDK.out.set_ (g := g4) (j := 0) hd4 (.slice A9 l.length cc)
      have hex9 := HEX.out.setNew (g := g4) (j := 0) hw4 (.slice A9 l.length cc)
      have hsl9 : Sl RRdn 1 (wo.setCell ⟨g4, 0, none⟩ (.slice A9 l.length cc)) (Btw w.heap.size (wo.setCell ⟨g4, 0, none⟩ (.slice A9 l.length cc)).heap.size) l [.slice A9 l.length cc] :=
        (Sl.ok RRdn.ok).mono HSLB.out (fun j hj => Below.heap_setCell wo _ _ j (by have := hj.1; show j ≠ g4; omega)) (fun j hj => ⟨by have := hj.1; omega, by have := hj.2; simp; omega⟩)
      obtain ⟨W3, hW3⟩ : ∃ W3, W3 = wo.setCell ⟨g4, 0, none⟩ (.slice A9 l.length cc) := ⟨_, rfl⟩
      rw [← hW3] at hNB hdk9 hex9 hsl9 ⊢
      clear hW3
      exact bodyPost_ret (v := .agg #[.slice A9 l.length cc]) (by simp [results, Tryz.results24, go_sem, hNB]) rfl ⟨l, _, HSPF.out, rfl, hsl9, hdk9, hex9⟩
end Go.Proofs.YtahamclodagihaaGreatDoor
