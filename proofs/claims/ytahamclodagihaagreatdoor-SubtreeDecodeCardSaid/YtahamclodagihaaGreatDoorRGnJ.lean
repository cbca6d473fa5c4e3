/- Name constraints that the laws make. -/
import Derived.Test.YtahamclodagihaaGreatDoorRGnI
namespace Go.Proofs.YtahamclodagihaaGreatDoor
open Go.RowKit
theorem gen_step_ex {wr w1 : World} {base d : Nat} {S : Nat → Prop} {v : Value} {l : List Gen} {k : Int} {t : ByteArray} {n : Name} {A1 : Option Addr} {c1 : Nat} (hown : Own RGen 3 62 wr base S v l) (hS : ∀ j, S j → base ≤ j ∧ j < wr.heap.size) (hbase : base ≤ wr.heap.size)
    (hex : Ex d wr w1) (hd : d < base) (hz : wr.heap.size ≤ w1.heap.size) (h1 : Sl RRdn 1 w1 (Btw wr.heap.size w1.heap.size) n [.slice A1 n.length c1]) :
    ∃ S' : Nat → Prop, Own RGen 3 62 (w1.alloc (.cells #[.int .i64 k, .string t, .slice A1 n.length c1] 62)) base S' v l ∧
      (∀ i z, [((k, t.data.toList, n) : Gen)][i]? = some z → ∃ cs, RGen (w1.alloc (.cells #[.int .i64 k, .string t, .slice A1 n.length c1] 62)) S' z cs ∧ ∀ j u, cs[j]? = some u → (w1.alloc (.cells #[.int .i64 k, .string t, .slice A1 n.length c1] 62)).cell? ((⟨w1.heap.size, 0, none⟩ : Addr).add (i * 3 + j)) = some u) ∧
      ∀ j, S' j → base ≤ j ∧ j < (w1.alloc (.cells #[.int .i64 k, .string t, .slice A1 n.length c1] 62)).heap.size := by
  obtain ⟨S', hS'⟩ : ∃ S' : Nat → Prop, S' = fun j => S j ∨ (wr.heap.size ≤ j ∧ j < w1.heap.size) := ⟨_, rfl⟩
  have hS2 : ∀ j, S' j → base ≤ j ∧ j < w1.heap.size := fun j hj => by
    rw [hS'] at hj
    rcases hj with hj | hj
    · have := hS j hj; omega
    · omega
  have hnoS : ∀ g, v.ownBlock = some g → ¬ S' g := fun g hg hh => by
    rw [hS'] at hh
    have hlt := (hown.lt g hg).2
    rcases hh with hh | hh
    · obtain ⟨_, _, h2, _⟩ := hown
      exact h2 g hg hh
    · omega
  have hownO := ((hown.ex RGen.ok hex hd hS).more RGen.ok (fun j hj => by rw [hS']; exact .inl hj) hnoS)
  have hownA := hownO.alloc RGen.ok (fun j hj => (hS2 j hj).2) (.cells #[.int .i64 k, .string t, .slice A1 n.length c1] 62)
  refine ⟨S', hownA, fun i z hz => ?_, fun j hj => ⟨(hS2 j hj).1, by have := (hS2 j hj).2; simp; omega⟩⟩
  match i, hz with
  | 0, hz =>
    simp at hz; subst hz
    refine ⟨[.int .i64 k, .string t, .slice A1 n.length c1], ⟨_, rfl, (Sl.ok RRdn.ok).mono h1 (fun j hj => Below.heap_alloc _ _ j hj.2) (fun j hj => by rw [hS']; exact .inr hj)⟩, fun j u hu => ?_⟩
    rw [Addr.add_lit, Nat.zero_mul, Nat.zero_add, Nat.zero_add, World.cell?_alloc_new]
    simpa using hu
theorem SB.ex {g d : Nat} {u v : Value} {W W' : World} (h : SB g u v W) (hx : Ex d W W') (hd : g ≠ d) : SB g u v W' := (hx.at_ h.lt hd).trans h
theorem TB.ex {g d : Nat} {u : Value} {W W' : World} (h : TB g u W) (hx : Ex d W W') (hd : g ≠ d) : TB g u W' := (hx.at_ h.lt hd).trans h
def GoodSub (s : Sub) : Prop := s.1.length ≤ 4 ∧ s.2.length ≤ 4 ∧ (∀ g ∈ s.1, GoodBase g) ∧ ∀ g ∈ s.2, GoodBase g
theorem GoodN.cp {n : Name} (h : GoodN n) : CpN n := ⟨by have := h.1; omega, fun r hr => by
 rcases h.2 r hr with ⟨a, _, rfl⟩ | ⟨a, _, b, _, rfl, _⟩
 ·simp
 ·simp⟩
theorem CpN.nil : CpN [] := ⟨by simp, fun r hr => by cases hr⟩
theorem GoodBase.cp {g : Gen} (h : GoodBase g) : CpN g.2.2 := by
 rcases h with ⟨_, _, rfl⟩ | ⟨_, _, rfl⟩ | ⟨_, _, rfl⟩ | ⟨n, hn, rfl⟩
 ·exact CpN.nil
 ·exact CpN.nil
 ·exact CpN.nil
 ·exact hn.cp
theorem GoodSub.cp {s : Sub} (h : GoodSub s) : CpS s :=
 ⟨⟨by have := h.1; omega, fun g hg => (h.2.2.1 g hg).cp⟩, ⟨by have := h.2.1; omega, fun g hg => (h.2.2.2 g hg).cp⟩⟩
theorem GoodSub.small {s : Sub} (h : GoodSub s) : SmallGs s.1 ∧ SmallGs s.2 := ⟨fun g hg => (h.2.2.1 g hg).small, fun g hg => (h.2.2.2 g hg).small⟩
theorem SB.base {g B : Nat} {u v : Value} {W W' : World} (h : SB g u v W) (hb : Below B W W') (hg : g < B) : SB g u v W' := (hb.block g hg).trans h
theorem SB.alloc {g : Nat} {u v : Value} {W : World} (h : SB g u v W) (o : Obj) : SB g u v (W.alloc o) := (Below.heap_alloc W o g h.lt).trans h
theorem SB.store0 {g : Nat} {u v : Value} {W : World} (h : SB g u v W) (a : Value) : SB g a v (W.setCell ⟨g, 0, none⟩ a) := by
 unfold SB at *
 simp [World.setCell, Array.getElem?_modify, h]
theorem SB.store1 {g : Nat} {u v : Value} {W : World} (h : SB g u v W) (a : Value) : SB g u a (W.setCell ⟨g, 1, none⟩ a) := by
 unfold SB at *
 simp [World.setCell, Array.getElem?_modify, h]
theorem SB.other {g k j : Nat} {u v : Value} {W : World} (h : SB g u v W) (hk : g ≠ k) (a : Value) : SB g u v (W.setCell ⟨k, j, none⟩ a) :=
 (Below.heap_setCell W ⟨k, j, none⟩ a g hk).trans h
def SubPost (d : Nat) (w : World) (e : Ending) (w' : World) : Prop :=
 ∃ (p x : List Gen) (A1 A2 : Option Addr) (c1 c2 : Nat), GoodSub (p, x) ∧ e = .returned (.agg #[.slice A1 p.length c1, .slice A2 x.length c2]) ∧ Sl RGen 3 w' (Btw w.heap.size w'.heap.size) p [.slice A1 p.length c1] ∧ Sl RGen 3 w' (Btw w.heap.size w'.heap.size) x [.slice A2 x.length c2] ∧ DeckAt w' d ∧ Ex d w w'
set_option maxRecDepth 100000 in
set_option maxHeartbeats 16000000 in
theorem Subtrees_any (d : Nat) (w : World) (h : DeckAt w d) : Calls Tryz.prog 28 #[.pointer (some ⟨d, 0, none⟩)] w (SubPost d w) := by
 have hd := h.lt
 have HDK0 := hide (fun o1 o2 => (h.alloc o1).alloc o2)
 clear h
 go_enter Tryz.func28, Tryz.ntmps28
 go_wp2_with fail
 refine (Next_any d 4 (by omega) (by omega) _ (HDK0.out _ _)).mono ?_
 rintro e w1 ⟨v4, hv4, rfl, hdk, hex⟩
 have hsb2 : SB w.heap.size (.slice none 0 0) (.slice none 0 0) w1 := SB.ex (by
  unfold SB
  rw [Below.heap_alloc _ _ _ (by simp)]
  exact heap_alloc_new w _) hex (by omega)
 have hsb3 : SB (w.heap.size + 1) (.slice none 0 0) (.slice none 0 0) w1 := SB.ex (by
  unfold SB
  rw [show w.heap.size + 1 = (w.alloc (.cells #[.slice none 0 0, .slice none 0 0] 52)).heap.size by simp]
  exact heap_alloc_new _ _) hex (by omega)
 have hz1 : w.heap.size + 2 ≤ w1.heap.size := by have := hex.size; simp at this; omega
 have HEX := hide (show Ex d w w1 from (((Ex.refl d w).alloc _).alloc _).trans hex)
 have HDK := hide hdk
 obtain ⟨g3, hg3⟩ : ∃ g3, g3 = w.heap.size + 1 := ⟨_, rfl⟩
 obtain ⟨base, hbase⟩ : ∃ base, base = w.heap.size + 2 := ⟨_, rfl⟩
 rw [← hg3] at hsb3 ⊢
 have HSB2 := hide hsb2
 have HSB3 := hide hsb3
 have hg3b : g3 < base := by omega
 have h2b : w.heap.size < base := by omega
 have h23 : w.heap.size < g3 := by omega
 have hd3 : d < g3 := by omega
 have hdb : d < base := by omega
 have hwb : w.heap.size ≤ base := by omega
 have hg3d : g3 ≠ d := by omega
 have h2d : w.heap.size ≠ d := by omega
 have hb1 : base ≤ w1.heap.size := by omega
 clear hex hdk hsb2 hsb3 hz1 hg3 hbase
 go_wp2_with fail
 go_loopw [4] (fun i wr => ∃ (k : Nat) (l : List Gen) (v : Value) (S : Nat → Prop), k + l.length ≤ 3 ∧ i = .int .i64 k ∧ Ex d w wr ∧ DeckAt wr d ∧ base ≤ wr.heap.size ∧ SB g3 v (.slice none 0 0) wr ∧ SB w.heap.size (.slice none 0 0) (.slice none 0 0) wr ∧ Own RGen 3 62 wr base S v l ∧
   (∀ j, S j → base ≤ j ∧ j < wr.heap.size) ∧ ∀ g ∈ l, GoodBase g) (fun i _ => (intOf i).toNat)
 case atStart => exact ⟨v4, [], _, No, by simp; omega, rfl, HEX.out, HDK.out, hb1, HSB3.out, HSB2.out, Own.nil _ _ _ _ _ _, fun j h => h.elim, fun x hx => by cases hx⟩
 case round =>
  obtain ⟨k, l, v, S, hk, rfl, hex, hdk, hgs, hsb3, hsb2, hown, hS, hgl⟩ := hrel
  obtain ⟨A9, c9, hv9⟩ := (hown.sl RGen.ok).shape
  subst hv9
  have HSB3 := hide hsb3
  have HSB2 := hide hsb2
  have HEX := hide hex
  have HDK := hide hdk
  have HOWN := hide hown
  have HS := hide hS
  have HGL := hide hgl
  clear hsb3 hsb2 hex hdk hown hS hgl
  by_cases hlt : 0 < k
  ·have hk1 : (1 : Int) ≤ (k : Int) := by omega
   have hk0 : (0 : Int) < (k : Int) := by omega
   have hlk : l.length ≤ 3 := by omega
   have HSBD := hide (show SB g3 _ _ wr.drew from HSB3.out)
   have y0d : wr.drew.cell? ⟨g3, 0, none⟩ = some (.slice A9 l.length c9) := HSBD.out.facts.1
   have E0 := hide (Base_any d wr.drew (HDK.out.drewN 1))
   go_upto_region 5 with (fail)
   go_region_law (first
    | (go_simp; go_at_call 44; refine E0.out.mono ?_; rintro e w5 ⟨g, t, A5, c5, hq, ht, rfl, hsl5, hdk5, hex5⟩; obtain ⟨kk, tt, nn⟩ := g; obtain rfl : t.data.toList = tt := ht; have HQ := hide hq; have hex5 : Ex d wr w5 := (Ex.refl d wr).drew.trans hex5; have hz5 := hex5.size; obtain ⟨S', hc1, hc2, hc3⟩ := gen_step_ex (k := kk) (t := t) HOWN.out HS.out hgs hex5 hdb hz5 hsl5; have hsg5 := HSB3.out.ex hex5 hg3d; have hs1 : w5.cell? ⟨g3, 0, none⟩ = some (.slice A9 l.length c9) := hsg5.facts.1; have ha1 := fun ob => (hsg5.alloc ob).facts.1)
    | (refine step_app RGen.ok _ ?_ (.tmp 14) (.tmp 17) 50 ?_ base 62 (.agg #[.int .i64 0, .string ⟨#[]⟩, .slice none 0 0]) 48 Tryz.underlying50 info_gen rfl (by decide) S' (.slice A9 l.length c9) l ?_ hc1 ⟨w5.heap.size, 0, none⟩ 1 1 [(kk, t.data.toList, nn)] ?_ rfl ?_ (fun b hb => (hc3 b hb).2) ?_ ?_ ?_ ?_; rfl; rfl; rfl; rfl; exact hc2; (simp; omega); (simp [maxLen]; omega); (rw [World.size_alloc]; omega); intro v7 w7 hown7 hgr7 hb7 hat7; obtain ⟨A8, c8, hv8⟩ := (hown7.sl RGen.ok).shape; obtain ⟨n8, hn8⟩ : ∃ n8, (l ++ [((kk, t.data.toList, nn) : Gen)]).length = n8 := ⟨_, rfl⟩; rw [hn8] at hv8; subst hv8; have HN8 := hide hn8; clear hn8; have hg7 := (hsg5.alloc _).base hb7 hg3b; have q1 := hg7.facts.1; have q2 := hg7.facts.2.1; have q3 := hg7.facts.2.2.1; have q4 := hg7.facts.2.2.2; have hsz7 := hb7.size; rw [World.size_alloc] at hsz7))
   all_goals
    have hexf : Ex d w w7 := ((HEX.out.trans hex5).alloc _).then_base (hb7.mono hwb)
    have hdkf : DeckAt w7 d := (hdk5.alloc _).keep (hb7.mono (by omega))
    have hn2 := ((HSB2.out.ex hex5 h2d).alloc _).base hb7 h2b
    have HN2 := hide hn2
    have HEXF := hide hexf
    have HDKF := hide hdkf
    go_wp2_with fail
    go_roundw
    case rel => exact ⟨k - 1, l ++ [(kk, t.data.toList, nn)], _, S', by simp; omega, num_pred hlt, HEXF.out.setNew (by omega) _, HDKF.out.set_ hd3 _, by simp; omega, hg7.store0 _, HN2.out.other (by omega) _, hown7.other RGen.ok (fun j hj => (hc3 j hj).1) hg3b _, fun j hj => ⟨(hc3 j hj).1, by have := (hc3 j hj).2; simp at this; simp; omega⟩, fun g hg => by
     rcases List.mem_append.1 hg with hg | hg
     ·exact HGL.out g hg
     ·simp at hg; subst hg; exact HQ.out⟩
    case measure => simp [intOf]; omega
  ·obtain rfl : k = 0 := by omega
   have hl3 : l.length ≤ 3 := by omega
   have hslp : Sl RGen 3 wr (Btw base wr.heap.size) l [.slice A9 l.length c9] := (Sl.ok RGen.ok).mono (HOWN.out.sl RGen.ok) (fun _ _ => rfl) (fun j hj => by
    rcases hj with hj | hj
    ·exact HS.out j hj
    ·exact hj)
   have HSLP := hide hslp
   obtain ⟨wo, rfl⟩ : ∃ wo : World, wo = wr := ⟨_, rfl⟩
   clear hslp HOWN HS hk hlt
   go_wp2_with fail
   refine (Next_any d 3 (by omega) (by omega) _ HDK.out).mono ?_
   rintro e w4 ⟨v5, hv5, rfl, hdk4, hex4⟩
   have HSB3 := hide (HSB3.out.ex hex4 hg3d)
   have HSB2 := hide (HSB2.out.ex hex4 h2d)
   have HEX := hide (HEX.out.trans hex4)
   have HDK := hide hdk4
   have HSLP := hide ((Sl.ok RGen.ok).mono HSLP.out (fun k hk => hex4.at_ hk.2 (by have := hk.1; omega)) (S' := Btw base w4.heap.size) (fun k hk => ⟨hk.1, Nat.lt_of_lt_of_le hk.2 hex4.size⟩))
   obtain ⟨b2, hb2⟩ : ∃ b2, b2 = w4.heap.size := ⟨_, rfl⟩
   rw [← hb2] at HSLP
   have hbb2 : base ≤ b2 := by have := hex4.size; omega
   have hb24 : b2 ≤ w4.heap.size := by omega
   clear hdk4 hex4 hb2 hgs
   go_wp2_with fail
   go_loopw [5] (fun i wr => ∃ (k : Nat) (x : List Gen) (v : Value) (S : Nat → Prop), k + x.length ≤ 2 ∧ i = .int .i64 k ∧ Ex d w wr ∧ DeckAt wr d ∧ b2 ≤ wr.heap.size ∧ SB g3 (.slice A9 l.length c9) v wr ∧ SB w.heap.size (.slice none 0 0) (.slice none 0 0) wr ∧ Own RGen 3 62 wr b2 S v x ∧
    (∀ j, S j → b2 ≤ j ∧ j < wr.heap.size) ∧ (∀ g ∈ x, GoodBase g) ∧ Sl RGen 3 wr (Btw base b2) l [.slice A9 l.length c9]) (fun i _ => (intOf i).toNat)
   case atStart => exact ⟨v5, [], _, No, by simp; omega, rfl, HEX.out, HDK.out, hb24, HSB3.out, HSB2.out, Own.nil _ _ _ _ _ _, fun j h => h.elim, (fun x hx => by cases hx), HSLP.out⟩
   case round =>
    obtain ⟨k, x, v, S, hk, rfl, hex, hdk, hgs, hsb3, hsb2, hown, hS, hgx, hslp⟩ := hrel
    obtain ⟨A10, c10, hv10⟩ := (hown.sl RGen.ok).shape
    subst hv10
    clear HSB3 HSB2 HEX HDK HSLP hb24
    have HSB3 := hide hsb3
    have HSB2 := hide hsb2
    have HEX := hide hex
    have HDK := hide hdk
    have HOWN := hide hown
    have HS := hide hS
    have HGX := hide hgx
    have HSLP := hide hslp
    have hdb2 : d < b2 := by omega
    have hg3b2 : g3 < b2 := by omega
    have h2b2 : w.heap.size < b2 := by omega
    have hwb2 : w.heap.size ≤ b2 := by omega
    have hx2 : x.length ≤ 2 := by omega
    clear hsb3 hsb2 hex hdk hown hS hgx hslp
    by_cases hlt : 0 < k
    ·have hk1 : (1 : Int) ≤ (k : Int) := by omega
     have hk0 : (0 : Int) < (k : Int) := by omega
     have hdb := hdb2
     have hg3b := hg3b2
     have HSBD := hide (show SB g3 _ _ wr.drew from HSB3.out)
     have y0d : wr.drew.cell? ⟨g3, 1, none⟩ = some (.slice A10 x.length c10) := HSBD.out.facts.2.1
     have E0 := hide (Base_any d wr.drew (HDK.out.drewN 1))
     go_upto_region 9 with (fail)
     go_region_law (first
      | (go_simp; go_at_call 44; refine E0.out.mono ?_; rintro e w5 ⟨g, t, A5, c5, hq, ht, rfl, hsl5, hdk5, hex5⟩; obtain ⟨kk, tt, nn⟩ := g; obtain rfl : t.data.toList = tt := ht; have HQ := hide hq; have hex5 : Ex d wr w5 := (Ex.refl d wr).drew.trans hex5; have hz5 := hex5.size; obtain ⟨S', hc1, hc2, hc3⟩ := gen_step_ex (k := kk) (t := t) HOWN.out HS.out hgs hex5 hdb hz5 hsl5; have hsg5 := HSB3.out.ex hex5 hg3d; have hs1 : w5.cell? ⟨g3, 1, none⟩ = some (.slice A10 x.length c10) := hsg5.facts.2.1; have ha1 := fun ob => (hsg5.alloc ob).facts.2.1)
      | (refine step_app RGen.ok _ ?_ (.tmp 27) (.tmp 30) 50 ?_ b2 62 (.agg #[.int .i64 0, .string ⟨#[]⟩, .slice none 0 0]) 48 Tryz.underlying50 info_gen rfl (by decide) S' (.slice A10 x.length c10) x ?_ hc1 ⟨w5.heap.size, 0, none⟩ 1 1 [(kk, t.data.toList, nn)] ?_ rfl ?_ (fun b hb => (hc3 b hb).2) ?_ ?_ ?_ ?_; rfl; rfl; rfl; rfl; exact hc2; (simp; omega); (simp [maxLen]; omega); (rw [World.size_alloc]; omega); intro v7 w7 hown7 hgr7 hb7 hat7; obtain ⟨A8, c8, hv8⟩ := (hown7.sl RGen.ok).shape; obtain ⟨n8, hn8⟩ : ∃ n8, (x ++ [((kk, t.data.toList, nn) : Gen)]).length = n8 := ⟨_, rfl⟩; rw [hn8] at hv8; subst hv8; have HN8 := hide hn8; clear hn8; have hg7 := (hsg5.alloc _).base hb7 hg3b; have q1 := hg7.facts.1; have q2 := hg7.facts.2.1; have q3 := hg7.facts.2.2.1; have q4 := hg7.facts.2.2.2; have hsz7 := hb7.size; rw [World.size_alloc] at hsz7))
     all_goals
      have hexf : Ex d w w7 := ((HEX.out.trans hex5).alloc _).then_base (hb7.mono hwb2)
      have hdkf : DeckAt w7 d := (hdk5.alloc _).keep (hb7.mono (by omega))
      have hn2 := ((HSB2.out.ex hex5 h2d).alloc _).base hb7 h2b2
      have hpf : Sl RGen 3 w7 (Btw base b2) l [.slice A9 l.length c9] := (Sl.ok RGen.ok).mono HSLP.out (fun k hk => (hb7.block k hk.2).trans ((Below.heap_alloc _ _ k (by have := hk.2; omega)).trans (hex5.at_ (by have := hk.2; omega) (by have := hk.1; omega)))) (fun _ hk => hk)
      have HN2 := hide hn2
      have HEXF := hide hexf
      have HDKF := hide hdkf
      have HPF := hide ((Sl.ok RGen.ok).mono hpf (w' := w7.setCell ⟨g3, 1, none⟩ (.slice A8 n8 c8)) (fun k hk => Below.heap_setCell _ ⟨g3, 1, none⟩ _ k (by show k ≠ g3; have := hk.1; omega)) (fun _ hk => hk))
      go_wp2_with fail
      go_roundw
      case rel => exact ⟨k - 1, x ++ [(kk, t.data.toList, nn)], _, S', by simp; omega, num_pred hlt, HEXF.out.setNew (by omega) _, HDKF.out.set_ hd3 _, by simp; omega, hg7.store1 _, HN2.out.other (by omega) _, hown7.other RGen.ok (fun j hj => (hc3 j hj).1) hg3b _, fun j hj => ⟨(hc3 j hj).1, by have := (hc3 j hj).2; simp at this; simp; omega⟩, (fun g hg => by
       rcases List.mem_append.1 hg with hg | hg
       ·exact HGX.out g hg
       ·simp at hg; subst hg; exact HQ.out), HPF.out⟩
      case measure => simp [intOf]; omega
    ·obtain rfl : k = 0 := by omega
     have hslx : Sl RGen 3 wr (Btw b2 wr.heap.size) x [.slice A10 x.length c10] := (Sl.ok RGen.ok).mono (HOWN.out.sl RGen.ok) (fun _ _ => rfl) (fun j hj => by
      rcases hj with hj | hj
      ·exact HS.out j hj
      ·exact hj)
     have HPP := hide ((Sl.ok RGen.ok).mono HSLP.out (fun _ _ => rfl) (S' := Btw base wr.heap.size) (fun k hk => ⟨hk.1, by have := hk.2; omega⟩))
     clear hlt hk
     by_cases hp0 : l.length = 0
     ·have t1 : ((l.length : Int) == 0) = true := by rw [hp0]; rfl
      by_cases hx0 : x.length = 0
      ·have t2 : ((x.length : Int) == 0) = true := by rw [hx0]; rfl
       clear hp0 hx0
       obtain ⟨s0, s1, s2, s3⟩ := HSB3.out.facts
       have hdb := hdb2
       have hg3b := hg3b2
       have HSBD := hide (show SB g3 _ _ wr.drew from HSB3.out)
       have y0d : wr.drew.cell? ⟨g3, 1, none⟩ = some (.slice A10 x.length c10) := HSBD.out.facts.2.1
       have E0 := hide (Base_any d wr.drew (HDK.out.drewN 1))
       go_upto_region 11 with (fail)
       go_region_law (first
        | (go_simp; go_at_call 44; refine E0.out.mono ?_; rintro e w5 ⟨g, t, A5, c5, hq, ht, rfl, hsl5, hdk5, hex5⟩; obtain ⟨kk, tt, nn⟩ := g; obtain rfl : t.data.toList = tt := ht; have HQ := hide hq; have hex5 : Ex d wr w5 := (Ex.refl d wr).drew.trans hex5; have hz5 := hex5.size; obtain ⟨S', hc1, hc2, hc3⟩ := gen_step_ex (k := kk) (t := t) HOWN.out HS.out hgs hex5 hdb hz5 hsl5; have hsg5 := HSB3.out.ex hex5 hg3d; have hs1 : w5.cell? ⟨g3, 1, none⟩ = some (.slice A10 x.length c10) := hsg5.facts.2.1; have ha1 := fun ob => (hsg5.alloc ob).facts.2.1)
        | (refine step_app RGen.ok _ ?_ (.tmp 44) (.tmp 47) 50 ?_ b2 62 (.agg #[.int .i64 0, .string ⟨#[]⟩, .slice none 0 0]) 48 Tryz.underlying50 info_gen rfl (by decide) S' (.slice A10 x.length c10) x ?_ hc1 ⟨w5.heap.size, 0, none⟩ 1 1 [(kk, t.data.toList, nn)] ?_ rfl ?_ (fun b hb => (hc3 b hb).2) ?_ ?_ ?_ ?_; rfl; rfl; rfl; rfl; exact hc2; (simp; omega); (simp [maxLen]; omega); (rw [World.size_alloc]; omega); intro v7 w7 hown7 hgr7 hb7 hat7; obtain ⟨A8, c8, hv8⟩ := (hown7.sl RGen.ok).shape; obtain ⟨n8, hn8⟩ : ∃ n8, (x ++ [((kk, t.data.toList, nn) : Gen)]).length = n8 := ⟨_, rfl⟩; rw [hn8] at hv8; subst hv8; have HN8 := hide hn8; clear hn8; have hg7 := (hsg5.alloc _).base hb7 hg3b; have q1 := hg7.facts.1; have q2 := hg7.facts.2.1; have q3 := hg7.facts.2.2.1; have q4 := hg7.facts.2.2.2; have hsz7 := hb7.size; rw [World.size_alloc] at hsz7))
       all_goals
        have hexf : Ex d w w7 := ((HEX.out.trans hex5).alloc _).then_base (hb7.mono hwb2)
        have hdkf : DeckAt w7 d := (hdk5.alloc _).keep (hb7.mono (by omega))
        have hn2 := ((HSB2.out.ex hex5 h2d).alloc _).base hb7 h2b2
        have hpf : Sl RGen 3 w7 (Btw base b2) l [.slice A9 l.length c9] := (Sl.ok RGen.ok).mono HSLP.out (fun k hk => (hb7.block k hk.2).trans ((Below.heap_alloc _ _ k (by have := hk.2; omega)).trans (hex5.at_ (by have := hk.2; omega) (by have := hk.1; omega)))) (fun _ hk => hk)
        have hz9 : (w7.setCell ⟨g3, 1, none⟩ (.slice A8 n8 c8)).heap.size = w7.heap.size := by simp
        have HPF := hide ((Sl.ok RGen.ok).mono hpf (w' := w7.setCell ⟨g3, 1, none⟩ (.slice A8 n8 c8)) (S' := Btw base (w7.setCell ⟨g3, 1, none⟩ (.slice A8 n8 c8)).heap.size) (fun k hk => Below.heap_setCell _ ⟨g3, 1, none⟩ _ k (by show k ≠ g3; have := hk.1; omega)) (fun k hk => ⟨hk.1, by have := hk.2; omega⟩))
        have HXF := hide ((Sl.ok RGen.ok).mono (hown7.sl RGen.ok) (w' := w7.setCell ⟨g3, 1, none⟩ (.slice A8 n8 c8)) (S' := Btw b2 (w7.setCell ⟨g3, 1, none⟩ (.slice A8 n8 c8)).heap.size) (fun k hk => Below.heap_setCell _ ⟨g3, 1, none⟩ _ k (by
         show k ≠ g3
         rcases hk with hk | hk
         ·have := (hc3 k hk).1; omega
         ·have := hk.1; omega)) (fun k hk => by
         rcases hk with hk | hk
         ·have h1 := hc3 k hk
          rw [World.size_alloc] at h1
          exact ⟨h1.1, by omega⟩
         ·exact ⟨hk.1, by have := hk.2; omega⟩))
        have HSBF := hide (hg7.store1 (.slice A8 n8 c8))
        have HN2 := hide (hn2.other (k := g3) (j := 1) (by omega) (.slice A8 n8 c8))
        have HEXF := hide (hexf.setNew (g := g3) (j := 1) (by omega) (.slice A8 n8 c8))
        have HDKF := hide (hdkf.set_ (g := g3) (j := 1) hd3 (.slice A8 n8 c8))
        have hx8 : (x ++ [((kk, t.data.toList, nn) : Gen)]).length ≤ 4 := by simp; omega
        obtain ⟨wn, hwn⟩ : ∃ wn, wn = w7.setCell ⟨g3, 1, none⟩ (.slice A8 n8 c8) := ⟨_, rfl⟩
        rw [← hwn] at HPF HXF HSBF HN2 HEXF HDKF ⊢
        obtain ⟨s0, s1, s2, s3⟩ := HSBF.out.facts
        obtain ⟨r0, r1, r2, r3⟩ := HN2.out.facts
        have HXF8 : Sl RGen 3 wn (Btw b2 wn.heap.size) (x ++ [(kk, t.data.toList, nn)]) [.slice A8 n8 c8] := HXF.out
        clear hwn hz9 q1 q2 q3 q4
        go_wp2_with fail
        have HGOOD : GoodSub (l, x ++ [(kk, t.data.toList, nn)]) := ⟨by show l.length ≤ 4; omega, hx8, HGL.out, fun g hg => by
         rcases List.mem_append.1 hg with hg | hg
         ·exact HGX.out g hg
         ·simp at hg; subst hg; exact HQ.out⟩
        have hst := HN2.out.store (.slice A9 l.length c9) (.slice A8 n8 c8)
        have hx3 := (HEXF.out.setNew (g := w.heap.size) (j := 0) (Nat.le_refl _) (.slice A9 l.length c9)).setNew (g := w.heap.size) (j := 1) (Nat.le_refl _) (.slice A8 n8 c8)
        have hd3' := (HDKF.out.set_ (g := w.heap.size) (j := 0) hd (.slice A9 l.length c9)).set_ (g := w.heap.size) (j := 1) hd (.slice A8 n8 c8)
        have hpp := sl_st2 RGen.ok (g := w.heap.size) (B := w.heap.size) (a := .slice A9 l.length c9) (b := .slice A8 n8 c8) HPF.out h2b hwb
        have hxx := sl_st2 RGen.ok (g := w.heap.size) (B := w.heap.size) (a := .slice A9 l.length c9) (b := .slice A8 n8 c8) HXF8 h2b2 hwb2
        obtain ⟨W3, hW3⟩ : ∃ W3, W3 = (wn.setCell ⟨w.heap.size, 0, none⟩ (.slice A9 l.length c9)).setCell ⟨w.heap.size, 1, none⟩ (.slice A8 n8 c8) := ⟨_, rfl⟩
        rw [← hW3] at hst hx3 hd3' hpp hxx ⊢
        obtain ⟨q8, q9, -, -⟩ := hst.facts
        exact bodyPost_ret (v := .agg #[.slice A9 l.length c9, .slice A8 n8 c8]) (by simp [results, Tryz.results28, go_sem, q8, q9]) rfl ⟨l, x ++ [(kk, t.data.toList, nn)], A9, _, c9, _, HGOOD, by rw [HN8.out], hpp, by rw [HN8.out]; exact hxx, hd3', hx3⟩
      ·have t2 : ((x.length : Int) == 0) = false := by rw [beq_eq_false_iff_ne]; omega
       clear hp0 hx0
       obtain ⟨s0, s1, s2, s3⟩ := HSB3.out.facts
       obtain ⟨r0, r1, r2, r3⟩ := HSB2.out.facts
       go_wp2_with fail
       obtain ⟨wn, rfl⟩ : ∃ wn : World, wn = wr := ⟨_, rfl⟩
       have hst := HSB2.out.store (.slice A9 l.length c9) (.slice A10 x.length c10)
       have hx3 := (HEX.out.setNew (g := w.heap.size) (j := 0) (Nat.le_refl _) (.slice A9 l.length c9)).setNew (g := w.heap.size) (j := 1) (Nat.le_refl _) (.slice A10 x.length c10)
       have hd3' := (HDK.out.set_ (g := w.heap.size) (j := 0) hd (.slice A9 l.length c9)).set_ (g := w.heap.size) (j := 1) hd (.slice A10 x.length c10)
       have hpp := sl_st2 RGen.ok (g := w.heap.size) (B := w.heap.size) (a := .slice A9 l.length c9) (b := .slice A10 x.length c10) HPP.out h2b hwb
       have hxx := sl_st2 RGen.ok (g := w.heap.size) (B := w.heap.size) (a := .slice A9 l.length c9) (b := .slice A10 x.length c10) hslx h2b2 hwb2
       obtain ⟨W3, hW3⟩ : ∃ W3, W3 = (wn.setCell ⟨w.heap.size, 0, none⟩ (.slice A9 l.length c9)).setCell ⟨w.heap.size, 1, none⟩ (.slice A10 x.length c10) := ⟨_, rfl⟩
       rw [← hW3] at hst hx3 hd3' hpp hxx ⊢
       obtain ⟨q8, q9, -, -⟩ := hst.facts
       exact bodyPost_ret (v := .agg #[.slice A9 l.length c9, .slice A10 x.length c10]) (by simp [results, Tryz.results28, go_sem, q8, q9]) rfl ⟨l, x, A9, _, c9, _, ⟨by show l.length ≤ 4; omega, by show x.length ≤ 4; omega, HGL.out, HGX.out⟩, rfl, hpp, hxx, hd3', hx3⟩
     ·have t1 : ((l.length : Int) == 0) = false := by rw [beq_eq_false_iff_ne]; omega
      clear hp0
      obtain ⟨s0, s1, s2, s3⟩ := HSB3.out.facts
      obtain ⟨r0, r1, r2, r3⟩ := HSB2.out.facts
      go_wp2_with fail
      obtain ⟨wn, rfl⟩ : ∃ wn : World, wn = wr := ⟨_, rfl⟩
      have hst := HSB2.out.store (.slice A9 l.length c9) (.slice A10 x.length c10)
      have hx3 := (HEX.out.setNew (g := w.heap.size) (j := 0) (Nat.le_refl _) (.slice A9 l.length c9)).setNew (g := w.heap.size) (j := 1) (Nat.le_refl _) (.slice A10 x.length c10)
      have hd3' := (HDK.out.set_ (g := w.heap.size) (j := 0) hd (.slice A9 l.length c9)).set_ (g := w.heap.size) (j := 1) hd (.slice A10 x.length c10)
      have hpp := sl_st2 RGen.ok (g := w.heap.size) (B := w.heap.size) (a := .slice A9 l.length c9) (b := .slice A10 x.length c10) HPP.out h2b hwb
      have hxx := sl_st2 RGen.ok (g := w.heap.size) (B := w.heap.size) (a := .slice A9 l.length c9) (b := .slice A10 x.length c10) hslx h2b2 hwb2
      obtain ⟨W3, hW3⟩ : ∃ W3, W3 = (wn.setCell ⟨w.heap.size, 0, none⟩ (.slice A9 l.length c9)).setCell ⟨w.heap.size, 1, none⟩ (.slice A10 x.length c10) := ⟨_, rfl⟩
      rw [← hW3] at hst hx3 hd3' hpp hxx ⊢
      obtain ⟨q8, q9, -, -⟩ := hst.facts
      exact bodyPost_ret (v := .agg #[.slice A9 l.length c9, .slice A10 x.length c10]) (by simp [results, Tryz.results28, go_sem, q8, q9]) rfl ⟨l, x, A9, _, c9, _, ⟨by show l.length ≤ 4; omega, by show x.length ≤ 4; omega, HGL.out, HGX.out⟩, rfl, hpp, hxx, hd3', hx3⟩
end Go.Proofs.YtahamclodagihaaGreatDoor
