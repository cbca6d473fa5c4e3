/- Name constraints that the laws make, with rows of their own. -/
import Derived.Test.YtahamclodagihaaGreatDoorTGnJ
namespace Go.Proofs.YtahamclodagihaaGreatDoor
open Go.RowKit
def SubPost2 (d : Nat) (w : World) (e : Ending) (w' : World) : Prop :=
  ∃ (p x : List Gen) (A1 A2 : Option Addr) (c1 c2 b1 b2 : Nat) (S1 S2 : Nat → Prop), GoodSub (p, x) ∧ (p = [] → x = [] → False) ∧ e = .returned (.agg #[.slice A1 p.length c1, .slice A2 x.length c2]) ∧ (w.heap.size ≤ b1 ∧ b1 ≤ b2 ∧ b2 ≤ w'.heap.size) ∧
    Own RGen 3 62 w' b1 S1 (.slice A1 p.length c1) p ∧ (∀ j, S1 j → b1 ≤ j ∧ j < b2) ∧ (∀ g, (Value.slice A1 p.length c1).ownBlock = some g → g < b2) ∧
    Own RGen 3 62 w' b2 S2 (.slice A2 x.length c2) x ∧ (∀ j, S2 j → b2 ≤ j ∧ j < w'.heap.size) ∧ DeckAt w' d ∧ Ex d w w'
set_option maxRecDepth 100000 in
set_option maxHeartbeats 16000000 in
theorem Subtrees2_any (d : Nat) (w : World) (h : DeckAt w d) : Calls Tryz.prog 28 #[.pointer (some ⟨d, 0, none⟩)] w (SubPost2 d w) := by
 have hd := h.lt
 have HDK0 := hide (fun o1 o2 => (h.alloc o1).alloc o2)
 clear h
 go_enter Tryz.func28, Tryz.ntmps28
 go_wp2_with fail
 refine (Next_any d 4 (by omega) (by omega) _ (HDK0.out _ _)).mono ?_
 rintro e w1 ⟨v4, hv4, rfl, hdk, hex⟩
 have hsb2 : SB w.heap.size (.slice none 0 0) (.slice none 0 0) w1 := SB.ex (by
  unfold SB
  rw [Below.heap_alloc _ _ _ (by simp)]
  exact heap_alloc_new w _) hex (by omega)
 have hsb3 : SB (w.heap.size + 1) (.slice none 0 0) (.slice none 0 0) w1 := SB.ex (by
  unfold SB
  rw [show w.heap.size + 1 = (w.alloc (.cells #[.slice none 0 0, .slice none 0 0] 52)).heap.size by simp]
  exact heap_alloc_new _ _) hex (by omega)
 have hz1 : w.heap.size + 2 ≤ w1.heap.size := by have := hex.size; simp at this; omega
 have HEX := hide (show Ex d w w1 from (((Ex.refl d w).alloc _).alloc _).trans hex)
 have HDK := hide hdk
 obtain ⟨g3, hg3⟩ : ∃ g3, g3 = w.heap.size + 1 := ⟨_, rfl⟩
 obtain ⟨base, hbase⟩ : ∃ base, base = w.heap.size + 2 := ⟨_, rfl⟩
 rw [← hg3] at hsb3 ⊢
 have HSB2 := hide hsb2
 have HSB3 := hide hsb3
 have hg3b : g3 < base := by omega
 have h2b : w.heap.size < base := by omega
 have h23 : w.heap.size < g3 := by omega
 have hd3 : d < g3 := by omega
 have hdb : d < base := by omega
 have hwb : w.heap.size ≤ base := by omega
 have hg3d : g3 ≠ d := by omega
 have h2d : w.heap.size ≠ d := by omega
 have hb1 : base ≤ w1.heap.size := by omega
 clear hex hdk hsb2 hsb3 hz1 hg3 hbase
 go_wp2_with fail
 go_loopw [4] (fun i wr => ∃ (k : Nat) (l : List Gen) (v : Value) (S : Nat → Prop), k + l.length ≤ 3 ∧ i = .int .i64 k ∧ Ex d w wr ∧ DeckAt wr d ∧ base ≤ wr.heap.size ∧ SB g3 v (.slice none 0 0) wr ∧ SB w.heap.size (.slice none 0 0) (.slice none 0 0) wr ∧ Own RGen 3 62 wr base S v l ∧
   (∀ j, S j → base ≤ j ∧ j < wr.heap.size) ∧ ∀ g ∈ l, GoodBase g) (fun i _ => (intOf i).toNat)
 case atStart => exact ⟨v4, [], _, No, by simp; omega, rfl, HEX.out, HDK.out, hb1, HSB3.out, HSB2.out, Own.nil _ _ _ _ _ _, fun j h => h.elim, fun x hx => by cases hx⟩
 case round =>
  obtain ⟨k, l, v, S, hk, rfl, hex, hdk, hgs, hsb3, hsb2, hown, hS, hgl⟩ := hrel
  obtain ⟨A9, c9, hv9⟩ := (hown.sl RGen.ok).shape
  subst hv9
  have HSB3 := hide hsb3
  have HSB2 := hide hsb2
  have HEX := hide hex
  have HDK := hide hdk
  have HOWN := hide hown
  have HS := hide hS
  have HGL := hide hgl
  clear hsb3 hsb2 hex hdk hown hS hgl
  by_cases hlt : 0 < k
  ·have hk1 : (1 : Int) ≤ (k : Int) := by omega
   have hk0 : (0 : Int) < (k : Int) := by omega
   have hlk : l.length ≤ 3 := by omega
   have HSBD := hide (show SB g3 _ _ wr.drew from HSB3.out)
   have y0d : wr.drew.cell? ⟨g3, 0, none⟩ = some (.slice A9 l.length c9) := HSBD.out.facts.1
   have E0 := hide (Base_any d wr.drew (HDK.out.drewN 1))
   go_upto_region 5 with (fail)
   go_region_law (first
    | (go_simp; go_at_call 44; refine E0.out.mono ?_; rintro e w5 ⟨g, t, A5, c5, hq, ht, rfl, hsl5, hdk5, hex5⟩; obtain ⟨kk, tt, nn⟩ := g; obtain rfl : t.data.toList = tt := ht; have HQ := hide hq; have hex5 : Ex d wr w5 := (Ex.refl d wr).drew.trans hex5; have hz5 := hex5.size; obtain ⟨S', hc1, hc2, hc3⟩ := gen_step_ex (k := kk) (t := t) HOWN.out HS.out hgs hex5 hdb hz5 hsl5; have hsg5 := HSB3.out.ex hex5 hg3d; have hs1 : w5.cell? ⟨g3, 0, none⟩ = some (.slice A9 l.length c9) := hsg5.facts.1; have ha1 := fun ob => (hsg5.alloc ob).facts.1)
    | (refine step_app RGen.ok _ ?_ (.tmp 14) (.tmp 17) 50 ?_ base 62 (.agg #[.int .i64 0, .string ⟨#[]⟩, .slice none 0 0]) 48 Tryz.underlying50 info_gen rfl (by decide) S' (.slice A9 l.length c9) l ?_ hc1 ⟨w5.heap.size, 0, none⟩ 1 1 [(kk, t.data.toList, nn)] ?_ rfl ?_ (fun b hb => (hc3 b hb).2) ?_ ?_ ?_ ?_; rfl; rfl; rfl; rfl; exact hc2; (simp; omega); (simp [maxLen]; omega); (rw [World.size_alloc]; omega); intro v7 w7 hown7 hgr7 hb7 hat7; obtain ⟨A8, c8, hv8⟩ := (hown7.sl RGen.ok).shape; obtain ⟨n8, hn8⟩ : ∃ n8, (l ++ [((kk, t.data.toList, nn) : Gen)]).length = n8 := ⟨_, rfl⟩; rw [hn8] at hv8; subst hv8; have HN8 := hide hn8; clear hn8; have hg7 := (hsg5.alloc _).base hb7 hg3b; have q1 := hg7.facts.1; have q2 := hg7.facts.2.1; have q3 := hg7.facts.2.2.1; have q4 := hg7.facts.2.2.2; have hsz7 := hb7.size; rw [World.size_alloc] at hsz7))
   all_goals
    have hexf : Ex d w w7 := ((HEX.out.trans hex5).alloc _).then_base (hb7.mono hwb)
    have hdkf : DeckAt w7 d := (hdk5.alloc _).keep (hb7.mono (by omega))
    have hn2 := ((HSB2.out.ex hex5 h2d).alloc _).base hb7 h2b
    have HN2 := hide hn2
    have HEXF := hide hexf
    have HDKF := hide hdkf
    go_wp2_with fail
    go_roundw
    case rel => exact ⟨k - 1, l ++ [(kk, t.data.toList, nn)], _, S', by simp; omega, num_pred hlt, HEXF.out.setNew (by omega) _, HDKF.out.set_ hd3 _, by simp; omega, hg7.store0 _, HN2.out.other (by omega) _, hown7.other RGen.ok (fun j hj => (hc3 j hj).1) hg3b _, fun j hj => ⟨(hc3 j hj).1, by have := (hc3 j hj).2; simp at this; simp; omega⟩, fun g hg => by
     rcases List.mem_append.1 hg with hg | hg
     ·exact HGL.out g hg
     ·simp at hg; subst hg; exact HQ.out⟩
    case measure => simp [intOf]; omega
  ·obtain rfl : k = 0 := by omega
   have hl3 : l.length ≤ 3 := by omega
   obtain ⟨S1, rfl⟩ : ∃ S1, S1 = S := ⟨_, rfl⟩
   obtain ⟨wo, rfl⟩ : ∃ wo : World, wo = wr := ⟨_, rfl⟩
   clear hk hlt
   go_wp2_with fail
   refine (Next_any d 3 (by omega) (by omega) _ HDK.out).mono ?_
   rintro e w4 ⟨v5, hv5, rfl, hdk4, hex4⟩
   have HSB3 := hide (HSB3.out.ex hex4 hg3d)
   have HSB2 := hide (HSB2.out.ex hex4 h2d)
   have HEX := hide (HEX.out.trans hex4)
   have HDK := hide hdk4
   have HSLP := hide (HOWN.out.ex RGen.ok hex4 hdb HS.out)
   obtain ⟨b2, hb2⟩ : ∃ b2, b2 = w4.heap.size := ⟨_, rfl⟩
   have hS1 : ∀ j, S1 j → base ≤ j ∧ j < b2 := fun j hj => ⟨(HS.out j hj).1, by rw [hb2]; exact Nat.lt_of_lt_of_le (HS.out j hj).2 hex4.size⟩
   have HS1 := hide hS1
   have HV1 := hide (show ∀ g, (Value.slice A9 l.length c9).ownBlock = some g → g < b2 from fun g hg => by rw [hb2]; exact (HSLP.out.lt g hg).2)
   have HV0 := hide (show ∀ g, (Value.slice A9 l.length c9).ownBlock = some g → base ≤ g from fun g hg => (HSLP.out.lt g hg).1)
   have KB1 := hide (show ∀ W W' : World, Own RGen 3 62 W base S1 (.slice A9 l.length c9) l → (∀ k, Btw base b2 k → W'.heap[k]? = W.heap[k]?) → Own RGen 3 62 W' base S1 (.slice A9 l.length c9) l from fun W W' h hk =>
    Own.keep RGen.ok h (fun g hg => hk g ⟨HV0.out g hg, HV1.out g hg⟩) (fun k h1 => hk k (HS1.out k h1)) (fun _ h1 => h1) (by obtain ⟨_, _, h2, _⟩ := h; exact h2))
   clear HOWN HS hS1 HV0
   have hbb2 : base ≤ b2 := by have := hex4.size; omega
   have hb24 : b2 ≤ w4.heap.size := by omega
   clear hdk4 hex4 hb2 hgs
   go_wp2_with fail
   go_loopw [5] (fun i wr => ∃ (k : Nat) (x : List Gen) (v : Value) (S : Nat → Prop), k + x.length ≤ 2 ∧ i = .int .i64 k ∧ Ex d w wr ∧ DeckAt wr d ∧ b2 ≤ wr.heap.size ∧ SB g3 (.slice A9 l.length c9) v wr ∧ SB w.heap.size (.slice none 0 0) (.slice none 0 0) wr ∧ Own RGen 3 62 wr b2 S v x ∧
    (∀ j, S j → b2 ≤ j ∧ j < wr.heap.size) ∧ (∀ g ∈ x, GoodBase g) ∧ Own RGen 3 62 wr base S1 (.slice A9 l.length c9) l) (fun i _ => (intOf i).toNat)
   case atStart => exact ⟨v5, [], _, No, by simp; omega, rfl, HEX.out, HDK.out, hb24, HSB3.out, HSB2.out, Own.nil _ _ _ _ _ _, fun j h => h.elim, (fun x hx => by cases hx), HSLP.out⟩
   case round =>
    obtain ⟨k, x, v, S, hk, rfl, hex, hdk, hgs, hsb3, hsb2, hown, hS, hgx, hslp⟩ := hrel
    obtain ⟨A10, c10, hv10⟩ := (hown.sl RGen.ok).shape
    subst hv10
    clear HSB3 HSB2 HEX HDK HSLP hb24
    have HSB3 := hide hsb3
    have HSB2 := hide hsb2
    have HEX := hide hex
    have HDK := hide hdk
    have HOWN := hide hown
    have HS := hide hS
    have HGX := hide hgx
    have HSLP := hide hslp
    have hdb2 : d < b2 := by omega
    have hg3b2 : g3 < b2 := by omega
    have h2b2 : w.heap.size < b2 := by omega
    have hwb2 : w.heap.size ≤ b2 := by omega
    have hx2 : x.length ≤ 2 := by omega
    clear hsb3 hsb2 hex hdk hown hS hgx hslp
    by_cases hlt : 0 < k
    ·have hk1 : (1 : Int) ≤ (k : Int) := by omega
     have hk0 : (0 : Int) < (k : Int) := by omega
     have hdb := hdb2
     have hg3b := hg3b2
     have HSBD := hide (show SB g3 _ _ wr.drew from HSB3.out)
     have y0d : wr.drew.cell? ⟨g3, 1, none⟩ = some (.slice A10 x.length c10) := HSBD.out.facts.2.1
     have E0 := hide (Base_any d wr.drew (HDK.out.drewN 1))
     go_upto_region 9 with (fail)
     go_region_law (first
      | (go_simp; go_at_call 44; refine E0.out.mono ?_; rintro e w5 ⟨g, t, A5, c5, hq, ht, rfl, hsl5, hdk5, hex5⟩; obtain ⟨kk, tt, nn⟩ := g; obtain rfl : t.data.toList = tt := ht; have HQ := hide hq; have hex5 : Ex d wr w5 := (Ex.refl d wr).drew.trans hex5; have hz5 := hex5.size; obtain ⟨S', hc1, hc2, hc3⟩ := gen_step_ex (k := kk) (t := t) HOWN.out HS.out hgs hex5 hdb hz5 hsl5; have hsg5 := HSB3.out.ex hex5 hg3d; have hs1 : w5.cell? ⟨g3, 1, none⟩ = some (.slice A10 x.length c10) := hsg5.facts.2.1; have ha1 := fun ob => (hsg5.alloc ob).facts.2.1)
      | (refine step_app RGen.ok _ ?_ (.tmp 27) (.tmp 30) 50 ?_ b2 62 (.agg #[.int .i64 0, .string ⟨#[]⟩, .slice none 0 0]) 48 Tryz.underlying50 info_gen rfl (by decide) S' (.slice A10 x.length c10) x ?_ hc1 ⟨w5.heap.size, 0, none⟩ 1 1 [(kk, t.data.toList, nn)] ?_ rfl ?_ (fun b hb => (hc3 b hb).2) ?_ ?_ ?_ ?_; rfl; rfl; rfl; rfl; exact hc2; (simp; omega); (simp [maxLen]; omega); (rw [World.size_alloc]; omega); intro v7 w7 hown7 hgr7 hb7 hat7; obtain ⟨A8, c8, hv8⟩ := (hown7.sl RGen.ok).shape; obtain ⟨n8, hn8⟩ : ∃ n8, (x ++ [((kk, t.data.toList, nn) : Gen)]).length = n8 := ⟨_, rfl⟩; rw [hn8] at hv8; subst hv8; have HN8 := hide hn8; clear hn8; have hg7 := (hsg5.alloc _).base hb7 hg3b; have q1 := hg7.facts.1; have q2 := hg7.facts.2.1; have q3 := hg7.facts.2.2.1; have q4 := hg7.facts.2.2.2; have hsz7 := hb7.size; rw [World.size_alloc] at hsz7))
     all_goals
      have hexf : Ex d w w7 := ((HEX.out.trans hex5).alloc _).then_base (hb7.mono hwb2)
      have hdkf : DeckAt w7 d := (hdk5.alloc _).keep (hb7.mono (by omega))
      have hn2 := ((HSB2.out.ex hex5 h2d).alloc _).base hb7 h2b2
      have hpf : Own RGen 3 62 w7 base S1 (.slice A9 l.length c9) l := KB1.out _ _ HSLP.out (fun k hk => (hb7.block k hk.2).trans ((Below.heap_alloc _ _ k (by have := hk.2; omega)).trans (hex5.at_ (by have := hk.2; omega) (by have := hk.1; omega))))
      have HN2 := hide hn2
      have HEXF := hide hexf
      have HDKF := hide hdkf
      have HPF := hide (KB1.out _ (w7.setCell ⟨g3, 1, none⟩ (.slice A8 n8 c8)) hpf (fun k hk => Below.heap_setCell _ ⟨g3, 1, none⟩ _ k (by show k ≠ g3; have := hk.1; omega)))
      go_wp2_with fail
      go_roundw
      case rel => exact ⟨k - 1, x ++ [(kk, t.data.toList, nn)], _, S', by simp; omega, num_pred hlt, HEXF.out.setNew (by omega) _, HDKF.out.set_ hd3 _, by simp; omega, hg7.store1 _, HN2.out.other (by omega) _, hown7.other RGen.ok (fun j hj => (hc3 j hj).1) hg3b _, fun j hj => ⟨(hc3 j hj).1, by have := (hc3 j hj).2; simp at this; simp; omega⟩, (fun g hg => by
       rcases List.mem_append.1 hg with hg | hg
       ·exact HGX.out g hg
       ·simp at hg; subst hg; exact HQ.out), HPF.out⟩
      case measure => simp [intOf]; omega
    ·obtain rfl : k = 0 := by omega
     clear hlt hk
     by_cases hp0 : l.length = 0
     ·have t1 : ((l.length : Int) == 0) = true := by rw [hp0]; rfl
      by_cases hx0 : x.length = 0
      ·have t2 : ((x.length : Int) == 0) = true := by rw [hx0]; rfl
       clear hp0 hx0
       obtain ⟨s0, s1, s2, s3⟩ := HSB3.out.facts
       have hdb := hdb2
       have hg3b := hg3b2
       have HSBD := hide (show SB g3 _ _ wr.drew from HSB3.out)
       have y0d : wr.drew.cell? ⟨g3, 1, none⟩ = some (.slice A10 x.length c10) := HSBD.out.facts.2.1
       have E0 := hide (Base_any d wr.drew (HDK.out.drewN 1))
       go_upto_region 11 with (fail)
       go_region_law (first
        | (go_simp; go_at_call 44; refine E0.out.mono ?_; rintro e w5 ⟨g, t, A5, c5, hq, ht, rfl, hsl5, hdk5, hex5⟩; obtain ⟨kk, tt, nn⟩ := g; obtain rfl : t.data.toList = tt := ht; have HQ := hide hq; have hex5 : Ex d wr w5 := (Ex.refl d wr).drew.trans hex5; have hz5 := hex5.size; obtain ⟨S', hc1, hc2, hc3⟩ := gen_step_ex (k := kk) (t := t) HOWN.out HS.out hgs hex5 hdb hz5 hsl5; have hsg5 := HSB3.out.ex hex5 hg3d; have hs1 : w5.cell? ⟨g3, 1, none⟩ = some (.slice A10 x.length c10) := hsg5.facts.2.1; have ha1 := fun ob => (hsg5.alloc ob).facts.2.1)
        | (refine step_app RGen.ok _ ?_ (.tmp 44) (.tmp 47) 50 ?_ b2 62 (.agg #[.int .i64 0, .string ⟨#[]⟩, .slice none 0 0]) 48 Tryz.underlying50 info_gen rfl (by decide) S' (.slice A10 x.length c10) x ?_ hc1 ⟨w5.heap.size, 0, none⟩ 1 1 [(kk, t.data.toList, nn)] ?_ rfl ?_ (fun b hb => (hc3 b hb).2) ?_ ?_ ?_ ?_; rfl; rfl; rfl; rfl; exact hc2; (simp; omega); (simp [maxLen]; omega); (rw [World.size_alloc]; omega); intro v7 w7 hown7 hgr7 hb7 hat7; obtain ⟨A8, c8, hv8⟩ := (hown7.sl RGen.ok).shape; obtain ⟨n8, hn8⟩ : ∃ n8, (x ++ [((kk, t.data.toList, nn) : Gen)]).length = n8 := ⟨_, rfl⟩; rw [hn8] at hv8; subst hv8; have HN8 := hide hn8; clear hn8; have hg7 := (hsg5.alloc _).base hb7 hg3b; have q1 := hg7.facts.1; have q2 := hg7.facts.2.1; have q3 := hg7.facts.2.2.1; have q4 := hg7.facts.2.2.2; have hsz7 := hb7.size; rw [World.size_alloc] at hsz7))
       all_goals
        have hexf : Ex d w w7 := ((HEX.out.trans hex5).alloc _).then_base (hb7.mono hwb2)
        have hdkf : DeckAt w7 d := (hdk5.alloc _).keep (hb7.mono (by omega))
        have hn2 := ((HSB2.out.ex hex5 h2d).alloc _).base hb7 h2b2
        have hpf : Own RGen 3 62 w7 base S1 (.slice A9 l.length c9) l := KB1.out _ _ HSLP.out (fun k hk => (hb7.block k hk.2).trans ((Below.heap_alloc _ _ k (by have := hk.2; omega)).trans (hex5.at_ (by have := hk.2; omega) (by have := hk.1; omega))))
        have hz9 : (w7.setCell ⟨g3, 1, none⟩ (.slice A8 n8 c8)).heap.size = w7.heap.size := by simp
        have HPF := hide (KB1.out _ (w7.setCell ⟨g3, 1, none⟩ (.slice A8 n8 c8)) hpf (fun k hk => Below.heap_setCell _ ⟨g3, 1, none⟩ _ k (by show k ≠ g3; have := hk.1; omega)))
        have HXF := hide (hown7.other RGen.ok (fun j hj => (hc3 j hj).1) hg3b (g := g3) (j := 1) (.slice A8 n8 c8))
        have HXS := hide (show ∀ j, S' j → b2 ≤ j ∧ j < (w7.setCell ⟨g3, 1, none⟩ (.slice A8 n8 c8)).heap.size from fun j hj => by
         have h1 := hc3 j hj
         rw [World.size_alloc] at h1
         exact ⟨h1.1, by omega⟩)
        have HSBF := hide (hg7.store1 (.slice A8 n8 c8))
        have HN2 := hide (hn2.other (k := g3) (j := 1) (by omega) (.slice A8 n8 c8))
        have HEXF := hide (hexf.setNew (g := g3) (j := 1) (by omega) (.slice A8 n8 c8))
        have HDKF := hide (hdkf.set_ (g := g3) (j := 1) hd3 (.slice A8 n8 c8))
        have hx8 : (x ++ [((kk, t.data.toList, nn) : Gen)]).length ≤ 4 := by simp; omega
        obtain ⟨wn, hwn⟩ : ∃ wn, wn = w7.setCell ⟨g3, 1, none⟩ (.slice A8 n8 c8) := ⟨_, rfl⟩
        have hbwn : b2 ≤ wn.heap.size := by rw [hwn, hz9]; omega
        rw [← hwn] at HPF HXF HXS HSBF HN2 HEXF HDKF ⊢
        obtain ⟨s0, s1, s2, s3⟩ := HSBF.out.facts
        obtain ⟨r0, r1, r2, r3⟩ := HN2.out.facts
        clear hwn hz9 q1 q2 q3 q4
        go_wp2_with fail
        have HGOOD : GoodSub (l, x ++ [(kk, t.data.toList, nn)]) := ⟨by show l.length ≤ 4; omega, hx8, HGL.out, fun g hg => by
         rcases List.mem_append.1 hg with hg | hg
         ·exact HGX.out g hg
         ·simp at hg; subst hg; exact HQ.out⟩
        have hst := HN2.out.store (.slice A9 l.length c9) (.slice A8 n8 c8)
        have hx3 := (HEXF.out.setNew (g := w.heap.size) (j := 0) (Nat.le_refl _) (.slice A9 l.length c9)).setNew (g := w.heap.size) (j := 1) (Nat.le_refl _) (.slice A8 n8 c8)
        have hd3' := (HDKF.out.set_ (g := w.heap.size) (j := 0) hd (.slice A9 l.length c9)).set_ (g := w.heap.size) (j := 1) hd (.slice A8 n8 c8)
        have hpp := KB1.out _ ((wn.setCell ⟨w.heap.size, 0, none⟩ (.slice A9 l.length c9)).setCell ⟨w.heap.size, 1, none⟩ (.slice A8 n8 c8)) HPF.out (fun k hk => (Below.heap_setCell _ ⟨w.heap.size, 1, none⟩ _ k (by show k ≠ w.heap.size; have := hk.1; omega)).trans (Below.heap_setCell _ ⟨w.heap.size, 0, none⟩ _ k (by show k ≠ w.heap.size; have := hk.1; omega)))
        have hxx := (HXF.out.other RGen.ok (fun j hj => (HXS.out j hj).1) h2b2 (g := w.heap.size) (j := 0) (.slice A9 l.length c9)).other RGen.ok (fun j hj => (HXS.out j hj).1) h2b2 (g := w.heap.size) (j := 1) (.slice A8 n8 c8)
        have hz3 : ((wn.setCell ⟨w.heap.size, 0, none⟩ (.slice A9 l.length c9)).setCell ⟨w.heap.size, 1, none⟩ (.slice A8 n8 c8)).heap.size = wn.heap.size := by simp
        obtain ⟨W3, hW3⟩ : ∃ W3, W3 = (wn.setCell ⟨w.heap.size, 0, none⟩ (.slice A9 l.length c9)).setCell ⟨w.heap.size, 1, none⟩ (.slice A8 n8 c8) := ⟨_, rfl⟩
        rw [← hW3] at hst hx3 hd3' hpp hxx hz3 ⊢
        obtain ⟨q8, q9, -, -⟩ := hst.facts
        exact bodyPost_ret (v := .agg #[.slice A9 l.length c9, .slice A8 n8 c8]) (by simp [results, Tryz.results28, go_sem, q8, q9]) rfl ⟨l, x ++ [(kk, t.data.toList, nn)], A9, _, c9, _, base, b2, S1, _, HGOOD, (fun _ h => by simp at h), by rw [HN8.out], ⟨hwb, hbb2, by omega⟩, hpp, HS1.out, HV1.out, by rw [HN8.out]; exact hxx, (fun j hj => by rw [hz3]; exact HXS.out j hj), hd3', hx3⟩
      ·have t2 : ((x.length : Int) == 0) = false := by rw [beq_eq_false_iff_ne]; omega
       have HNE := hide (show l = [] → x = [] → False from fun _ h => hx0 (by rw [h]; rfl))
       clear hp0 hx0
       obtain ⟨s0, s1, s2, s3⟩ := HSB3.out.facts
       obtain ⟨r0, r1, r2, r3⟩ := HSB2.out.facts
       go_wp2_with fail
       obtain ⟨wn, rfl⟩ : ∃ wn : World, wn = wr := ⟨_, rfl⟩
       have hst := HSB2.out.store (.slice A9 l.length c9) (.slice A10 x.length c10)
       have hx3 := (HEX.out.setNew (g := w.heap.size) (j := 0) (Nat.le_refl _) (.slice A9 l.length c9)).setNew (g := w.heap.size) (j := 1) (Nat.le_refl _) (.slice A10 x.length c10)
       have hd3' := (HDK.out.set_ (g := w.heap.size) (j := 0) hd (.slice A9 l.length c9)).set_ (g := w.heap.size) (j := 1) hd (.slice A10 x.length c10)
       have hpp := KB1.out _ ((wn.setCell ⟨w.heap.size, 0, none⟩ (.slice A9 l.length c9)).setCell ⟨w.heap.size, 1, none⟩ (.slice A10 x.length c10)) HSLP.out (fun k hk => (Below.heap_setCell _ ⟨w.heap.size, 1, none⟩ _ k (by show k ≠ w.heap.size; have := hk.1; omega)).trans (Below.heap_setCell _ ⟨w.heap.size, 0, none⟩ _ k (by show k ≠ w.heap.size; have := hk.1; omega)))
       have hxx := (HOWN.out.other RGen.ok (fun j hj => (HS.out j hj).1) h2b2 (g := w.heap.size) (j := 0) (.slice A9 l.length c9)).other RGen.ok (fun j hj => (HS.out j hj).1) h2b2 (g := w.heap.size) (j := 1) (.slice A10 x.length c10)
       have hz3 : ((wn.setCell ⟨w.heap.size, 0, none⟩ (.slice A9 l.length c9)).setCell ⟨w.heap.size, 1, none⟩ (.slice A10 x.length c10)).heap.size = wn.heap.size := by simp
       obtain ⟨W3, hW3⟩ : ∃ W3, W3 = (wn.setCell ⟨w.heap.size, 0, none⟩ (.slice A9 l.length c9)).setCell ⟨w.heap.size, 1, none⟩ (.slice A10 x.length c10) := ⟨_, rfl⟩
       rw [← hW3] at hst hx3 hd3' hpp hxx hz3 ⊢
       obtain ⟨q8, q9, -, -⟩ := hst.facts
       exact bodyPost_ret (v := .agg #[.slice A9 l.length c9, .slice A10 x.length c10]) (by simp [results, Tryz.results28, go_sem, q8, q9]) rfl ⟨l, x, A9, _, c9, _, base, b2, S1, _, ⟨by show l.length ≤ 4; omega, by show x.length ≤ 4; omega, HGL.out, HGX.out⟩, HNE.out, rfl, ⟨hwb, hbb2, by omega⟩, hpp, HS1.out, HV1.out, hxx, (fun j hj => by rw [hz3]; exact HS.out j hj), hd3', hx3⟩
     ·have t1 : ((l.length : Int) == 0) = false := by rw [beq_eq_false_iff_ne]; omega
      have HNE := hide (show l = [] → x = [] → False from fun h _ => hp0 (by rw [h]; rfl))
      clear hp0
      obtain ⟨s0, s1, s2, s3⟩ := HSB3.out.facts
      obtain ⟨r0, r1, r2, r3⟩ := HSB2.out.facts
      go_wp2_with fail
      obtain ⟨wn, rfl⟩ : ∃ wn : World, wn = wr := ⟨_, rfl⟩
      have hst := HSB2.out.store (.slice A9 l.length c9) (.slice A10 x.length c10)
      have hx3 := (HEX.out.setNew (g := w.heap.size) (j := 0) (Nat.le_refl _) (.slice A9 l.length c9)).setNew (g := w.heap.size) (j := 1) (Nat.le_refl _) (.slice A10 x.length c10)
      have hd3' := (HDK.out.set_ (g := w.heap.size) (j := 0) hd (.slice A9 l.length c9)).set_ (g := w.heap.size) (j := 1) hd (.slice A10 x.length c10)
      have hpp := KB1.out _ ((wn.setCell ⟨w.heap.size, 0, none⟩ (.slice A9 l.length c9)).setCell ⟨w.heap.size, 1, none⟩ (.slice A10 x.length c10)) HSLP.out (fun k hk => (Below.heap_setCell _ ⟨w.heap.size, 1, none⟩ _ k (by show k ≠ w.heap.size; have := hk.1; omega)).trans (Below.heap_setCell _ ⟨w.heap.size, 0, none⟩ _ k (by show k ≠ w.heap.size; have := hk.1; omega)))
      have hxx := (HOWN.out.other RGen.ok (fun j hj => (HS.out j hj).1) h2b2 (g := w.heap.size) (j := 0) (.slice A9 l.length c9)).other RGen.ok (fun j hj => (HS.out j hj).1) h2b2 (g := w.heap.size) (j := 1) (.slice A10 x.length c10)
      have hz3 : ((wn.setCell ⟨w.heap.size, 0, none⟩ (.slice A9 l.length c9)).setCell ⟨w.heap.size, 1, none⟩ (.slice A10 x.length c10)).heap.size = wn.heap.size := by simp
      obtain ⟨W3, hW3⟩ : ∃ W3, W3 = (wn.setCell ⟨w.heap.size, 0, none⟩ (.slice A9 l.length c9)).setCell ⟨w.heap.size, 1, none⟩ (.slice A10 x.length c10) := ⟨_, rfl⟩
      rw [← hW3] at hst hx3 hd3' hpp hxx hz3 ⊢
      obtain ⟨q8, q9, -, -⟩ := hst.facts
      exact bodyPost_ret (v := .agg #[.slice A9 l.length c9, .slice A10 x.length c10]) (by simp [results, Tryz.results28, go_sem, q8, q9]) rfl ⟨l, x, A9, _, c9, _, base, b2, S1, _, ⟨by show l.length ≤ 4; omega, by show x.length ≤ 4; omega, HGL.out, HGX.out⟩, HNE.out, rfl, ⟨hwb, hbb2, by omega⟩, hpp, HS1.out, HV1.out, hxx, (fun j hj => by rw [hz3]; exact HS.out j hj), hd3', hx3⟩
end Go.Proofs.YtahamclodagihaaGreatDoor
