/- The law NameKey, its walk. -/
import Derived.Test.YtahamclodagihaaGreatDoorKNkC
import Derived.Test.YtahamclodagihaaGreatDoorKGNamY
import Derived.Test.YtahamclodagihaaGreatDoorKGNenI
import Derived.Test.YtahamclodagihaaGreatDoorKNamG
import Derived.Test.YtahamclodagihaaGreatDoorKGLibI
namespace Go.Proofs.YtahamclodagihaaGreatDoor
open Go.RowKit
set_option maxRecDepth 100000 in
set_option maxHeartbeats 16000000 in
theorem NameKey_any (l : List Int) (A0 : Option Addr) (n0 c0 : Nat) (w : World) (hmx : Mx w) (htb : Tb w) (h : Sl RInt 1 w (Lt w.heap.size) l [.slice A0 n0 c0]) :
  Calls Tryz.prog 5 #[.slice A0 n0 c0] w fun e w' => e = .returned (.bool true) ∧ Below w.heap.size w w' := by
 have HMX := hide hmx
 have HTB := hide htb
 have K := hide h
 clear hmx htb h
 go_enter Tryz.func5, Tryz.ntmps5
 go_wp2_with fail
 refine (New_any l A0 n0 c0 _ K.out).mono ?_
 rintro e w3 ⟨rfl, hdk3, hb3⟩
 obtain ⟨d, hd⟩ : ∃ d, w.heap.size = d := ⟨_, rfl⟩
 rw [hd] at hdk3 ⊢
 have hdw : w.heap.size ≤ d := by omega
 have HB3 := hide hb3
 have HDK3 := hide hdk3
 clear hd hb3 hdk3
 go_wp2_with fail
 refine (Name_any d _ HDK3.out).mono ?_
 rintro e w4 ⟨a, va, hga, rfl, hsl4, hdk4, hex4⟩
 obtain ⟨A1, c1, hva⟩ := hsl4.shape
 subst hva
 have HB4 := hide (Ex.below HB3.out HB3.out.size hdw hex4)
 have HNA := hide (NmAt.new ((Sl.ok RRdn.ok).mono hsl4 (fun _ _ => rfl) (fun k hk => ⟨hk.2, by have := hk.1; have := HDK3.out.lt; omega⟩)) hdk4.lt)
 have HDK := hide (hdk4.alloc (.cells #[.slice A1 a.length c1] 24))
 have BN := hide hga.bnd
 have HGA := hide hga
 clear hga hex4 hdk4 hsl4
 go_upto_region 3 with (fail)
 obtain ⟨w5, hw5⟩ : ∃ W, W = w4.alloc (.cells #[.slice A1 a.length c1] 24) := ⟨_, rfl⟩
 obtain ⟨ga, hga⟩ : ∃ g, w4.heap.size = g := ⟨_, rfl⟩
 have HB5 := hide (show Below w.heap.size w w5 by rw [hw5]; exact HB4.out.alloc HB4.out.size _)
 rw [← hw5] at HNA HDK ⊢
 rw [hga] at HNA
 try rw [hga]
 clear hw5 hga
 obtain ⟨A1, c1, hn1, -, -, hsl5⟩ := HNA.out.sl
 have HSL5 := hide hsl5
 clear hsl5
 go_wp2_with fail
 refine (spelled_any d 15 (by omega) a BN.out A1 c1 _ HDK.out HSL5.out).mono ?_
 rintro e w6 ⟨b, vb, hsp, rfl, hsl6, hdk6, hex6⟩
 obtain ⟨A2, c2, hvb⟩ := hsl6.shape
 subst hvb
 have HB6 := hide (Ex.below HB5.out HB5.out.size hdw hex6)
 have HNA6 := hide (HNA.out.ex hex6)
 have HDK6 := hide hdk6
 have HSL6 := hide (show Sl RRdn 1 w6 (Nd d w6.heap.size) b [.slice A2 b.length c2] from (Sl.ok RRdn.ok).mono hsl6 (fun _ _ => rfl) (fun k hk => ⟨hk.2, by have := hk.1; have := HDK.out.lt; omega⟩))
 have HSP := hide hsp
 clear hsp hsl6 hdk6 hex6 hn1
 go_wp2_with fail
 refine (Name_any d _ HDK6.out).mono ?_
 rintro e w7 ⟨c, vc, hgc, rfl, hsl7, hdk7, hex7⟩
 obtain ⟨A3, c3, hvc⟩ := hsl7.shape
 subst hvc
 have HB7 := hide (Ex.below HB6.out HB6.out.size hdw hex7)
 have HNA7 := hide (HNA6.out.ex hex7)
 have HSB7 := hide ((Sl.ok RRdn.ok).mono HSL6.out hex7.keeps (fun _ hk => hk))
 have HSC7 := hide (show Sl RRdn 1 w7 (Nd d w7.heap.size) c [.slice A3 c.length c3] from (Sl.ok RRdn.ok).mono hsl7 (fun _ _ => rfl) (fun k hk => ⟨hk.2, by have := hk.1; have := HDK6.out.lt; omega⟩))
 have HGC := hide hgc
 have hz67 := hex7.size
 clear hgc hsl7 hdk7 hex7
 go_upto_region 4 with (fail)
 obtain ⟨w8, hw8⟩ : ∃ W, W = (w7.alloc (.cells #[.slice A2 b.length c2] 24)).alloc (.cells #[.slice A3 c.length c3] 24) := ⟨_, rfl⟩
 have hb78 : Below w7.heap.size w7 w8 := by rw [hw8]; exact ((Below.refl _ _).alloc (Nat.le_refl _) _).alloc (by simp) _
 have hnb : NB w7.heap.size (.slice A2 b.length c2) w8 := by
  unfold NB
  rw [hw8, Below.heap_alloc _ _ _ (by simp)]
  exact heap_alloc_new w7 _
 have hnc : NB (w7.heap.size + 1) (.slice A3 c.length c3) w8 := by
  unfold NB
  rw [hw8, show w7.heap.size + 1 = (w7.alloc (.cells #[.slice A2 b.length c2] 24)).heap.size by simp]
  exact heap_alloc_new _ _
 obtain ⟨A1, c1, hna7, hgad, hsla⟩ := HNA7.out
 have hna := hna7.below hb78
 have HSA := hide (show Sl RRdn 1 w8 (Lt w8.heap.size) a [.slice A1 a.length c1] from (Sl.ok RRdn.ok).below ((Sl.ok RRdn.ok).mono hsla (S' := Lt w7.heap.size) (fun _ _ => rfl) (fun k hk => hk.1)) hb78)
 have HSB := hide (show Sl RRdn 1 w8 (Lt w8.heap.size) b [.slice A2 b.length c2] from (Sl.ok RRdn.ok).below ((Sl.ok RRdn.ok).mono HSB7.out (S' := Lt w7.heap.size) (fun _ _ => rfl) (fun k hk => Nat.lt_of_lt_of_le hk.1 hz67)) hb78)
 have HSC := hide (show Sl RRdn 1 w8 (Lt w8.heap.size) c [.slice A3 c.length c3] from (Sl.ok RRdn.ok).below ((Sl.ok RRdn.ok).mono HSC7.out (S' := Lt w7.heap.size) (fun _ _ => rfl) (fun k hk => hk.1)) hb78)
 have HB8 := hide (HB7.out.trans (hb78.mono HB7.out.size))
 obtain ⟨gb, hgb⟩ : ∃ g, w7.heap.size = g := ⟨_, rfl⟩
 obtain ⟨gc, hgc⟩ : ∃ g, gb + 1 = g := ⟨_, rfl⟩
 rw [hgb] at hnb
 rw [hgb, hgc] at hnc
 rw [← hw8]
 try rw [hgb]
 try rw [hgc]
 have SMA := hide (BN.out.small (by omega))
 have SMB := hide ((HSP.out.bnd BN.out).small (by omega))
 have SMC := hide (HGC.out.bnd.small (by omega))
 obtain ⟨q, hq⟩ : ∃ q, chkN b = q := ⟨_, rfl⟩
 have HQ := hide hq
 obtain ⟨f0, -⟩ := hna.facts
 obtain ⟨f1, -⟩ := hnb.facts
 obtain ⟨f2, -⟩ := hnc.facts
 clear hw8 hb78 hnb hnc hna7 hna hgad hsla hgb hgc hq HNA HNA6 HNA7 HSL5 HSL6 HSB7 HSC7
 go_wp2_with fail
 refine (rCheck_any b A2 c2 _ (HMX.out.below HB8.out) HSB.out SMB.out).mono ?_
 rintro e w9 ⟨rfl, hb9⟩
 rw [HQ.out]
 have HB9 := hide (HB8.out.trans (hb9.mono HB8.out.size))
 have HSA := hide ((Sl.ok RRdn.ok).below HSA.out hb9)
 have HSB := hide ((Sl.ok RRdn.ok).below HSB.out hb9)
 have HSC := hide ((Sl.ok RRdn.ok).below HSC.out hb9)
 have f0 := cell_grows hb9 _ _ f0
 have f1 := cell_grows hb9 _ _ f1
 have f2 := cell_grows hb9 _ _ f2
 clear hb9
 by_cases hq0 : q = 0
 ·subst hq0
  have hka : keyN b = keyN a := by
   have := key_match HGA.out.chk HQ.out
   rw [(matchN_iff a b).2 HSP.out.same, beq_iff_eq] at this
   exact this.symm
  obtain ⟨ka, hka2⟩ : ∃ x : ByteArray, x = ⟨(keyN a).toArray⟩ := ⟨_, rfl⟩
  obtain ⟨kc, hkc2⟩ : ∃ x : ByteArray, x = ⟨(keyN c).toArray⟩ := ⟨_, rfl⟩
  obtain ⟨q2, hq2⟩ : ∃ q, matchN a c = q := ⟨_, rfl⟩
  have s2 : (ka.toList == kc.toList) = q2 := by
   rw [str_beq, hka2, hkc2, ← hq2]
   exact key_match HGA.out.chk HGC.out.chk
  have s1 : (ka.toList == ka.toList) = true := by simp
  have s3 : (q2 == q2) = true := by simp
  have KS := hide (show ∀ (f : FuncId) (args : Array Value) (W : World) (v : Value), (Calls Tryz.prog f args W fun e W' => e = .returned v ∧ Below W.heap.size W W') → W.cell? ⟨ga, 0, none⟩ = some (.slice A1 a.length c1) → W.cell? ⟨gb, 0, none⟩ = some (.slice A2 b.length c2) → W.cell? ⟨gc, 0, none⟩ = some (.slice A3 c.length c3) → Below w9.heap.size w9 W →
    Calls Tryz.prog f args W fun e W' => e = .returned v ∧ W'.cell? ⟨ga, 0, none⟩ = some (.slice A1 a.length c1) ∧ W'.cell? ⟨gb, 0, none⟩ = some (.slice A2 b.length c2) ∧ W'.cell? ⟨gc, 0, none⟩ = some (.slice A3 c.length c3) ∧ Below w9.heap.size w9 W' from fun _ _ _ _ hc h1 h2 h3 h4 =>
   hc.mono fun _ _ ⟨he, hb⟩ => ⟨he, cell_grows hb _ _ h1, cell_grows hb _ _ h2, cell_grows hb _ _ h3, h4.trans (hb.mono h4.size)⟩)
  have CW := hide (fun W h1 h2 h3 (h4 : Below w9.heap.size w9 W) => KS.out _ _ _ _ (nawake_any W (HMX.out.below (HB9.out.trans (h4.mono HB9.out.size)))) h1 h2 h3 h4)
  have CA := hide (fun W h1 h2 h3 (h4 : Below w9.heap.size w9 W) => KS.out _ _ _ _ (Key_any a HGA.out.chk A1 c1 ka hka2 W (HTB.out.below (HB9.out.trans (h4.mono HB9.out.size))) ((Sl.ok RRdn.ok).below HSA.out h4)) h1 h2 h3 h4)
  have CB := hide (fun W h1 h2 h3 (h4 : Below w9.heap.size w9 W) => KS.out _ _ _ _ (Key_any b HQ.out A2 c2 ka (by rw [hka]; exact hka2) W (HTB.out.below (HB9.out.trans (h4.mono HB9.out.size))) ((Sl.ok RRdn.ok).below HSB.out h4)) h1 h2 h3 h4)
  have CC := hide (fun W h1 h2 h3 (h4 : Below w9.heap.size w9 W) => KS.out _ _ _ _ (Key_any c HGC.out.chk A3 c3 kc hkc2 W (HTB.out.below (HB9.out.trans (h4.mono HB9.out.size))) ((Sl.ok RRdn.ok).below HSC.out h4)) h1 h2 h3 h4)
  have CM := hide (fun W h1 h2 h3 (h4 : Below w9.heap.size w9 W) => KS.out _ _ _ _ (rMatch_v2 a c A1 A3 c1 c3 q2 hq2 W ((Sl.ok RRdn.ok).below HSA.out h4) ((Sl.ok RRdn.ok).below HSC.out h4) SMA.out SMC.out) h1 h2 h3 h4)
  have f3 := Below.refl w9.heap.size w9
  have d0 : w9.drew.cell? ⟨ga, 0, none⟩ = some (.slice A1 a.length c1) := f0
  have d1 : w9.drew.cell? ⟨gb, 0, none⟩ = some (.slice A2 b.length c2) := f1
  have d2 : w9.drew.cell? ⟨gc, 0, none⟩ = some (.slice A3 c.length c3) := f2
  have d3 := f3.drew
  clear hka hka2 hkc2 hq2
  go_upto_region 6 with fail
  go_region_held3 (fun W => W.cell? ⟨ga, 0, none⟩ = some (.slice A1 a.length c1) ∧ W.cell? ⟨gb, 0, none⟩ = some (.slice A2 b.length c2) ∧ W.cell? ⟨gc, 0, none⟩ = some (.slice A3 c.length c3) ∧ Below w9.heap.size w9 W)
   (first | exact ⟨hs1, hs2, hs3, hs4⟩ | exact ⟨f0, f1, f2, f3⟩ | exact ⟨d0, d1, d2, d3⟩)
   (first
    | (go_at_call 11; (first | (with_reducible refine (CW.out _ hs1 hs2 hs3 hs4).mono ?_) | (with_reducible refine (CW.out _ d0 d1 d2 d3).mono ?_) | fail); rintro e wn ⟨rfl, hs1, hs2, hs3, hs4⟩)
    | (go_at_call 25; (first | (with_reducible refine (CA.out _ hs1 hs2 hs3 hs4).mono ?_) | (with_reducible refine (CB.out _ hs1 hs2 hs3 hs4).mono ?_) | (with_reducible refine (CC.out _ hs1 hs2 hs3 hs4).mono ?_) | fail); rintro e wn ⟨rfl, hs1, hs2, hs3, hs4⟩)
    | (go_at_call 23; (first | (with_reducible refine (CM.out _ hs1 hs2 hs3 hs4).mono ?_) | fail); rintro e wn ⟨rfl, hs1, hs2, hs3, hs4⟩)
    | fail)
  all_goals
   have HBN := hide (HB9.out.trans (hs4.mono HB9.out.size))
   go_wp2_with fail
   go_ret
   exact ⟨rfl, HBN.out⟩
 ·have ht : (q != 0) = true := by simp [hq0]
  clear hq0
  go_wp2_with fail
  refine (nawake_any _ (HMX.out.below HB9.out)).mono ?_
  rintro e wz ⟨rfl, hbz⟩
  go_wp2_with fail
  go_ret
  exact ⟨rfl, HB9.out.trans (hbz.mono HB9.out.size)⟩
end Go.Proofs.YtahamclodagihaaGreatDoor
