/- The law GnameText, its walk. -/
import Derived.Test.YtmgnihmjjijdoaaGreatDoorGtG
import Derived.Test.YtmgnihmjjijdoaaGreatDoorGtF
import Derived.Test.YtmgnihmjjijdoaaGreatDoorGmA
import Derived.Test.YtmgnihmjjijdoaaGreatDoorGHosI
import Derived.Test.YtmgnihmjjijdoaaGreatDoorGLibI
namespace Go.Proofs.YtmgnihmjjijdoaaGreatDoor
open Go.RowKit

def gTab : List (List UInt8) := [[100, 110, 115, 58], [109, 97, 105, 108, 58], [105, 112, 58], [100, 105, 114, 58], [79, 61, 120], [97, 46, 98], [42, 46], [97, 110, 110, 64], [46], [48, 97], [48, 97, 48, 49, 48, 50, 48, 51], [102, 102, 48, 48, 48, 48, 48, 48], [92, 50, 99], [58], [67, 78, 61], []]
def gAt (m : Nat) : List UInt8 := gTab.getD m []
theorem gAt_len (m : Nat) (h : m < 16) : (gAt m).length ≤ 8 := by
  have : ∀ n : Fin 16, (gAt n.1).length ≤ 8 := by decide
  exact this ⟨m, h⟩
theorem g_get (m : Nat) (h : m < 16) : (gTab.map fun l => Value.string ⟨l.toArray⟩)[m]? = some (.string ⟨(gAt m).toArray⟩) := by
  rw [List.getElem?_map, List.getElem?_eq_getElem (by exact h)]
  simp [gAt, List.getD, List.getElem?_eq_getElem (show m < gTab.length from h)]
  rfl
theorem two_gen8 {w : World} {S : Nat → Prop} {g1 g2 : Gen} {t1 t2 : ByteArray} {A1 A2 : Option Addr} {c1 c2 : Nat} {T : TypeId} (ht1 : t1.data.toList = g1.2.1) (ht2 : t2.data.toList = g2.2.1)
    (h1 : Sl RRdn 1 w S g1.2.2 [.slice A1 g1.2.2.length c1]) (h2 : Sl RRdn 1 w S g2.2.2 [.slice A2 g2.2.2.length c2]) (hS : ∀ k, S k → k < w.heap.size) :
    Sl RGen 3 (w.alloc (.cells #[.int .i64 g1.1, .string t1, .slice A1 g1.2.2.length c1, .int .i64 g2.1, .string t2, .slice A2 g2.2.2.length c2] T)) (Lt (w.alloc (.cells #[.int .i64 g1.1, .string t1, .slice A1 g1.2.2.length c1, .int .i64 g2.1, .string t2, .slice A2 g2.2.2.length c2] T)).heap.size) [g1, g2] [.slice (some ⟨w.heap.size, 0, none⟩) 2 2] := by
  refine ⟨_, _, rfl, Nat.le_refl _, by simp [maxLen], fun _ => ⟨w.heap.size, 0, rfl, by show w.heap.size < _; simp, fun i x hx => ?_⟩⟩
  match i, hx with
  | 0, hx =>
    simp at hx; subst hx
    refine ⟨[.int .i64 g1.1, .string t1, .slice A1 g1.2.2.length c1], ⟨_, by rw [← ht1], (Sl.ok RRdn.ok).mono h1 (fun k hk => Below.heap_alloc _ _ k (hS k hk)) (fun k hk => by show k < _; have := hS k hk; simp; omega)⟩, fun j u hu => ?_⟩
    rw [World.cell?_alloc_new]
    match j, hu with
    | 0, hu => simpa using hu
    | 1, hu => simpa using hu
    | 2, hu => simpa using hu
  | 1, hx =>
    simp at hx; subst hx
    refine ⟨[.int .i64 g2.1, .string t2, .slice A2 g2.2.2.length c2], ⟨_, by rw [← ht2], (Sl.ok RRdn.ok).mono h2 (fun k hk => Below.heap_alloc _ _ k (hS k hk)) (fun k hk => by show k < _; have := hS k hk; simp; omega)⟩, fun j u hu => ?_⟩
    rw [World.cell?_alloc_new]
    match j, hu with
    | 0, hu => simpa using hu
    | 1, hu => simpa using hu
    | 2, hu => simpa using hu
/-- the state of the region that lays the two general names -/
structure HJ (w1 : World) (d : Nat) (a : Gen) (ta : ByteArray) (Aa : Option Addr) (ca : Nat) (dd : Nat → Bool) (val : Nat → Value) (W : World) : Prop where
  base : Ex d w1 W
  dk : DeckAt W d
  l35 : dd 0 = true → val 35 = .agg #[.int .i64 a.1, .string ta, .slice Aa a.2.2.length ca]
  m36 : dd 1 = true → val 36 = .pointer (some ⟨d, 0, none⟩)
  s37 : dd 2 = true → ∃ (x : Gen) (tx : ByteArray) (Ax : Option Addr) (cx : Nat), SmallG x ∧ tx.data.toList = x.2.1 ∧ val 37 = .agg #[.int .i64 x.1, .string tx, .slice Ax x.2.2.length cx] ∧ Sl RRdn 1 W (Lt W.heap.size) x.2.2 [.slice Ax x.2.2.length cx]
  b38 : dd 3 = true → ∃ (g : Nat) (L : List Gen), val 38 = .slice (some ⟨g, 0, none⟩) 2 2 ∧ L.length = 2 ∧ SmallGs L ∧ Sl RGen 3 W (Lt W.heap.size) L [.slice (some ⟨g, 0, none⟩) 2 2]
  m39 : dd 4 = true → val 39 = .int .i64 2
  m40 : dd 5 = true → val 40 = .int .i64 0
  q3 : dd 3 = true → dd 2 = true

set_option maxRecDepth 100000 in
set_option maxHeartbeats 16000000 in
theorem GnameText_any (a : Gen) (ta s : ByteArray) (l : List Int) (m : List UInt8) (Aa A0 Am : Option Addr) (ca n0 c0 nm cm : Nat) (hta : ta.data.toList = a.2.1) (w : World) (hmx : Mx w)
    (h1 : Sl RRdn 1 w (Lt w.heap.size) a.2.2 [.slice Aa a.2.2.length ca]) (h : Sl RInt 1 w (Lt w.heap.size) l [.slice A0 n0 c0]) (hm : Sl RByte 1 w (Lt w.heap.size) m [.slice Am nm cm]) :
    Calls Tryz.prog 3 #[.agg #[.int .i64 a.1, .string ta, .slice Aa a.2.2.length ca], .string s, .slice A0 n0 c0, .slice Am nm cm] w fun e w' => e = .returned (.bool true) ∧ Below w.heap.size w w' := by
  obtain ⟨rfl, hnc, hcm⟩ := hm.len_
  unfold maxLen at hcm
  have HMX := hide hmx
  have K0 := hide h
  have K1 := hide h1
  have KM := hide hm
  have HTA := hide hta
  obtain ⟨wa, hwa⟩ : ∃ wa, wa = w.alloc (.cells #[.int .i64 a.1, .string ta, .slice Aa a.2.2.length ca] 26) := ⟨_, rfl⟩
  have hga : GB w.heap.size a.1 ta (.slice Aa a.2.2.length ca) wa := by rw [hwa]; exact heap_alloc_new w _
  have hba : Below w.heap.size w wa := by rw [hwa]; exact (Below.refl _ _).alloc (Nat.le_refl _) _
  obtain ⟨g3, hg3⟩ : ∃ g, w.heap.size = g := ⟨_, rfl⟩
  rw [hg3] at hga
  obtain ⟨a0, a1, a2, -, -, -⟩ := hga.facts
  have HGA := hide hga
  have HBA := hide hba
  have HWA := hide hwa
  have HG3 := hide hg3
  obtain ⟨p1, hp1⟩ : ∃ p, shortGs [a] = p := ⟨_, rfl⟩
  have HP1 := hide hp1
  clear hmx h h1 hm hta hwa hga hba hg3 hp1
  go_enter Tryz.func3, Tryz.ntmps3
  go_upto_region 1 with (fail)
  rw [← HWA.out]
  try rw [HG3.out]
  go_wp2_with fail
  refine (short9_any a ta Aa ca p1 HP1.out HTA.out _ ((Sl.ok RRdn.ok).below K1.out HBA.out)).mono ?_
  rintro e w1 ⟨rfl, hb1⟩
  have HB1 := hide (HBA.out.trans (hb1.mono HBA.out.size))
  have HC1 := hide hb1
  clear hb1 a0 a1 a2
  cases p1
  · go_wp2_with fail
    refine (awake9_any _ (HMX.out.below HB1.out)).mono ?_
    rintro e wz ⟨rfl, hbz⟩
    go_wp2_with fail
    go_ret
    exact ⟨rfl, HB1.out.trans (hbz.mono HB1.out.size)⟩
  · by_cases hs2 : 200 < s.size
    · have t3 : (200 : Int) < (s.size : Int) := by omega
      clear hs2
      go_wp2_with fail
      refine (awake9_any _ (HMX.out.below HB1.out)).mono ?_
      rintro e wz ⟨rfl, hbz⟩
      go_wp2_with fail
      go_ret
      exact ⟨rfl, HB1.out.trans (hbz.mono HB1.out.size)⟩
    · have t3 : ¬ (200 : Int) < (s.size : Int) := by omega
      have HSS := hide (show s.size ≤ 200 by omega)
      have HSA := hide (show SmallG a from shortGs_small HP1.out a (by simp))
      clear hs2
      go_wp2_with fail
      refine (New_any l A0 n0 c0 _ ((Sl.ok RInt.ok).below K0.out HB1.out)).mono ?_
      rintro e w3 ⟨rfl, hdk3, hb3⟩
      obtain ⟨d, hd⟩ : ∃ d, w1.heap.size = d := ⟨_, rfl⟩
      have HGA1 := hide (HGA.out.below HC1.out)
      have h3d : g3 ≠ d := by have := HGA1.out.lt; omega
      rw [hd] at hdk3 ⊢
      have hwd : w.heap.size ≤ d := by have := HB1.out.size; omega
      have HB3 := hide (HB1.out.trans (hb3.mono HB1.out.size))
      have HDK3 := hide hdk3
      have HGA3 := hide (HGA1.out.below hb3)
      clear hdk3 hb3 hd t3
      go_upto_region 4 with fail
      refine region_inv [35, 36, 37, 38, 39, 40] (HJ w3 d a ta Aa ca) (by kernel_rfl) (by kernel_rfl) (fun val => ⟨(Ex.refl d w3).drew, HDK3.out.drewN 1, nofun, nofun, nofun, nofun, nofun, nofun, nofun⟩) ⟨?_, ?_, ?_, ?_, ?_, ?_, trivial⟩ ?_
      · refine ⟨fun s hs => by cases hs <;> decide, ?_⟩
        rintro dd val W hJ hd hdep K hK
        rw [if_pos (by rfl)]
        dsimp only [putF, List.foldl, Act.put] at hK ⊢
        simp only [List.setIfInBounds_toArray, List.set_cons_zero, List.set_cons_succ] at hK ⊢
        obtain ⟨m0, m1, m2, -, -, -⟩ := (HGA3.out.ex hJ.base h3d).facts
        go_simp
        exact hK.out _ _ { base := hJ.base, dk := hJ.dk, l35 := fun _ => rfl, m36 := hJ.m36, s37 := hJ.s37, b38 := hJ.b38, m39 := hJ.m39, m40 := hJ.m40, q3 := hJ.q3 }
      · refine ⟨fun s hs => by cases hs <;> decide, ?_⟩
        rintro dd val W hJ hd hdep K hK
        rw [if_pos (by rfl)]
        dsimp only [putF, List.foldl, Act.put] at hK ⊢
        simp only [List.setIfInBounds_toArray, List.set_cons_zero, List.set_cons_succ] at hK ⊢
        go_simp
        exact hK.out _ _ { base := hJ.base, dk := hJ.dk, l35 := hJ.l35, m36 := fun _ => rfl, s37 := hJ.s37, b38 := hJ.b38, m39 := hJ.m39, m40 := hJ.m40, q3 := hJ.q3 }
      · refine ⟨fun s hs => by cases hs <;> decide, ?_⟩
        rintro dd val W hJ hd hdep K hK
        rw [if_pos (by rfl)]
        dsimp only [putF, List.foldl, Act.put] at hK ⊢
        simp only [List.setIfInBounds_toArray, List.set_cons_zero, List.set_cons_succ] at hK ⊢
        have e36 := hJ.m36 (hdep ⟨1, .data⟩ (by simp) rfl)
        have h24 : dd 3 = false := by
          cases h : dd 3
          · rfl
          · rw [hJ.q3 h] at hd; cases hd
        simp only [e36] at hK ⊢
        go_simp
        refine (some_any d W hJ.dk).mono ?_
        rintro e w4 ⟨x, tx, Ax, cx, hgx, htx, rfl, hslx, hdkB, hexB⟩
        go_wp2_with fail
        exact hK.out _ _ { base := hJ.base.trans hexB, dk := hdkB, l35 := hJ.l35, m36 := hJ.m36, s37 := fun _ => ⟨x, tx, Ax, cx, hgx, htx, rfl, (Sl.ok RRdn.ok).mono hslx (fun _ _ => rfl) (fun j hj => hj.2)⟩, b38 := fun h => (by rw [show dd 3 = true from h] at h24; cases h24), m39 := hJ.m39, m40 := hJ.m40, q3 := fun _ => rfl }
      · refine ⟨fun s hs => by cases hs <;> decide, ?_⟩
        rintro dd val W hJ hd hdep K hK
        rw [if_pos (by rfl)]
        dsimp only [putF, List.foldl, Act.put] at hK ⊢
        simp only [List.setIfInBounds_toArray, List.set_cons_zero, List.set_cons_succ] at hK ⊢
        have e35 := hJ.l35 (hdep ⟨0, .data⟩ (by simp) rfl)
        have D2 := hdep ⟨2, .data⟩ (by simp) rfl
        obtain ⟨x, tx, Ax, cx, hgx, htx, e37, hslx⟩ := hJ.s37 D2
        simp only [e35, e37] at hK ⊢
        have htwo := two_gen8 (w := W) (S := Lt W.heap.size) (g1 := a) (g2 := x) (T := 26) HTA.out htx ((Sl.ok RRdn.ok).below K1.out (Ex.below HB3.out HB3.out.size hwd hJ.base)) hslx (fun _ h => h)
        have hb : Below W.heap.size W (W.alloc (.cells #[.int .i64 a.1, .string ta, .slice Aa a.2.2.length ca, .int .i64 x.1, .string tx, .slice Ax x.2.2.length cx] 26)) := (Below.refl _ _).alloc (Nat.le_refl _) _
        go_simp
        exact hK.out _ _ { base := hJ.base.trans (Ex.of_below hb), dk := hJ.dk.below hb, l35 := hJ.l35, m36 := hJ.m36, s37 := fun _ => ⟨x, tx, Ax, cx, hgx, htx, e37, (Sl.ok RRdn.ok).below hslx hb⟩, b38 := fun _ => ⟨W.heap.size, [a, x], rfl, rfl, (fun g hg => by
          simp only [List.mem_cons, List.not_mem_nil, or_false] at hg
          rcases hg with rfl | rfl
          · exact HSA.out
          · exact hgx), htwo⟩, m39 := hJ.m39, m40 := hJ.m40, q3 := fun _ => D2 }
      · refine ⟨fun s hs => by cases hs <;> decide, ?_⟩
        rintro dd val W hJ hd hdep K hK
        rw [if_pos (by rfl)]
        dsimp only [putF, List.foldl, Act.put] at hK ⊢
        simp only [List.setIfInBounds_toArray, List.set_cons_zero, List.set_cons_succ] at hK ⊢
        obtain ⟨g, L, e38, -⟩ := hJ.b38 (hdep ⟨3, .data⟩ (by simp) rfl)
        simp only [e38] at hK ⊢
        go_simp
        exact hK.out _ _ { base := hJ.base, dk := hJ.dk, l35 := hJ.l35, m36 := hJ.m36, s37 := hJ.s37, b38 := hJ.b38, m39 := fun _ => rfl, m40 := hJ.m40, q3 := hJ.q3 }
      · refine ⟨fun s hs => by cases hs <;> decide, ?_⟩
        rintro dd val W hJ hd hdep K hK
        rw [if_pos (by rfl)]
        dsimp only [putF, List.foldl, Act.put] at hK ⊢
        simp only [List.setIfInBounds_toArray, List.set_cons_zero, List.set_cons_succ] at hK ⊢
        go_simp
        exact hK.out _ _ { base := hJ.base, dk := hJ.dk, l35 := hJ.l35, m36 := hJ.m36, s37 := hJ.s37, b38 := hJ.b38, m39 := hJ.m39, m40 := fun _ => rfl, q3 := hJ.q3 }
      · rintro dd val W hall hJ
        obtain ⟨gL, L, e38, hL2, hLs, hslL⟩ := hJ.b38 (hall 3 (by decide))
        have e39 := hJ.m39 (hall 4 (by decide))
        have e40 := hJ.m40 (hall 5 (by decide))
        have HBW := hide (Ex.below HB3.out HB3.out.size hwd hJ.base)
        have KL := hide (show Sl RGen 3 W (Lt W.heap.size) L [.slice (some ⟨gL, 0, none⟩) L.length 2] by rw [hL2]; exact hslL)
        have HLS := hide hLs
        have HL2 := hide hL2
        dsimp only [putF, List.foldl, Act.put]
        simp only [List.setIfInBounds_toArray, List.set_cons_zero, List.set_cons_succ]
        simp only [e38, e39, e40]
        clear hJ hall e38 e39 e40 hslL hLs hL2
        go_wp2_with fail
        go_loopw [40] (fun i wr => ∃ q : Nat, q ≤ 2 ∧ i = .int .i64 q ∧ Below W.heap.size W wr) (fun i _ => 2 - (intOf i).toNat)
        case atStart => exact ⟨0, by omega, rfl, Below.refl _ _⟩
        case round =>
          obtain ⟨q, hq, rfl, hb⟩ := hrel
          have HB := hide (HBW.out.trans (hb.mono HBW.out.size))
          by_cases hlt : q < 2
          · have hlt2 : (q : Int) < 2 := by omega
            have hltL : q < L.length := by have := HL2.out; omega
            obtain ⟨b2, o2, t, A2, c2, hB, hbS, ht2, d0, d1, d2, hsl⟩ := KL.out.genAt hltL
            simp only [Option.some.injEq, Addr.mk.injEq, and_true] at hB
            obtain ⟨rfl, rfl⟩ := hB
            have hbS' : gL < W.heap.size := hbS
            have hsg := HLS.out L[q] (List.getElem_mem hltL)
            obtain ⟨g, hg⟩ : ∃ g, L[q] = g := ⟨_, rfl⟩
            rw [hg] at d0 d2 hsl ht2 hsg
            obtain ⟨kb, t', nb⟩ := g
            simp only at d0 d2 hsl ht2
            subst ht2
            rw [Nat.zero_add] at d0 d1 d2
            have f0 := (hb.cell (p := ⟨gL, q * 3, none⟩) hbS').trans d0
            have f1 := (hb.cell (p := ⟨gL, q * 3 + 1, none⟩) hbS').trans d1
            have f2 := (hb.cell (p := ⟨gL, q * 3 + 2, none⟩) hbS').trans d2
            have hts : t.size ≤ 100000 := by rw [← size_string]; exact hsg.1
            have HTS := hide hts
            have HSN := hide hsg.2
            obtain ⟨w9, rfl⟩ : ∃ wq : World, wq = wr := ⟨_, rfl⟩
            have HBr := hide hb
            obtain ⟨wx, hwx⟩ : ∃ W, W = w9.alloc (.cells #[.int .i64 kb, .string t, .slice A2 nb.length c2] 26) := ⟨_, rfl⟩
            have hbx : Below w9.heap.size w9 wx := by rw [hwx]; exact (Below.refl _ _).alloc (Nat.le_refl _) _
            have hgx : GB w9.heap.size kb t (.slice A2 nb.length c2) wx := by rw [hwx]; exact heap_alloc_new w9 _
            obtain ⟨gx, hgx'⟩ : ∃ g, w9.heap.size = g := ⟨_, rfl⟩
            rw [hgx'] at hgx
            have HBX := hide (HB.out.trans (hbx.mono HB.out.size))
            have HBXr := hide (HBr.out.trans (hbx.mono HBr.out.size))
            have KN := hide ((Sl.ok RRdn.ok).below ((Sl.ok RRdn.ok).below hsl hb) hbx)
            obtain ⟨o, ho⟩ : ∃ o, fmtG (kb, t.data.toList, nb) = o := ⟨_, rfl⟩
            have EN := hide (fun W (hb : Below wx.heap.size wx W) => gFormat_any kb t nb A2 c2 (by omega) HSN.out W (HMX.out.below (HBX.out.trans (hb.mono HBX.out.size))) ((Sl.ok RRdn.ok).below KN.out hb))
            have REN := hide (fun W (hb : Below wx.heap.size wx W) => rFormatG_any kb t nb A2 c2 (by omega) HSN.out W (HMX.out.below (HBX.out.trans (hb.mono HBX.out.size))) ((Sl.ok RRdn.ok).below KN.out hb))
            rw [ho] at EN REN
            obtain ⟨E, hE⟩ : ∃ E : ByteArray, (⟨o.1.toArray⟩ : ByteArray) = E := ⟨_, rfl⟩
            obtain ⟨ke, hke⟩ : ∃ k, o.2 = k := ⟨_, rfl⟩
            have HWR := hide (show wrapR o = .tuple #[.string E, .int .i64 ke] by rw [wrapR, hE, hke])
            have s2 : (E.toList != E.toList) = false := by simp
            have s3 : (ke != ke) = false := by simp
            obtain ⟨z0, z1, z2, -, -, -⟩ := hgx.facts
            clear ho hE hke hb d0 d1 d2 hsl hsg hg hbS hbS' hbx hgx hts
            go_upto_region 7 with fail
            rw [← hwx]
            try rw [hgx']
            clear hwx hgx' f0 f1 f2
            go_wp2_with fail
            refine (EN.out _ (Below.refl _ _)).mono ?_
            rintro e w5 ⟨rfl, hb5⟩
            rw [HWR.out]
            have HB5 := hide hb5
            have z0 := cell_grows hb5 _ _ z0
            have z1 := cell_grows hb5 _ _ z1
            have z2 := cell_grows hb5 _ _ z2
            clear hb5
            go_wp2_with fail
            refine (REN.out _ HB5.out).mono ?_
            rintro e w6 ⟨rfl, hb6⟩
            rw [HWR.out]
            have HBN := hide (HBXr.out.trans ((HB5.out.trans (hb6.mono HB5.out.size)).mono HBXr.out.size))
            clear hb6 z0 z1 z2
            go_wp2_with fail
            go_roundw
            case rel => exact ⟨q + 1, by omega, by go_num, HBN.out⟩
            case measure => simp [intOf]; omega
          · obtain ⟨w9, rfl⟩ : ∃ wq : World, wq = wr := ⟨_, rfl⟩
            clear hb
            go_wp2_with fail
            go_loopw [16, 17] (fun v i wr => ∃ (k : Nat) (o : ByteArray), k ≤ m.length ∧ k ≤ 12 ∧ o.size ≤ 8 * k ∧ v = .string o ∧ i = .int .i64 k ∧ Below w.heap.size w wr) (fun _ i _ => 12 - (intOf i).toNat)
            case atStart => exact ⟨0, _, Nat.zero_le _, Nat.zero_le _, by decide, rfl, rfl, HB.out⟩
            case round =>
              obtain ⟨k, o, hk, hk12, hol, rfl, rfl, hb⟩ := hrel
              have hgs : w.heap.size ≤ wr.heap.size := hb.size
              by_cases hltm : k < m.length
              · by_cases hlt2 : k < 12
                · obtain ⟨b, off, xs, hA, hbS, hx, hcell⟩ := KM.out.at_ hltm
                  obtain ⟨dd, hdd⟩ : ∃ d, d = m[k] := ⟨_, rfl⟩
                  rw [← hdd] at hx
                  have hc0 := hcell 0 (.int .u8 (dd.toNat : Int)) (by rw [show xs = byteC dd from hx]; rfl)
                  rw [Nat.mul_one, Nat.add_zero] at hc0
                  have hbS' : b < w.heap.size := hbS
                  have hca : ∀ ob, (wr.alloc ob).cell? ⟨b, off + k, none⟩ = some (.int .u8 (dd.toNat : Int)) := fun ob => by
                    rw [World.cell?_alloc_lt _ _ _ (by show b < _; omega), hb.cell hbS', hc0]
                  have hdb := byte_lt dd
                  obtain ⟨mm, hmm⟩ : ∃ m : Nat, m = dd.toNat % 16 := ⟨_, rfl⟩
                  have hm16 : (mm : Int) < 16 := by omega
                  have hm0 : (0 : Int) ≤ (mm : Int) := by omega
                  have hmi : (dd.toNat : Int) % 16 = (mm : Int) := by omega
                  have hpg := g_get mm (by omega)
                  have hpl := gAt_len mm (by omega)
                  obtain ⟨y, hy⟩ : ∃ y : ByteArray, y = ⟨(gAt mm).toArray⟩ := ⟨_, rfl⟩
                  have hys : y.size ≤ 8 := by rw [hy]; exact hpl
                  rw [← hy] at hpg
                  have hpl2 : (([.string ⟨#[100, 110, 115, 58]⟩, .string ⟨#[109, 97, 105, 108, 58]⟩, .string ⟨#[105, 112, 58]⟩, .string ⟨#[100, 105, 114, 58]⟩, .string ⟨#[79, 61, 120]⟩, .string ⟨#[97, 46, 98]⟩, .string ⟨#[42, 46]⟩, .string ⟨#[97, 110, 110, 64]⟩, .string ⟨#[46]⟩, .string ⟨#[48, 97]⟩, .string ⟨#[48, 97, 48, 49, 48, 50, 48, 51]⟩, .string ⟨#[102, 102, 48, 48, 48, 48, 48, 48]⟩, .string ⟨#[92, 50, 99]⟩, .string ⟨#[58]⟩, .string ⟨#[67, 78, 61]⟩, .string ⟨#[]⟩] : List Value))[mm]? = some (.string y) := hpg
                  have hpl3 : (([.string ⟨#[100, 110, 115, 58]⟩, .string ⟨#[109, 97, 105, 108, 58]⟩, .string ⟨#[105, 112, 58]⟩, .string ⟨#[100, 105, 114, 58]⟩, .string ⟨#[79, 61, 120]⟩, .string ⟨#[97, 46, 98]⟩, .string ⟨#[42, 46]⟩, .string ⟨#[97, 110, 110, 64]⟩, .string ⟨#[46]⟩, .string ⟨#[48, 97]⟩, .string ⟨#[48, 97, 48, 49, 48, 50, 48, 51]⟩, .string ⟨#[102, 102, 48, 48, 48, 48, 48, 48]⟩, .string ⟨#[92, 50, 99]⟩, .string ⟨#[58]⟩, .string ⟨#[67, 78, 61]⟩, .string ⟨#[]⟩] : List Value)).toArray[mm]? = some (.string y) := by rw [List.getElem?_toArray]; exact hpg
                  subst hA
                  have HBl := hide hb
                  clear hpg hcell hx hdd hy hmm hc0 hpl hb
                  go_wp2_with fail
                  go_roundw
                  case rel => exact ⟨k + 1, o ++ y, by omega, by omega, by rw [ba_size]; omega, rfl, by go_num, HBl.out.alloc hgs _⟩
                  case measure => simp [intOf]; omega
                · have HB := hide hb
                  obtain ⟨wp, rfl⟩ : ∃ wp : World, wp = wr := ⟨_, rfl⟩
                  obtain ⟨x3, hx3⟩ : ∃ x3, x3 = (⟨#[105, 112, 58]⟩ : ByteArray) ++ o := ⟨_, rfl⟩
                  obtain ⟨x4, hx4⟩ : ∃ x4, x4 = (⟨#[100, 110, 115, 58]⟩ : ByteArray) ++ s := ⟨_, rfl⟩
                  have hx32 : (⟨#[105, 112, 58]⟩ : ByteArray) ++ o = x3 := hx3.symm
                  have hx42 : (⟨#[100, 110, 115, 58]⟩ : ByteArray) ++ s = x4 := hx4.symm
                  have hx3s : x3.size ≤ 1000 := by rw [hx3, ba_size]; show 3 + o.size ≤ 1000; omega
                  have hx4s : x4.size ≤ 1000 := by rw [hx4, ba_size]; have := HSS.out; show 4 + s.size ≤ 1000; omega
                  have hs3 : (⟨#[105, 112, 58]⟩ : ByteArray).size = 3 := rfl
                  have hs4 : (⟨#[100, 110, 115, 58]⟩ : ByteArray).size = 4 := rfl
                  have hbs : ¬ 9223372036854775807 < 3 + o.size := by omega
                  have hbs2 : ¬ 9223372036854775807 < 4 + s.size := by have := HSS.out; omega
                  clear hx3 hx4 hb
                  go_wp2_with fail
                  clear hx32 hx42 hs3 hs4 hbs hbs2
                  obtain ⟨W0, hW0⟩ : ∃ W0, W0 = wp.alloc (.cells #[.string s, .string o, .string x3, .string x4] 9) := ⟨_, rfl⟩
                  have hcells : ∀ k, k < 4 → ∃ x : ByteArray, x.size ≤ 1000 ∧ W0.cell? ⟨wp.heap.size, k, none⟩ = some (.string x) := fun k hk => by
                    rw [hW0, World.cell?_alloc_new]
                    match k, hk with
                    | 0, _ => exact ⟨_, by have := HSS.out; omega, rfl⟩
                    | 1, _ => exact ⟨_, by omega, rfl⟩
                    | 2, _ => exact ⟨_, by omega, rfl⟩
                    | 3, _ => exact ⟨_, by omega, rfl⟩
                  have hb0 : Below w.heap.size w W0 := by rw [hW0]; exact HB.out.alloc HB.out.size _
                  have hz0 : wp.heap.size < W0.heap.size := by rw [hW0]; simp
                  obtain ⟨gp, hgp⟩ : ∃ g, wp.heap.size = g := ⟨_, rfl⟩
                  rw [hgp] at hcells hz0
                  rw [← hW0]
                  try rw [hgp]
                  have HC := hide hcells
                  have HB0 := hide hb0
                  clear hcells hb0 hW0 hgp
                  go_loopw [91] (fun i wr => ∃ k : Nat, k ≤ 4 ∧ i = .int .i64 k ∧ Below W0.heap.size W0 wr) (fun i _ => 4 - (intOf i).toNat)
                  case atStart => exact ⟨0, by omega, rfl, Below.refl _ _⟩
                  case round =>
                    obtain ⟨k3, hk3, rfl, hb⟩ := hrel
                    obtain ⟨wi, rfl⟩ : ∃ wi : World, wi = wr := ⟨_, rfl⟩
                    have HBW := hide (HB0.out.trans (hb.mono HB0.out.size))
                    by_cases hlt3 : k3 < 4
                    · have hlt4 : (k3 : Int) < 4 := by omega
                      obtain ⟨x, hxs, hc⟩ := HC.out k3 hlt3
                      have hc' : wi.cell? ⟨gp, k3, none⟩ = some (.string x) := (hb.cell (p := ⟨gp, k3, none⟩) hz0).trans hc
                      obtain ⟨o, ho⟩ : ∃ o, parseG x.data.toList = o := ⟨_, rfl⟩
                      have DN := hide (fun W (hw : Below w.heap.size w W) => gParse_any x (by omega) W (HMX.out.below hw))
                      have RDN := hide (fun W (hw : Below w.heap.size w W) => rParseG_any x (by omega) W (HMX.out.below hw))
                      rw [ho] at DN RDN
                      have HBr := hide hb
                      clear hb hc ho
                      go_wp2_with fail
                      refine (DN.out _ HBW.out).mono ?_
                      rintro e w5 ⟨t5, A5, c5, rfl, ht5, hsl5, hb5, hmed5⟩
                      obtain ⟨kq, kb, tb, nb⟩ := o
                      simp only at ht5 hsl5 hmed5 ⊢
                      have HB5 := hide (HBW.out.trans (hb5.mono HBW.out.size))
                      have HB5r := hide (HBr.out.trans (hb5.mono HBr.out.size))
                      have hsl5 := (Sl.ok RRdn.ok).mono hsl5 (fun _ _ => rfl) (S' := Lt w5.heap.size) (fun _ hj => hj.2)
                      clear hb5 hc' hmed5
                      go_upto_region 21 with fail
                      obtain ⟨w6, hw6⟩ : ∃ W, W = w5.alloc (.cells #[.int .i64 kb, .string t5, .slice A5 nb.length c5] 26) := ⟨_, rfl⟩
                      have hb6 : Below w5.heap.size w5 w6 := by rw [hw6]; exact (Below.refl _ _).alloc (Nat.le_refl _) _
                      have hg6 : GB w5.heap.size kb t5 (.slice A5 nb.length c5) w6 := by rw [hw6]; exact heap_alloc_new w5 _
                      have hsl6 := (Sl.ok RRdn.ok).below hsl5 hb6
                      have HB6 := hide (HB5.out.trans (hb6.mono HB5.out.size))
                      have HB6r := hide (HB5r.out.trans (hb6.mono HB5r.out.size))
                      obtain ⟨g5, hg5⟩ : ∃ g, w5.heap.size = g := ⟨_, rfl⟩
                      rw [hg5] at hg6
                      rw [← hw6]
                      try rw [hg5]
                      have HG6 := hide hg6
                      have HS6 := hide hsl6
                      clear hsl5 hsl6 hb6 hw6 hg5 hg6
                      go_wp2_with fail
                      refine (RDN.out _ HB6.out).mono ?_
                      rintro e w7 ⟨t7, A7, c7, rfl, ht7, hsl7, hb7, hmed7⟩
                      simp only at ht7 hsl7 ⊢
                      have HB7 := hide (HB6.out.trans (hb7.mono HB6.out.size))
                      have HB7r := hide (HB6r.out.trans (hb7.mono HB6r.out.size))
                      have HG7 := hide (HG6.out.below hb7)
                      have HS7 := hide ((Sl.ok RRdn.ok).below HS6.out hb7)
                      have hsl7 := (Sl.ok RRdn.ok).mono hsl7 (fun _ _ => rfl) (S' := Lt w7.heap.size) (fun _ hj => hj.2)
                      clear hb7 hmed7
                      go_upto_region 22 with fail
                      obtain ⟨w8, hw8⟩ : ∃ W, W = w7.alloc (.cells #[.int .i64 kb, .string t7, .slice A7 nb.length c7] 26) := ⟨_, rfl⟩
                      have hb8 : Below w7.heap.size w7 w8 := by rw [hw8]; exact (Below.refl _ _).alloc (Nat.le_refl _) _
                      have hg8 : GB w7.heap.size kb t7 (.slice A7 nb.length c7) w8 := by rw [hw8]; exact heap_alloc_new w7 _
                      have HB8r := hide (HB7r.out.trans (hb8.mono HB7r.out.size))
                      have hs5 := (Sl.ok RRdn.ok).below HS7.out hb8
                      have hs7 := (Sl.ok RRdn.ok).below hsl7 hb8
                      obtain ⟨f0, f1, f2, -, -, -⟩ := (HG7.out.below hb8).facts
                      obtain ⟨g7, hg7⟩ : ∃ g, w7.heap.size = g := ⟨_, rfl⟩
                      rw [hg7] at hg8
                      obtain ⟨e0, e1, e2, -, -, -⟩ := hg8.facts
                      rw [← hw8]
                      try rw [hg7]
                      clear hw8 hg7 hsl7
                      obtain ⟨w9, hw9⟩ : ∃ W, W = w8.alloc (.cells #[.int .i64 kb, .string t5, .slice A5 nb.length c5] 26) := ⟨_, rfl⟩
                      have hb9 : Below w8.heap.size w8 w9 := by rw [hw9]; exact (Below.refl _ _).alloc (Nat.le_refl _) _
                      have hq1 := one_gen9 (g := ((kb, tb, nb) : Gen)) (T := 26) ht5 hs5 (fun _ h => h)
                      rw [← hw9] at hq1
                      have hz9 : w9.heap.size = w8.heap.size + 1 := by rw [hw9]; simp
                      obtain ⟨w10, hw10⟩ : ∃ W, W = w9.alloc (.cells #[.int .i64 kb, .string t7, .slice A7 nb.length c7] 26) := ⟨_, rfl⟩
                      have hb10 : Below w9.heap.size w9 w10 := by rw [hw10]; exact (Below.refl _ _).alloc (Nat.le_refl _) _
                      have hq2 := one_gen9 (g := ((kb, tb, nb) : Gen)) (T := 26) ht7 ((Sl.ok RRdn.ok).below hs7 hb9) (fun _ h => h)
                      rw [← hw10, hz9] at hq2
                      have e0' := cell_grows hb9 _ _ e0
                      have e1' := cell_grows hb9 _ _ e1
                      have e2' := cell_grows hb9 _ _ e2
                      rw [hw9] at e0' e1' e2'
                      have EX := hide (show Calls Tryz.prog 13 #[.slice (some ⟨w8.heap.size, 0, none⟩) 1 1, .slice (some ⟨w8.heap.size + 1, 0, none⟩) 1 1] w10 (fun e w' => e = .returned (.bool true) ∧ Below w10.heap.size w10 w') from ExactGs_same [((kb, tb, nb) : Gen)] (some ⟨w8.heap.size, 0, none⟩) (some ⟨w8.heap.size + 1, 0, none⟩) 1 1 w10 ((Sl.ok RGen.ok).below hq1 hb10) hq2)
                      have HB10 := hide (HB8r.out.trans ((hb9.trans (hb10.mono hb9.size)).mono HB8r.out.size))
                      have HW9 := hide hw9
                      have HW10 := hide hw10
                      have s3 : (kq != kq) = false := by simp
                      clear hq1 hq2 hs5 hs7 hb8 hg8 hb9 hb10 hz9 hw9 hw10 ht5 ht7
                      rw [HW10.out, HW9.out] at EX
                      go_wp2_with fail
                      refine EX.out.mono ?_
                      rintro e wn ⟨rfl, hbn⟩
                      rw [← HW9.out, ← HW10.out] at hbn
                      have HBN := hide (HB10.out.trans (hbn.mono HB10.out.size))
                      clear hbn f0 f1 f2 e0 e1 e2 e0' e1' e2'
                      go_wp2_with fail
                      go_roundw
                      case rel => exact ⟨k3 + 1, by omega, by go_num, HBN.out⟩
                      case measure => simp [intOf]; omega
                    · clear hb
                      go_wp2_with fail
                      refine (awake9_any _ (HMX.out.below HBW.out)).mono ?_
                      rintro e wz ⟨rfl, hbz⟩
                      go_wp2_with fail
                      go_ret
                      exact ⟨rfl, HBW.out.trans (hbz.mono HBW.out.size)⟩
              · have HB := hide hb
                obtain ⟨wp, rfl⟩ : ∃ wp : World, wp = wr := ⟨_, rfl⟩
                obtain ⟨x3, hx3⟩ : ∃ x3, x3 = (⟨#[105, 112, 58]⟩ : ByteArray) ++ o := ⟨_, rfl⟩
                obtain ⟨x4, hx4⟩ : ∃ x4, x4 = (⟨#[100, 110, 115, 58]⟩ : ByteArray) ++ s := ⟨_, rfl⟩
                have hx32 : (⟨#[105, 112, 58]⟩ : ByteArray) ++ o = x3 := hx3.symm
                have hx42 : (⟨#[100, 110, 115, 58]⟩ : ByteArray) ++ s = x4 := hx4.symm
                have hx3s : x3.size ≤ 1000 := by rw [hx3, ba_size]; show 3 + o.size ≤ 1000; omega
                have hx4s : x4.size ≤ 1000 := by rw [hx4, ba_size]; have := HSS.out; show 4 + s.size ≤ 1000; omega
                have hs3 : (⟨#[105, 112, 58]⟩ : ByteArray).size = 3 := rfl
                have hs4 : (⟨#[100, 110, 115, 58]⟩ : ByteArray).size = 4 := rfl
                have hbs : ¬ 9223372036854775807 < 3 + o.size := by omega
                have hbs2 : ¬ 9223372036854775807 < 4 + s.size := by have := HSS.out; omega
                clear hx3 hx4 hb
                go_wp2_with fail
                clear hx32 hx42 hs3 hs4 hbs hbs2
                obtain ⟨W0, hW0⟩ : ∃ W0, W0 = wp.alloc (.cells #[.string s, .string o, .string x3, .string x4] 9) := ⟨_, rfl⟩
                have hcells : ∀ k, k < 4 → ∃ x : ByteArray, x.size ≤ 1000 ∧ W0.cell? ⟨wp.heap.size, k, none⟩ = some (.string x) := fun k hk => by
                  rw [hW0, World.cell?_alloc_new]
                  match k, hk with
                  | 0, _ => exact ⟨_, by have := HSS.out; omega, rfl⟩
                  | 1, _ => exact ⟨_, by omega, rfl⟩
                  | 2, _ => exact ⟨_, by omega, rfl⟩
                  | 3, _ => exact ⟨_, by omega, rfl⟩
                have hb0 : Below w.heap.size w W0 := by rw [hW0]; exact HB.out.alloc HB.out.size _
                have hz0 : wp.heap.size < W0.heap.size := by rw [hW0]; simp
                obtain ⟨gp, hgp⟩ : ∃ g, wp.heap.size = g := ⟨_, rfl⟩
                rw [hgp] at hcells hz0
                rw [← hW0]
                try rw [hgp]
                have HC := hide hcells
                have HB0 := hide hb0
                clear hcells hb0 hW0 hgp
                go_loopw [91] (fun i wr => ∃ k : Nat, k ≤ 4 ∧ i = .int .i64 k ∧ Below W0.heap.size W0 wr) (fun i _ => 4 - (intOf i).toNat)
                case atStart => exact ⟨0, by omega, rfl, Below.refl _ _⟩
                case round =>
                  obtain ⟨k3, hk3, rfl, hb⟩ := hrel
                  obtain ⟨wi, rfl⟩ : ∃ wi : World, wi = wr := ⟨_, rfl⟩
                  have HBW := hide (HB0.out.trans (hb.mono HB0.out.size))
                  by_cases hlt3 : k3 < 4
                  · have hlt4 : (k3 : Int) < 4 := by omega
                    obtain ⟨x, hxs, hc⟩ := HC.out k3 hlt3
                    have hc' : wi.cell? ⟨gp, k3, none⟩ = some (.string x) := (hb.cell (p := ⟨gp, k3, none⟩) hz0).trans hc
                    obtain ⟨o, ho⟩ : ∃ o, parseG x.data.toList = o := ⟨_, rfl⟩
                    have DN := hide (fun W (hw : Below w.heap.size w W) => gParse_any x (by omega) W (HMX.out.below hw))
                    have RDN := hide (fun W (hw : Below w.heap.size w W) => rParseG_any x (by omega) W (HMX.out.below hw))
                    rw [ho] at DN RDN
                    have HBr := hide hb
                    clear hb hc ho
                    go_wp2_with fail
                    refine (DN.out _ HBW.out).mono ?_
                    rintro e w5 ⟨t5, A5, c5, rfl, ht5, hsl5, hb5, hmed5⟩
                    obtain ⟨kq, kb, tb, nb⟩ := o
                    simp only at ht5 hsl5 hmed5 ⊢
                    have HB5 := hide (HBW.out.trans (hb5.mono HBW.out.size))
                    have HB5r := hide (HBr.out.trans (hb5.mono HBr.out.size))
                    have hsl5 := (Sl.ok RRdn.ok).mono hsl5 (fun _ _ => rfl) (S' := Lt w5.heap.size) (fun _ hj => hj.2)
                    clear hb5 hc' hmed5
                    go_upto_region 21 with fail
                    obtain ⟨w6, hw6⟩ : ∃ W, W = w5.alloc (.cells #[.int .i64 kb, .string t5, .slice A5 nb.length c5] 26) := ⟨_, rfl⟩
                    have hb6 : Below w5.heap.size w5 w6 := by rw [hw6]; exact (Below.refl _ _).alloc (Nat.le_refl _) _
                    have hg6 : GB w5.heap.size kb t5 (.slice A5 nb.length c5) w6 := by rw [hw6]; exact heap_alloc_new w5 _
                    have hsl6 := (Sl.ok RRdn.ok).below hsl5 hb6
                    have HB6 := hide (HB5.out.trans (hb6.mono HB5.out.size))
                    have HB6r := hide (HB5r.out.trans (hb6.mono HB5r.out.size))
                    obtain ⟨g5, hg5⟩ : ∃ g, w5.heap.size = g := ⟨_, rfl⟩
                    rw [hg5] at hg6
                    rw [← hw6]
                    try rw [hg5]
                    have HG6 := hide hg6
                    have HS6 := hide hsl6
                    clear hsl5 hsl6 hb6 hw6 hg5 hg6
                    go_wp2_with fail
                    refine (RDN.out _ HB6.out).mono ?_
                    rintro e w7 ⟨t7, A7, c7, rfl, ht7, hsl7, hb7, hmed7⟩
                    simp only at ht7 hsl7 ⊢
                    have HB7 := hide (HB6.out.trans (hb7.mono HB6.out.size))
                    have HB7r := hide (HB6r.out.trans (hb7.mono HB6r.out.size))
                    have HG7 := hide (HG6.out.below hb7)
                    have HS7 := hide ((Sl.ok RRdn.ok).below HS6.out hb7)
                    have hsl7 := (Sl.ok RRdn.ok).mono hsl7 (fun _ _ => rfl) (S' := Lt w7.heap.size) (fun _ hj => hj.2)
                    clear hb7 hmed7
                    go_upto_region 22 with fail
                    obtain ⟨w8, hw8⟩ : ∃ W, W = w7.alloc (.cells #[.int .i64 kb, .string t7, .slice A7 nb.length c7] 26) := ⟨_, rfl⟩
                    have hb8 : Below w7.heap.size w7 w8 := by rw [hw8]; exact (Below.refl _ _).alloc (Nat.le_refl _) _
                    have hg8 : GB w7.heap.size kb t7 (.slice A7 nb.length c7) w8 := by rw [hw8]; exact heap_alloc_new w7 _
                    have HB8r := hide (HB7r.out.trans (hb8.mono HB7r.out.size))
                    have hs5 := (Sl.ok RRdn.ok).below HS7.out hb8
                    have hs7 := (Sl.ok RRdn.ok).below hsl7 hb8
                    obtain ⟨f0, f1, f2, -, -, -⟩ := (HG7.out.below hb8).facts
                    obtain ⟨g7, hg7⟩ : ∃ g, w7.heap.size = g := ⟨_, rfl⟩
                    rw [hg7] at hg8
                    obtain ⟨e0, e1, e2, -, -, -⟩ := hg8.facts
                    rw [← hw8]
                    try rw [hg7]
                    clear hw8 hg7 hsl7
                    obtain ⟨w9, hw9⟩ : ∃ W, W = w8.alloc (.cells #[.int .i64 kb, .string t5, .slice A5 nb.length c5] 26) := ⟨_, rfl⟩
                    have hb9 : Below w8.heap.size w8 w9 := by rw [hw9]; exact (Below.refl _ _).alloc (Nat.le_refl _) _
                    have hq1 := one_gen9 (g := ((kb, tb, nb) : Gen)) (T := 26) ht5 hs5 (fun _ h => h)
                    rw [← hw9] at hq1
                    have hz9 : w9.heap.size = w8.heap.size + 1 := by rw [hw9]; simp
                    obtain ⟨w10, hw10⟩ : ∃ W, W = w9.alloc (.cells #[.int .i64 kb, .string t7, .slice A7 nb.length c7] 26) := ⟨_, rfl⟩
                    have hb10 : Below w9.heap.size w9 w10 := by rw [hw10]; exact (Below.refl _ _).alloc (Nat.le_refl _) _
                    have hq2 := one_gen9 (g := ((kb, tb, nb) : Gen)) (T := 26) ht7 ((Sl.ok RRdn.ok).below hs7 hb9) (fun _ h => h)
                    rw [← hw10, hz9] at hq2
                    have e0' := cell_grows hb9 _ _ e0
                    have e1' := cell_grows hb9 _ _ e1
                    have e2' := cell_grows hb9 _ _ e2
                    rw [hw9] at e0' e1' e2'
                    have EX := hide (show Calls Tryz.prog 13 #[.slice (some ⟨w8.heap.size, 0, none⟩) 1 1, .slice (some ⟨w8.heap.size + 1, 0, none⟩) 1 1] w10 (fun e w' => e = .returned (.bool true) ∧ Below w10.heap.size w10 w') from ExactGs_same [((kb, tb, nb) : Gen)] (some ⟨w8.heap.size, 0, none⟩) (some ⟨w8.heap.size + 1, 0, none⟩) 1 1 w10 ((Sl.ok RGen.ok).below hq1 hb10) hq2)
                    have HB10 := hide (HB8r.out.trans ((hb9.trans (hb10.mono hb9.size)).mono HB8r.out.size))
                    have HW9 := hide hw9
                    have HW10 := hide hw10
                    have s3 : (kq != kq) = false := by simp
                    clear hq1 hq2 hs5 hs7 hb8 hg8 hb9 hb10 hz9 hw9 hw10 ht5 ht7
                    rw [HW10.out, HW9.out] at EX
                    go_wp2_with fail
                    refine EX.out.mono ?_
                    rintro e wn ⟨rfl, hbn⟩
                    rw [← HW9.out, ← HW10.out] at hbn
                    have HBN := hide (HB10.out.trans (hbn.mono HB10.out.size))
                    clear hbn f0 f1 f2 e0 e1 e2 e0' e1' e2'
                    go_wp2_with fail
                    go_roundw
                    case rel => exact ⟨k3 + 1, by omega, by go_num, HBN.out⟩
                    case measure => simp [intOf]; omega
                  · clear hb
                    go_wp2_with fail
                    refine (awake9_any _ (HMX.out.below HBW.out)).mono ?_
                    rintro e wz ⟨rfl, hbz⟩
                    go_wp2_with fail
                    go_ret
                    exact ⟨rfl, HBW.out.trans (hbz.mono HBW.out.size)⟩
end Go.Proofs.YtmgnihmjjijdoaaGreatDoor
