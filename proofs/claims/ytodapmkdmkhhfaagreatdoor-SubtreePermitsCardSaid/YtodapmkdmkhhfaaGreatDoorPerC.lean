/- The law SubtreePermits, its walk. -/
import Derived.Test.YtodapmkdmkhhfaaGreatDoorPerB
import Derived.Test.YtodapmkdmkhhfaaGreatDoorRef3
namespace Go.Proofs.YtodapmkdmkhhfaaGreatDoor
open Go.RowKit

theorem one_gen' {w : World} {S : Nat → Prop} {g : Gen} {t : ByteArray} {A : Option Addr} {c : Nat} {T : TypeId} (ht : t.data.toList = g.2.1) (h1 : Sl RRdn 1 w S g.2.2 [.slice A g.2.2.length c]) (hS : ∀ k, S k → k < w.heap.size) :
    Sl RGen 3 (w.alloc (.cells #[.int .i64 g.1, .string t, .slice A g.2.2.length c] T)) (Lt (w.alloc (.cells #[.int .i64 g.1, .string t, .slice A g.2.2.length c] T)).heap.size) [g] [.slice (some ⟨w.heap.size, 0, none⟩) [g].length 1] := by
  refine ⟨_, _, rfl, Nat.le_refl _, by simp [maxLen], fun _ => ⟨w.heap.size, 0, rfl, by show w.heap.size < _; simp, fun i x hx => ?_⟩⟩
  match i, hx with
  | 0, hx =>
    simp at hx; subst hx
    refine ⟨[.int .i64 g.1, .string t, .slice A g.2.2.length c], ⟨_, by rw [← ht], (Sl.ok RRdn.ok).mono h1 (fun k hk => Below.heap_alloc _ _ k (hS k hk)) (fun k hk => by show k < _; have := hS k hk; simp; omega)⟩, fun j u hu => ?_⟩
    rw [World.cell?_alloc_new]
    match j, hu with
    | 0, hu => simpa using hu
    | 1, hu => simpa using hu
    | 2, hu => simpa using hu

set_option maxRecDepth 100000 in
set_option maxHeartbeats 16000000 in
theorem SubtreePermits_any (raw : List Sub) (p x : List Gen) (g : Gen) (t : ByteArray) (l : List Int) (A1 B1 B2 A A0 : Option Addr) (c1 d1 d2 c n0 c0 : Nat) (ht : t.data.toList = g.2.1) (w : World) (hmx : Mx w) (h1 : Sl RSub 2 w (Lt w.heap.size) raw [.slice A1 raw.length c1])
    (h2 : Sl RGen 3 w (Lt w.heap.size) p [.slice B1 p.length d1]) (h3 : Sl RGen 3 w (Lt w.heap.size) x [.slice B2 x.length d2]) (h4 : Sl RRdn 1 w (Lt w.heap.size) g.2.2 [.slice A g.2.2.length c]) (h : Sl RInt 1 w (Lt w.heap.size) l [.slice A0 n0 c0]) :
    Calls Tryz.prog 3 #[.agg #[.slice A1 raw.length c1], .agg #[.slice B1 p.length d1, .slice B2 x.length d2], .agg #[.int .i64 g.1, .string t, .slice A g.2.2.length c], .slice A0 n0 c0] w fun e w' => e = .returned (.bool true) ∧ Below w.heap.size w w' := by
  have HMX := hide hmx
  have K0 := hide h
  have K1 := hide h1
  have K2 := hide h2
  have K3 := hide h3
  have K4 := hide h4
  have HT := hide ht
  obtain ⟨wa, hwa⟩ : ∃ wa, wa = ((w.alloc (.cells #[.slice A1 raw.length c1] 24)).alloc (.cells #[.slice B1 p.length d1, .slice B2 x.length d2] 27)).alloc (.cells #[.int .i64 g.1, .string t, .slice A g.2.2.length c] 32) := ⟨_, rfl⟩
  have hz1 : (w.alloc (.cells #[.slice A1 raw.length c1] 24)).heap.size = w.heap.size + 1 := by simp
  have hz2 : ((w.alloc (.cells #[.slice A1 raw.length c1] 24)).alloc (.cells #[.slice B1 p.length d1, .slice B2 x.length d2] 27)).heap.size = w.heap.size + 2 := by simp
  have htb : TB w.heap.size (.slice A1 raw.length c1) wa := by
    unfold TB
    rw [hwa, Below.heap_alloc _ _ _ (by simp <;> omega), Below.heap_alloc _ _ _ (by simp <;> omega)]
    exact heap_alloc_new w _
  have hsb : SB (w.heap.size + 1) (.slice B1 p.length d1) (.slice B2 x.length d2) wa := by
    unfold SB
    rw [hwa, Below.heap_alloc _ _ _ (by simp <;> omega), ← hz1]
    exact heap_alloc_new _ _
  have hgb : GB (w.heap.size + 2) g.1 t (.slice A g.2.2.length c) wa := by
    unfold GB
    rw [hwa, ← hz2]
    exact heap_alloc_new _ _
  have hba : Below w.heap.size w wa := by rw [hwa]; exact (((Below.refl _ _).alloc (Nat.le_refl _) _).alloc (by simp) _).alloc (by simp; omega) _
  have hza : wa.heap.size = w.heap.size + 3 := by rw [hwa]; simp
  obtain ⟨g4, hg4⟩ : ∃ g, g = w.heap.size := ⟨_, rfl⟩
  obtain ⟨g5, hg5⟩ : ∃ g, g = w.heap.size + 1 := ⟨_, rfl⟩
  obtain ⟨g6, hg6⟩ : ∃ g, g = w.heap.size + 2 := ⟨_, rfl⟩
  rw [← hg4] at htb
  rw [← hg5] at hsb
  rw [← hg6] at hgb
  have h4a : g4 < wa.heap.size := by omega
  have h5a : g5 < wa.heap.size := by omega
  have h6a : g6 < wa.heap.size := by omega
  obtain ⟨x0, -⟩ := htb.facts
  obtain ⟨z0, z1, -⟩ := hsb.facts
  have HTB := hide htb
  have HSB := hide hsb
  have HGB := hide hgb
  have HBA := hide hba
  have HWA := hide hwa
  have HG4 := hide hg4
  have HG5 := hide hg5
  have HG6 := hide hg6
  obtain ⟨p1, hp1⟩ : ∃ q, shortS (p, x) = q := ⟨_, rfl⟩
  obtain ⟨p3, hp3⟩ : ∃ q, shortGs [g] = q := ⟨_, rfl⟩
  have HP1 := hide hp1
  have HP3 := hide hp3
  have hrm := h1.len_.2
  obtain ⟨hrm1, hrm2⟩ := hrm
  unfold maxLen at hrm2
  clear hmx h h1 h2 h3 h4 ht hwa hz1 hz2 htb hsb hgb hba hza hg4 hg5 hg6 hp1 hp3
  go_enter Tryz.func3, Tryz.ntmps3
  go_upto_region 1 with (fail)
  rw [← HWA.out, ← HG6.out, ← HG5.out, ← HG4.out]
  by_cases h6 : 6 < raw.length
  · have h6' : (6 : Int) < (raw.length : Int) := by omega
    go_wp2_with fail
    refine (sawake_any _ (HMX.out.below HBA.out)).mono ?_
    rintro e wz ⟨rfl, hbz⟩
    go_wp2_with fail
    go_ret
    exact ⟨rfl, HBA.out.trans (hbz.mono HBA.out.size)⟩
  · have h6' : ¬ (6 : Int) < (raw.length : Int) := by omega
    go_wp2_with fail
    refine (short_any p x B1 B2 d1 d2 p1 HP1.out _ ((Sl.ok RGen.ok).below K2.out HBA.out) ((Sl.ok RGen.ok).below K3.out HBA.out)).mono ?_
    rintro e w1 ⟨rfl, hb1⟩
    have HB1 := hide (HBA.out.trans (hb1.mono HBA.out.size))
    have HC1 := hide hb1
    clear hb1 x0 z0 z1
    cases p1
    · go_wp2_with fail
      refine (sawake_any _ (HMX.out.below HB1.out)).mono ?_
      rintro e wz ⟨rfl, hbz⟩
      go_wp2_with fail
      go_ret
      exact ⟨rfl, HB1.out.trans (hbz.mono HB1.out.size)⟩
    · obtain ⟨k0, k1, k2, -, -, -⟩ := (HGB.out.below HC1.out).facts
      have HONE := hide (one_gen' (T := 32) HT.out ((Sl.ok RRdn.ok).below K4.out HB1.out) (fun k hk => hk))
      have hb23 : Below w1.heap.size w1 (w1.alloc (.cells #[.int .i64 g.1, .string t, .slice A g.2.2.length c] 32)) := (Below.refl _ _).alloc (Nat.le_refl _) _
      have HB3 := hide (HB1.out.trans (hb23.mono HB1.out.size))
      have HC3 := hide (HC1.out.trans (hb23.mono HC1.out.size))
      have SN := hide (show Calls Tryz.prog 9 #[.slice (some ⟨w1.heap.size, 0, none⟩) 1 1] (w1.alloc (.cells #[.int .i64 g.1, .string t, .slice A g.2.2.length c] 32)) _ from ShortNames_any [g] (some ⟨w1.heap.size, 0, none⟩) 1 p3 HP3.out _ HONE.out)
      clear hb23
      go_wp2_with fail
      refine SN.out.mono ?_
      rintro e w4 ⟨rfl, hb4⟩
      have HB4 := hide (HB3.out.trans (hb4.mono HB3.out.size))
      have HC4 := hide (HC3.out.trans (hb4.mono HC3.out.size))
      clear hb4 k0 k1 k2 SN HONE
      cases p3
      · go_wp2_with fail
        refine (sawake_any _ (HMX.out.below HB4.out)).mono ?_
        rintro e wz ⟨rfl, hbz⟩
        go_wp2_with fail
        go_ret
        exact ⟨rfl, HB4.out.trans (hbz.mono HB4.out.size)⟩
      · have HSC := hide (shortS_small HP1.out)
        have HCC := hide (shortS_cp HP1.out)
        have HSG := hide (show SmallG g from shortGs_small HP3.out g (by simp))
        obtain ⟨x0, -⟩ := (HTB.out.base HC4.out h4a).facts
        go_wp2_with fail
        clear x0
        go_loopw [39] (fun i wr => ∃ k : Nat, k ≤ raw.length ∧ i = .int .i64 k ∧ Below w4.heap.size w4 wr ∧ Hid (∀ s ∈ raw.take k, shortS s = true)) (fun i _ => raw.length - (intOf i).toNat)
        case atStart => exact ⟨0, Nat.zero_le _, rfl, Below.refl _ _, fun s hs => by simp at hs⟩
        case round =>
          obtain ⟨k, hk, rfl, hb, H⟩ := hrel
          have hbw := HB4.out.trans (hb.mono HB4.out.size)
          by_cases hlt : k < raw.length
          · obtain ⟨b2, o2, P1, e1, X1, e2, hA, hbS, y0, y1, hp, hx⟩ := K1.out.subAt hlt
            subst hA
            have hbS' : b2 < w.heap.size := hbS
            obtain ⟨pp, hpp⟩ : ∃ q, raw[k].1 = q := ⟨_, rfl⟩
            obtain ⟨xx, hxx⟩ : ∃ q, raw[k].2 = q := ⟨_, rfl⟩
            have hre : raw[k] = (pp, xx) := by rw [← hpp, ← hxx]
            rw [hpp] at y0 hp
            rw [hxx] at y1 hx
            have f0 := (hbw.cell (p := ⟨b2, o2 + k * 2, none⟩) hbS').trans y0
            have f1 := (hbw.cell (p := ⟨b2, o2 + k * 2 + 1, none⟩) hbS').trans y1
            obtain ⟨q, hq⟩ : ∃ q, shortS (pp, xx) = q := ⟨_, rfl⟩
            have HQ := hide hq
            have hbc : Below wr.heap.size wr (wr.alloc (.cells #[.slice P1 pp.length e1, .slice X1 xx.length e2] 27)) := (Below.refl _ _).alloc (Nat.le_refl _) _
            have HBC := hide (hb.trans (hbc.mono hb.size))
            have SH := hide (short_any pp xx P1 X1 e1 e2 q hq _ ((Sl.ok RGen.ok).below hp (hbw.trans (hbc.mono hbw.size))) ((Sl.ok RGen.ok).below hx (hbw.trans (hbc.mono hbw.size))))
            have HT2 := hide (show raw.take (k + 1) = raw.take k ++ [(pp, xx)] by rw [← hre]; exact List.take_succ_eq_append_getElem hlt)
            have HLT := hide hlt
            clear y0 y1 hp hx hpp hxx hre hq hbc hb hbw
            go_wp2_with fail
            refine SH.out.mono ?_
            rintro e w5 ⟨rfl, hb5⟩
            have HB5 := hide (HBC.out.trans (hb5.mono HBC.out.size))
            have HB6 := hide (HB4.out.trans (HB5.out.mono HB4.out.size))
            clear hb5 f0 f1
            cases q
            · go_wp2_with fail
              refine (sawake_any _ (HMX.out.below HB6.out)).mono ?_
              rintro e wz ⟨rfl, hbz⟩
              go_wp2_with fail
              go_ret
              exact ⟨rfl, HB6.out.trans (hbz.mono HB6.out.size)⟩
            · have HN := hide (show ∀ s ∈ raw.take (k + 1), shortS s = true from fun s hs => by
                rw [HT2.out, List.mem_append] at hs
                rcases hs with hs | hs
                · exact H.out s hs
                · rw [List.mem_singleton.1 hs]; exact HQ.out)
              go_wp2_with fail
              go_roundw
              case rel => exact ⟨k + 1, HLT.out, by go_num, HB5.out, HN⟩
              case measure => (have := HLT.out; simp [intOf]; omega)
          · have hall : ∀ s ∈ raw, shortS s = true := fun s hs => H.out s (by rw [List.take_of_length_le (by omega)]; exact hs)
            have HRS := hide (show SmallS raw from fun s hs => shortS_small (hall s hs))
            have HRC := hide (show ∀ s ∈ raw, CpS s from fun s hs => shortS_cp (hall s hs))
            have HBW := hide hbw
            have HCW := hide (HC4.out.trans (hb.mono HC4.out.size))
            clear hall H hb hbw
            have NW := hide (New_any l A0 n0 c0 wr ((Sl.ok RInt.ok).below K0.out HBW.out))
            go_wp2_with fail
            refine NW.out.mono ?_
            rintro e w3 ⟨rfl, hdk3, hb3⟩
            obtain ⟨d, hd⟩ : ∃ d, d = wr.heap.size := ⟨_, rfl⟩
            rw [← hd] at hdk3 ⊢
            have h4d : g4 < d := by have := HCW.out.size; omega
            have h5d : g5 < d := by have := HCW.out.size; omega
            have h6d : g6 < d := by have := HCW.out.size; omega
            have hwd : w.heap.size ≤ d := by rw [hd]; exact HBW.out.size
            have HB3' := hide (HBW.out.trans (hb3.mono HBW.out.size))
            have HC3' := hide (HCW.out.trans (hb3.mono HCW.out.size))
            have HDK3 := hide hdk3
            have hdw3 := hdk3.lt
            clear hb3 hdk3 hd NW
            go_wp2_with fail
            refine (state_any d _ HDK3.out).mono ?_
            rintro e w6 ⟨st, As, cs, hgst, rfl, hsl6, hdk6, hex6⟩
            have hs6 := hex6.size
            have hst4 : st.length ≤ 4 := hgst.1
            obtain ⟨w5, hw5⟩ : ∃ w5, w5 = w6.alloc (.cells #[.slice As st.length cs] 24) := ⟨_, rfl⟩
            obtain ⟨g12, hg12⟩ : ∃ g, g = w6.heap.size := ⟨_, rfl⟩
            have ht12 : TB g12 (.slice As st.length cs) w5 := by rw [hw5, hg12]; exact heap_alloc_new w6 _
            have hex5 : Ex d w3 w5 := by rw [hw5]; exact hex6.alloc _
            have ht4 : TB g4 (.slice A1 raw.length c1) w5 := (hex5.at_ (by omega) (by omega)).trans (HTB.out.base HC3'.out h4a)
            have hs5 : w5.heap.size = w6.heap.size + 1 := by rw [hw5]; simp
            obtain ⟨wD, hwD⟩ : ∃ wD, wD = w5.alloc (.cells #[.slice A1 raw.length c1, .slice As st.length cs] 24) := ⟨_, rfl⟩
            obtain ⟨gA, hgA⟩ : ∃ g, g = w5.heap.size := ⟨_, rfl⟩
            have hsD : wD.heap.size = w5.heap.size + 1 := by rw [hwD]; simp
            have hexD : Ex d w3 wD := by rw [hwD]; exact hex5.alloc _
            have hbD : Below w.heap.size w wD := Ex.below HB3'.out HB3'.out.size hwd hexD
            have hA0 : wD.cell? ⟨gA, 0, none⟩ = some (.slice A1 raw.length c1) := by rw [hwD, hgA, World.cell?_alloc_new]; rfl
            have hA1 : wD.cell? ⟨gA, 1, none⟩ = some (.slice As st.length cs) := by rw [hwD, hgA, World.cell?_alloc_new]; rfl
            have hraw : Sl RSub 2 wD (Nd d wD.heap.size) raw [.slice A1 raw.length c1] := (Sl.ok RSub.ok).mono K1.out (fun k hk => hbD.block k hk) (fun k hk => ⟨Nat.lt_of_lt_of_le hk hbD.size, by have hk' : k < w.heap.size := hk; omega⟩)
            have hst : Sl RSub 2 wD (Nd d wD.heap.size) st [.slice As st.length cs] := (Sl.ok RSub.ok).mono hsl6 (fun k hk => by rw [hwD, Below.heap_alloc _ _ _ (by have := hk.2; omega), hw5, Below.heap_alloc _ _ _ hk.2]) (fun k hk => ⟨by have := hk.2; omega, by have := hk.1; omega⟩)
            have HEL := hide (show ∀ k, k < 2 → ∃ (xs : List Sub) (Ax : Option Addr) (cx : Nat), wD.cell? ⟨gA, k, none⟩ = some (.slice Ax xs.length cx) ∧ Sl RSub 2 wD (Nd d wD.heap.size) xs [.slice Ax xs.length cx] ∧ SmallS xs ∧ (∀ s ∈ xs, CpS s) ∧ xs.length ≤ 6 from fun k hk => by
              match k, hk with
              | 0, _ => exact ⟨raw, A1, c1, hA0, hraw, HRS.out, HRC.out, by omega⟩
              | 1, _ => exact ⟨st, As, cs, hA1, hst, hgst.small, hgst.cp, by omega⟩)
            have HDKD := hide (show DeckAt wD d by rw [hwD, hw5]; exact (hdk6.alloc _).alloc _)
            have HEXD := hide hexD
            have HBD := hide hbD
            have hS5 : SB g5 (.slice B1 p.length d1) (.slice B2 x.length d2) wD := (hexD.at_ (by omega) (by omega)).trans (HSB.out.base HC3'.out h5a)
            have hG6 : GB g6 g.1 t (.slice A g.2.2.length c) wD := (hexD.at_ (by omega) (by omega)).trans ((HGB.out.below HC3'.out))
            have HS5 := hide hS5
            have HG6D := hide hG6
            obtain ⟨x4, -⟩ := ht4.facts
            obtain ⟨x12, -⟩ := ht12.facts
            have h5D : g5 < wD.heap.size := by omega
            have h6D : g6 < wD.heap.size := by omega
            have hgAd : d < gA := by omega
            have hgAD : gA < wD.heap.size := by omega
            have hdD : d < wD.heap.size := by omega
            have HW5 := hide hw5
            have HG12 := hide hg12
            have HWD := hide hwD
            have HGA := hide hgA
            clear hgst hsl6 hdk6 hex6 hs6 hw5 hg12 ht12 hex5 ht4 hs5 hwD hgA hsD hexD hbD hA0 hA1 hraw hst hS5 hG6 HRS HRC
            go_upto_region 11 with (fail)
            rw [← HW5.out, ← HG12.out]
            go_wp2_with fail
            rw [← HWD.out, ← HGA.out]
            clear x4 x12
            go_loopw [56] (fun i wr => ∃ k : Nat, k ≤ 2 ∧ i = .int .i64 k ∧ Ex d wD wr ∧ DeckAt wr d) (fun i _ => 2 - (intOf i).toNat)
            case atStart => exact ⟨0, Nat.zero_le _, rfl, Ex.refl _ _, HDKD.out⟩
            case round =>
              obtain ⟨k, hk, rfl, hex, hdk⟩ := hrel
              by_cases hk2 : k < 2
              · have hk2' : (k : Int) < 2 := by omega
                have hk0 : (0 : Int) ≤ (k : Int) := by omega
                obtain ⟨xs, Ax, cx, hAx, hxs, hsxs, hcxs, hlxs⟩ := HEL.out k hk2
                have z0 := (hex.cell (p := ⟨gA, k, none⟩) hgAD (by show gA ≠ d; omega)).trans hAx
                obtain ⟨wE, hwE⟩ : ∃ wE, wE = wr.alloc (.cells #[.slice Ax xs.length cx] 24) := ⟨_, rfl⟩
                obtain ⟨g14, hg14⟩ : ∃ g, g = wr.heap.size := ⟨_, rfl⟩
                have ht14 : TB g14 (.slice Ax xs.length cx) wE := by rw [hwE, hg14]; exact heap_alloc_new wr _
                have hexE : Ex d wD wE := by rw [hwE]; exact hex.alloc _
                have hdkE : DeckAt wE d := by rw [hwE]; exact hdk.alloc _
                have hzr := hex.size
                have h14E : g14 < wE.heap.size := by rw [hwE, hg14]; simp
                have hd14 : d ≠ g14 := by have := hdk.lt; omega
                have HT14 := hide ht14
                have HEXE := hide hexE
                have HDKE := hide hdkE
                have HXS := hide hxs
                have HSXS := hide hsxs
                have HCXS := hide hcxs
                obtain ⟨y0, y1, -, -⟩ := (show SB g5 (.slice B1 p.length d1) (.slice B2 x.length d2) wE from (hexE.at_ h5D (by omega)).trans HS5.out).facts
                have y0d : wE.drew.cell? ⟨g5, 0, none⟩ = some (.slice B1 p.length d1) := y0
                have y1d : wE.drew.cell? ⟨g5, 1, none⟩ = some (.slice B2 x.length d2) := y1
                have hdkEd : DeckAt wE.drew d := hdkE.drewN 1
                have h5E : g5 < wE.drew.heap.size := by show g5 < wE.heap.size; have := hexE.size; omega
                have hg5d : g5 ≠ d := by omega
                have HWE := hide hwE
                have HG14 := hide hg14
                clear hAx hxs hsxs hcxs hwE hg14 ht14 hexE hdkE hex hdk hzr
                go_upto_region 14 with (fail)
                rw [← HWE.out, ← HG14.out]
                clear z0
                go_region_held3 (fun W => W.cell? ⟨g5, 0, none⟩ = some (.slice B1 p.length d1) ∧ W.cell? ⟨g5, 1, none⟩ = some (.slice B2 x.length d2))
                  (first | exact ⟨ha1 _, ha2 _⟩ | exact ⟨hs1, hs2⟩ | exact ⟨y0, y1⟩ | exact ⟨y0d, y1d⟩)
                  (first
                    | (go_at_call 13; refine (Subtrees_any d wE.drew hdkEd).mono ?_; rintro e w7 ⟨p2, x2, A3, A4, c3, c4, hgs7, rfl, hslp7, hslx7, hdk7, hex7⟩; have hs1 := (hex7.cell (p := ⟨g5, 0, none⟩) h5E hg5d).trans y0d; have hs2 := (hex7.cell (p := ⟨g5, 1, none⟩) h5E hg5d).trans y1d; have hz6 := World.block_lt_of_cell? w7 ⟨g5, 0, none⟩ hs1; have ha1 := fun ob => (World.cell?_alloc_lt w7 ob ⟨g5, 0, none⟩ hz6).trans hs1; have ha2 := fun ob => (World.cell?_alloc_lt w7 ob ⟨g5, 1, none⟩ hz6).trans hs2)
                    | fail)
                have hdE := HDKE.out.lt
                have hexr : Ex d wE w7 := (Ex.refl d wE).drew.trans hex7
                have hexD7 : Ex d wD w7 := HEXE.out.trans hexr
                have hbw7 : Below w.heap.size w w7 := Ex.below HBD.out HBD.out.size hwd hexD7
                have hz7 : wE.drew.heap.size ≤ w7.heap.size := hex7.size
                have hzE : wE.drew.heap.size = wE.heap.size := rfl
                have hk1 : Sl RGen 3 w7 (Nd d w7.heap.size) p [.slice B1 p.length d1] := (Sl.ok RGen.ok).mono K2.out (fun k hk => hbw7.block k hk) (fun k hk => ⟨Nat.lt_of_lt_of_le hk hbw7.size, by have hk' : k < w.heap.size := hk; omega⟩)
                have hk2x : Sl RGen 3 w7 (Nd d w7.heap.size) x [.slice B2 x.length d2] := (Sl.ok RGen.ok).mono K3.out (fun k hk => hbw7.block k hk) (fun k hk => ⟨Nat.lt_of_lt_of_le hk hbw7.size, by have hk' : k < w.heap.size := hk; omega⟩)
                have hk3 : Sl RGen 3 w7 (Nd d w7.heap.size) p2 [.slice A3 p2.length c3] := (Sl.ok RGen.ok).mono hslp7 (fun _ _ => rfl) (fun k hk => ⟨hk.2, by have := hk.1; omega⟩)
                have hk4 : Sl RGen 3 w7 (Nd d w7.heap.size) x2 [.slice A4 x2.length c4] := (Sl.ok RGen.ok).mono hslx7 (fun _ _ => rfl) (fun k hk => ⟨hk.2, by have := hk.1; omega⟩)
                have htwo := two_subs (s1 := (p, x)) (s2 := (p2, x2)) (T := 27) hk1 hk2x hk3 hk4 (fun k hk => hk.1)
                obtain ⟨wF, hwF⟩ : ∃ wF, wF = w7.alloc (.cells #[.slice B1 p.length d1, .slice B2 x.length d2, .slice A3 p2.length c3, .slice A4 x2.length c4] 27) := ⟨_, rfl⟩
                obtain ⟨gS, hgS⟩ : ∃ g, g = w7.heap.size := ⟨_, rfl⟩
                have htwo' : Sl RSub 2 wF (fun k => Nd d w7.heap.size k ∨ k = gS) [(p, x), (p2, x2)] [.slice (some ⟨gS, 0, none⟩) 2 2] := by rw [hwF, hgS]; exact htwo
                have hzF : wF.heap.size = w7.heap.size + 1 := by rw [hwF]; simp
                have H2 := hide (show Sl RSub 2 wF (Nd d wF.heap.size) [(p, x), (p2, x2)] [.slice (some ⟨gS, 0, none⟩) ([(p, x), (p2, x2)] : List Sub).length 2] from (Sl.ok RSub.ok).mono htwo' (fun _ _ => rfl) (fun k hk => by
                  rcases hk with hk | hk
                  · exact ⟨by have := hk.1; omega, hk.2⟩
                  · exact ⟨by omega, by omega⟩))
                have hexF : Ex d wE wF := by rw [hwF]; exact hexr.alloc _
                have HEXF := hide (show Ex d wD wF from HEXE.out.trans hexF)
                have HDKF := hide (show DeckAt wF d by rw [hwF]; exact hdk7.alloc _)
                have HT14F := hide (show TB g14 (.slice Ax xs.length cx) wF from (hexF.at_ h14E (Ne.symm hd14)).trans HT14.out)
                have HXSF := hide (show Sl RSub 2 wF (Nd d wF.heap.size) xs [.slice Ax xs.length cx] from (Sl.ok RSub.ok).ex HXS.out HEXF.out)
                have HC2 := hide (show ∀ s ∈ ([(p, x), (p2, x2)] : List Sub), CpS s from fun s hs => by
                  simp only [List.mem_cons, List.not_mem_nil, or_false] at hs
                  rcases hs with rfl | rfl
                  · exact HCC.out
                  · exact hgs7.cp)
                have HBF := hide (show Below w.heap.size w wF from Ex.below HBD.out HBD.out.size hwd HEXF.out)
                have h14F : g14 < wF.heap.size := by have := hexF.size; omega
                have hdF : d < wF.heap.size := by have := hexF.size; omega
                have HGS := hide hgS
                have HWF := hide hwF
                clear hs1 hs2 hz6 ha1 ha2 hgs7 hslp7 hslx7 hdk7 hex7 hexr hexD7 hbw7 hz7 hzE hk1 hk2x hk3 hk4 htwo htwo' hwF hgS hzF hexF y0 y1 y0d y1d hdkEd h5E
                try rw [← HWF.out]
                try rw [← HGS.out]
                go_wp2_with fail
                go_loopw [65] (fun i wi => ∃ j : Nat, j ≤ 2 ∧ i = .int .i64 j ∧ Below wF.heap.size wF wi) (fun i _ => 2 - (intOf i).toNat)
                case atStart => exact ⟨0, Nat.zero_le _, rfl, Below.refl _ _⟩
                case round =>
                  obtain ⟨j, hj, rfl, hb⟩ := hrel
                  obtain ⟨wi, rfl⟩ : ∃ wi : World, wi = wr := ⟨_, rfl⟩
                  by_cases hj2 : j < 2
                  · have hj2' : (j : Int) < 2 := by omega
                    have hj0 : (0 : Int) ≤ (j : Int) := by omega
                    obtain ⟨bX, oX, P1, e1, X1, e2, hAX, hbX, q0, q1, hsp, hsx⟩ := H2.out.subAt (show j < ([(p, x), (p2, x2)] : List Sub).length from hj2)
                    simp only [Option.some.injEq, Addr.mk.injEq, and_true] at hAX
                    obtain ⟨rfl, rfl⟩ := hAX
                    have hcs := HC2.out _ (List.getElem_mem (show j < ([(p, x), (p2, x2)] : List Sub).length from hj2))
                    obtain ⟨pp, hpp⟩ : ∃ q, (([(p, x), (p2, x2)] : List Sub)[j]'hj2).1 = q := ⟨_, rfl⟩
                    obtain ⟨xx, hxx⟩ : ∃ q, (([(p, x), (p2, x2)] : List Sub)[j]'hj2).2 = q := ⟨_, rfl⟩
                    have hcpx : CpS (pp, xx) := by rw [← hpp, ← hxx]; exact hcs
                    rw [hpp] at q0 hsp
                    rw [hxx] at q1 hsx
                    rw [Nat.zero_add] at q0 q1
                    have hbX' : gS < wF.heap.size := hbX.1
                    have z0 := (hb.cell (p := ⟨gS, j * 2, none⟩) hbX').trans q0
                    have z1 := (hb.cell (p := ⟨gS, j * 2 + 1, none⟩) hbX').trans q1
                    obtain ⟨wG, hwG⟩ : ∃ wG, wG = wi.alloc (.cells #[.slice P1 pp.length e1, .slice X1 xx.length e2] 27) := ⟨_, rfl⟩
                    obtain ⟨g16, hg16⟩ : ∃ g, g = wi.heap.size := ⟨_, rfl⟩
                    have hs16 : SB g16 (.slice P1 pp.length e1) (.slice X1 xx.length e2) wG := by rw [hwG, hg16]; exact heap_alloc_new wi _
                    have hbG : Below wF.heap.size wF wG := by rw [hwG]; exact hb.alloc hb.size _
                    have ht14 : TB g14 (.slice Ax xs.length cx) wG := (hbG.block g14 h14F).trans HT14F.out
                    have h14G : g14 < wG.heap.size := ht14.lt
                    have h16G : g16 < wG.heap.size := hs16.lt
                    have hXG : Sl RSub 2 wG (Lt wG.heap.size) xs [.slice Ax xs.length cx] := (Sl.ok RSub.ok).below ((Sl.ok RSub.ok).lt HXSF.out) hbG
                    have hPG : Sl RGen 3 wG (Lt wG.heap.size) pp [.slice P1 pp.length e1] := (Sl.ok RGen.ok).below ((Sl.ok RGen.ok).lt hsp) hbG
                    have hXXG : Sl RGen 3 wG (Lt wG.heap.size) xx [.slice X1 xx.length e2] := (Sl.ok RGen.ok).below ((Sl.ok RGen.ok).lt hsx) hbG
                    have HXG := hide hXG
                    have HPG := hide hPG
                    have HXXG := hide hXXG
                    have HBG := hide hbG
                    have HT14G := hide ht14
                    have HS16 := hide hs16
                    have HCPX := hide hcpx
                    obtain ⟨m14, -⟩ := ht14.facts
                    obtain ⟨m16, n16, -, -⟩ := hs16.facts
                    have HWG := hide hwG
                    have HG16 := hide hg16
                    clear hcs hcpx hpp hxx q0 q1 hsp hsx hbX hbX' hb hwG hg16 hs16 hbG ht14 hXG hPG hXXG
                    go_upto_region 17 with (fail)
                    rw [← HWG.out, ← HG16.out]
                    clear z0 z1
                    refine region_inv [69, 70, 71, 72, 73, 74, 75, 17] (PJ xs Ax cx (pp, xx) (.slice P1 pp.length e1) (.slice X1 xx.length e2) g14 wG) (by kernel_rfl) (by kernel_rfl) (fun val => PJ.start val) ⟨?_, ?_, ?_, ?_, ?_, ?_, ?_, ?_, ?_, trivial⟩ ?_
                    · refine ⟨fun s hs => by cases hs <;> decide, ?_⟩
                      rintro dd val W hJ hd hdep K hK
                      rw [if_pos (by rfl)]
                      dsimp only [putF, List.foldl, Act.put] at hK ⊢
                      simp only [List.setIfInBounds_toArray, List.set_cons_zero, List.set_cons_succ] at hK ⊢
                      go_simp
                      exact hK.out _ _ { base := hJ.base, p0 := fun _ => rfl, l1 := hJ.l1, o2 := hJ.o2, l3 := hJ.l3, b4 := hJ.b4, o5 := hJ.o5, m6 := hJ.m6, a7 := hJ.a7, q6 := hJ.q6, q8 := hJ.q8 }
                    · refine ⟨fun s hs => by cases hs <;> decide, ?_⟩
                      rintro dd val W hJ hd hdep K hK
                      rw [if_pos (by rfl)]
                      dsimp only [putF, List.foldl, Act.put] at hK ⊢
                      simp only [List.setIfInBounds_toArray, List.set_cons_zero, List.set_cons_succ] at hK ⊢
                      have e69 := hJ.p0 (hdep ⟨0, .data⟩ (by simp) rfl)
                      have m14' : W.cell? ⟨g14, 0, none⟩ = some (.slice Ax xs.length cx) := (hJ.base.cell (p := ⟨g14, 0, none⟩) h14G).trans m14
                      simp only [e69] at hK ⊢
                      go_simp
                      exact hK.out _ _ { base := hJ.base, p0 := hJ.p0, l1 := fun _ => rfl, o2 := hJ.o2, l3 := hJ.l3, b4 := hJ.b4, o5 := hJ.o5, m6 := hJ.m6, a7 := hJ.a7, q6 := hJ.q6, q8 := hJ.q8 }
                    · refine ⟨fun s hs => by cases hs <;> decide, ?_⟩
                      rintro dd val W hJ hd hdep K hK
                      rw [if_pos (by rfl)]
                      dsimp only [putF, List.foldl, Act.put] at hK ⊢
                      simp only [List.setIfInBounds_toArray, List.set_cons_zero, List.set_cons_succ] at hK ⊢
                      have e70 := hJ.l1 (hdep ⟨1, .data⟩ (by simp) rfl)
                      simp only [e70] at hK ⊢
                      have hsx := (Sl.ok RSub.ok).mono HXG.out (fun k hk => hJ.base.block k hk) (fun _ hk => hk)
                      refine wp_copy RSub.ok W (.const (.slice none 0 0)) (.tmp 70) 22 rfl wG.heap.size 27 (.agg #[.slice none 0 0, .slice none 0 0]) 48 Tryz.underlying22 info_sub rfl (by decide) (Lt wG.heap.size) (Lt wG.heap.size) (fun _ _ h => h) rfl Ax cx xs rfl hsx (fun k hk => Nat.lt_of_lt_of_le hk hJ.base.size) (by omega) hJ.base.size ?_
                      intro v' w' hown hb hat
                      have hJ6 := hJ.grow hb
                      exact hK.out v' w' { base := hJ6.base, p0 := hJ.p0, l1 := hJ.l1, o2 := fun _ _ => hown, l3 := hJ.l3, b4 := hJ6.b4, o5 := hJ6.o5, m6 := hJ.m6, a7 := fun h7 => (let ⟨g, u, e, hg, ht, h8, h2, h5⟩ := hJ6.a7 h7; ⟨g, u, e, hg, ht, h8, fun _ _ => own_ne hat (hJ.tb_lt h7 e), h5⟩), q6 := hJ.q6, q8 := hJ.q8 }
                    · refine ⟨fun s hs => by cases hs <;> decide, ?_⟩
                      rintro dd val W hJ hd hdep K hK
                      rw [if_pos (by rfl)]
                      dsimp only [putF, List.foldl, Act.put] at hK ⊢
                      simp only [List.setIfInBounds_toArray, List.set_cons_zero, List.set_cons_succ] at hK ⊢
                      have m16' : W.cell? ⟨g16, 0, none⟩ = some (.slice P1 pp.length e1) := (hJ.base.cell (p := ⟨g16, 0, none⟩) h16G).trans m16
                      have n16' : W.cell? ⟨g16, 1, none⟩ = some (.slice X1 xx.length e2) := (hJ.base.cell (p := ⟨g16, 1, none⟩) h16G).trans n16
                      go_simp
                      exact hK.out _ _ { base := hJ.base, p0 := hJ.p0, l1 := hJ.l1, o2 := hJ.o2, l3 := fun _ => rfl, b4 := hJ.b4, o5 := hJ.o5, m6 := hJ.m6, a7 := hJ.a7, q6 := hJ.q6, q8 := hJ.q8 }
                    · refine ⟨fun s hs => by cases hs <;> decide, ?_⟩
                      rintro dd val W hJ hd hdep K hK
                      rw [if_pos (by rfl)]
                      dsimp only [putF, List.foldl, Act.put] at hK ⊢
                      simp only [List.setIfInBounds_toArray, List.set_cons_zero, List.set_cons_succ] at hK ⊢
                      have e72 := hJ.l3 (hdep ⟨3, .data⟩ (by simp) rfl)
                      simp only [e72] at hK ⊢
                      go_simp
                      have hb : Below W.heap.size W (W.alloc (.cells #[.slice P1 pp.length e1, .slice X1 xx.length e2] 27)) := (Below.refl _ _).alloc (Nat.le_refl _) _
                      have hJ6 := hJ.grow hb
                      exact hK.out _ _ { base := hJ6.base, p0 := hJ.p0, l1 := hJ.l1, o2 := hJ6.o2, l3 := hJ.l3, b4 := fun _ => ⟨W.heap.size, rfl, fun _ => ⟨by rw [World.cell?_alloc_new]; rfl, by rw [World.cell?_alloc_new]; rfl⟩⟩, o5 := hJ6.o5, m6 := hJ.m6, a7 := hJ6.a7, q6 := hJ.q6, q8 := hJ.q8 }
                    · refine ⟨fun s hs => by cases hs <;> decide, ?_⟩
                      rintro dd val W hJ hd hdep K hK
                      rw [if_pos (by rfl)]
                      dsimp only [putF, List.foldl, Act.put] at hK ⊢
                      simp only [List.setIfInBounds_toArray, List.set_cons_zero, List.set_cons_succ] at hK ⊢
                      have D2 := hdep ⟨2, .data⟩ (by simp) rfl
                      have D4 := hdep ⟨4, .data⟩ (by simp) rfl
                      obtain ⟨gz, e73, hcz⟩ := hJ.b4 D4
                      obtain ⟨hz0, hz1⟩ := hcz hd
                      have hown := hJ.o2 D2 hd
                      simp only [e73] at hK ⊢
                      have hnews := sub_news (S := Lt wG.heap.size) (s := (pp, xx)) hz0 hz1 ((Sl.ok RGen.ok).mono HPG.out (fun k hk => hJ.base.block k hk) (fun _ hk => hk)) ((Sl.ok RGen.ok).mono HXXG.out (fun k hk => hJ.base.block k hk) (fun _ hk => hk))
                      have hlen6 : (xs.length + 1) * 48 ≤ 140737488355328 := by omega
                      refine wp_app RSub.ok W (.tmp 71) (.tmp 73) 22 rfl wG.heap.size 27 (.agg #[.slice none 0 0, .slice none 0 0]) 48 Tryz.underlying22 info_sub rfl (by decide) (Lt wG.heap.size) (val 71) xs rfl hown ⟨gz, 0, none⟩ 1 1 [(pp, xx)] rfl rfl hnews (fun k hk => Nat.lt_of_lt_of_le hk hJ.base.size) (by simpa using hlen6) (by simp [maxLen]; omega) hJ.base.size ?_
                      intro v' w' hown' hgr hb hat
                      have hbw : Below wG.heap.size wG w' := hJ.base.trans hb
                      have ha7 : dd 7 = true → ∃ g u, val 17 = .pointer (some ⟨g, 0, none⟩) ∧ wG.heap.size ≤ g ∧ TB g u w' ∧ (dd 8 = true → u = val 74) ∧ v'.ownBlock ≠ some g := fun h7 => by
                        obtain ⟨g, u, e, hg, ht, h8, h2, -⟩ := hJ.a7 h7
                        refine ⟨g, u, e, hg, (hgr.block g ht.lt (fun e => h2 D2 hd e.symm)).trans ht, h8, ?_⟩
                        rcases hat with ha | ha
                        · rw [ha]; exact h2 D2 hd
                        · rw [ha]; intro e; simp only [Option.some.injEq] at e; have := ht.lt; omega
                      exact hK.out v' w' { base := hbw, p0 := hJ.p0, l1 := hJ.l1, o2 := fun _ h => (by cases h), l3 := hJ.l3, b4 := fun _ => ⟨gz, e73, fun h => (by cases h)⟩, o5 := fun _ => hown', m6 := fun h6 => absurd (hJ.q6 h6) (by rw [hd]; decide), a7 := fun h7 => (let ⟨g, u, e, hg, ht, _, hne⟩ := ha7 h7; ⟨g, u, e, hg, ht, fun h8 => absurd (hJ.q8 h8).1 (by rw [hd]; decide), fun _ h => (by cases h), fun _ => hne⟩), q6 := fun _ => rfl, q8 := fun h8 => absurd (hJ.q8 h8).1 (by rw [hd]; decide) }
                    · refine ⟨fun s hs => by cases hs <;> decide, ?_⟩
                      rintro dd val W hJ hd hdep K hK
                      rw [if_pos (by rfl)]
                      dsimp only [putF, List.foldl, Act.put] at hK ⊢
                      simp only [List.setIfInBounds_toArray, List.set_cons_zero, List.set_cons_succ] at hK ⊢
                      have D5 := hdep ⟨5, .data⟩ (by simp) rfl
                      obtain ⟨B, cb, e74⟩ := ((hJ.o5 D5).sl RSub.ok).shape
                      obtain ⟨n9, hn9⟩ : ∃ n, (xs ++ [((pp, xx) : Sub)]).length = n := ⟨_, rfl⟩
                      rw [hn9] at e74
                      clear hn9
                      simp only [e74] at hK ⊢
                      go_simp
                      exact hK.out (.agg #[.slice B n9 cb]) _ { base := hJ.base, p0 := hJ.p0, l1 := hJ.l1, o2 := hJ.o2, l3 := hJ.l3, b4 := hJ.b4, o5 := hJ.o5, m6 := fun _ => congrArg (fun u => Value.agg #[u]) e74.symm, a7 := hJ.a7, q6 := fun _ => D5, q8 := fun h8 => absurd (hJ.q8 h8).2.1 (by rw [hd]; decide) }
                    · refine ⟨fun s hs => by cases hs <;> decide, ?_⟩
                      rintro dd val W hJ hd hdep K hK
                      rw [if_pos (by rfl)]
                      dsimp only [putF, List.foldl, Act.put] at hK ⊢
                      simp only [List.setIfInBounds_toArray, List.set_cons_zero, List.set_cons_succ] at hK ⊢
                      go_simp
                      have hb : Below W.heap.size W (W.alloc (.cells #[.slice none 0 0] 24)) := (Below.refl _ _).alloc (Nat.le_refl _) _
                      have hJ6 := hJ.grow hb
                      have hn2 : dd 2 = true → dd 5 = false → (val 71).ownBlock ≠ some W.heap.size := fun h2 h5 e => by have := ((hJ.o2 h2 h5).lt _ e).2; omega
                      have hn5 : dd 5 = true → (val 74).ownBlock ≠ some W.heap.size := fun h5 e => by have := ((hJ.o5 h5).lt _ e).2; omega
                      exact hK.out _ _ { base := hJ6.base, p0 := hJ.p0, l1 := hJ.l1, o2 := hJ6.o2, l3 := hJ.l3, b4 := hJ6.b4, o5 := hJ6.o5, m6 := hJ.m6, a7 := fun _ => ⟨W.heap.size, _, rfl, hJ.base.size, heap_alloc_new W _, fun h8 => absurd (hJ.q8 h8).2.2 (by rw [hd]; decide), hn2, hn5⟩, q6 := hJ.q6, q8 := fun h8 => absurd (hJ.q8 h8).2.2 (by rw [hd]; decide) }
                    · refine ⟨fun s hs => by cases hs <;> decide, ?_⟩
                      rintro dd val W hJ hd hdep K hK
                      rw [if_pos (by rfl)]
                      dsimp only [putF, List.foldl, Act.put] at hK ⊢
                      simp only [List.setIfInBounds_toArray, List.set_cons_zero, List.set_cons_succ] at hK ⊢
                      have D6 := hdep ⟨6, .data⟩ (by simp) rfl
                      have D7 := hdep ⟨7, .data⟩ (by simp) rfl
                      have D5 := hJ.q6 D6
                      have e75 := hJ.m6 D6
                      obtain ⟨g17, u, e17, hg17, ht17, -, hn2, hn5⟩ := hJ.a7 D7
                      obtain ⟨B, cb, e74⟩ := ((hJ.o5 D5).sl RSub.ok).shape
                      obtain ⟨n9, hn9⟩ : ∃ n, (xs ++ [((pp, xx) : Sub)]).length = n := ⟨_, rfl⟩
                      rw [hn9] at e74
                      clear hn9
                      obtain ⟨f0, f1⟩ := ht17.facts
                      rw [e74] at e75
                      simp only [e17, e75, e74] at hK ⊢
                      go_simp
                      have hst := ht17.store (.slice B n9 cb)
                      have hbf := hJ.base.setCell (p := ⟨g17, 0, none⟩) hg17 (.slice B n9 cb)
                      have ho5 : Own RSub 2 27 (W.setCell ⟨g17, 0, none⟩ (.slice B n9 cb)) wG.heap.size (Lt wG.heap.size) (val 74) (xs ++ [(pp, xx)]) := Own.keep RSub.ok (hJ.o5 D5) (fun k hk => Below.heap_setCell W ⟨g17, 0, none⟩ _ k (fun e => hn5 D5 (by rw [hk]; exact congrArg some e))) (fun k hk => Below.heap_setCell W ⟨g17, 0, none⟩ _ k (by have hk' : k < wG.heap.size := hk; show k ≠ g17; omega)) (fun _ hk => hk) (by obtain ⟨_, _, h2, _⟩ := hJ.o5 D5; exact h2)
                      exact hK.out undef _ { base := hbf, p0 := hJ.p0, l1 := hJ.l1, o2 := fun _ h5 => absurd D5 (by rw [show dd 5 = false from h5]; decide), l3 := hJ.l3, b4 := fun h4 => (let ⟨gz, e, _⟩ := hJ.b4 h4; ⟨gz, e, fun h5 => absurd D5 (by rw [show dd 5 = false from h5]; decide)⟩), o5 := fun _ => ho5, m6 := hJ.m6, a7 := fun _ => ⟨g17, _, e17, hg17, hst, fun _ => e74.symm, hn2, hn5⟩, q6 := hJ.q6, q8 := fun _ => ⟨D5, D6, D7⟩ }
                    · rintro dd val W hall hJ
                      obtain ⟨g17, u, e17, hg17, ht17, hu, -⟩ := hJ.a7 (hall 7 (by decide))
                      have hown := hJ.o5 (hall 5 (by decide))
                      obtain ⟨B, cb, e74⟩ := (hown.sl RSub.ok).shape
                      rw [hu (hall 8 (by decide)), e74] at ht17
                      rw [e74] at hown
                      have hbWz := hJ.base.size
                      have hwant : Sl RSub 2 W (Lt W.heap.size) (xs ++ [(pp, xx)]) [.slice B (xs ++ [((pp, xx) : Sub)]).length cb] := (Sl.ok RSub.ok).mono (hown.sl RSub.ok) (fun _ _ => rfl) (fun k hk => by
                        rcases hk with hk | hk
                        · exact Nat.lt_of_lt_of_le hk hbWz
                        · exact hk.2)
                      obtain ⟨n9, hn9⟩ : ∃ n, (xs ++ [((pp, xx) : Sub)]).length = n := ⟨_, rfl⟩
                      rw [hn9] at ht17 hwant
                      have HJB := hide hJ.base
                      have hWd : Below W.heap.size W W.drew := (Below.refl _ _).drew
                      have hGd : Below wG.heap.size wG W.drew := hJ.base.drew
                      have ADD := hide (show Calls Tryz.prog 15 #[.agg #[.slice Ax xs.length cx], .agg #[.slice P1 pp.length e1, .slice X1 xx.length e2]] W.drew (fun e w' => ∃ (B' : Option Addr) (d' : Nat), e = .returned (.agg #[.slice B' n9 d']) ∧ Sl RSub 2 w' (Btw W.drew.heap.size w'.heap.size) (xs ++ [(pp, xx)]) [.slice B' n9 d'] ∧ Below W.drew.heap.size W.drew w') by
                        have h := Add_any xs pp xx Ax P1 X1 cx e1 e2 (by omega) HCXS.out HCPX.out W.drew ((Sl.ok RSub.ok).below HXG.out hGd) ((Sl.ok RGen.ok).below HPG.out hGd) ((Sl.ok RGen.ok).below HXXG.out hGd)
                        rw [hn9] at h
                        exact h)
                      have SST := hide (fun (W' : World) (B' : Option Addr) (d' : Nat) (h1 : Sl RSub 2 W' (Lt W'.heap.size) (xs ++ [(pp, xx)]) [.slice B' n9 d']) (h2 : Below W.heap.size W W') => show Calls Tryz.prog 14 #[.agg #[.slice B' n9 d'], .agg #[.slice B n9 cb]] W' (fun e w' => e = .returned (.bool true) ∧ Below W'.heap.size W' w') by
                        have h := sameState_any (xs ++ [(pp, xx)]) B' B d' cb W' (by rw [hn9]; exact h1) (by rw [hn9]; exact (Sl.ok RSub.ok).below hwant h2)
                        rw [hn9] at h
                        exact h)
                      obtain ⟨f1, -⟩ := (show TB g14 (.slice Ax xs.length cx) W from (hJ.base.block g14 h14G).trans HT14G.out).facts
                      obtain ⟨f2, f3, -, -⟩ := (show SB g16 (.slice P1 pp.length e1) (.slice X1 xx.length e2) W from (hJ.base.block g16 h16G).trans HS16.out).facts
                      obtain ⟨f4, -⟩ := ht17.facts
                      have f1d : W.drew.cell? ⟨g14, 0, none⟩ = some (.slice Ax xs.length cx) := f1
                      have f2d : W.drew.cell? ⟨g16, 0, none⟩ = some (.slice P1 pp.length e1) := f2
                      have f3d : W.drew.cell? ⟨g16, 1, none⟩ = some (.slice X1 xx.length e2) := f3
                      have f4d : W.drew.cell? ⟨g17, 0, none⟩ = some (.slice B n9 cb) := f4
                      dsimp only [putF, List.foldl, Act.put]
                      simp only [List.setIfInBounds_toArray, List.set_cons_zero, List.set_cons_succ, e17]
                      generalize val 69 = v69
                      generalize val 70 = v70
                      generalize val 71 = v71
                      generalize val 72 = v72
                      generalize val 73 = v73
                      generalize val 74 = v74
                      generalize val 75 = v75
                      clear hJ hown hwant hn9 ht17 hu e17 hall hbWz hGd m14 m16 n16
                      go_upto_region 18 with (fail)
                      go_region_held3 (fun W' => W'.cell? ⟨g14, 0, none⟩ = some (.slice Ax xs.length cx) ∧ W'.cell? ⟨g16, 0, none⟩ = some (.slice P1 pp.length e1) ∧ W'.cell? ⟨g16, 1, none⟩ = some (.slice X1 xx.length e2) ∧ W'.cell? ⟨g17, 0, none⟩ = some (.slice B n9 cb))
                        (first | exact ⟨hs1, hs2, hs3, hs4⟩ | exact ⟨f1, f2, f3, f4⟩ | exact ⟨f1d, f2d, f3d, f4d⟩)
                        (first
                          | (go_at_call 15; refine ADD.out.mono ?_; rintro e wn ⟨B9, d9, rfl, hsl9, hb9⟩; have hs1 := cell_grows hb9 _ _ f1d; have hs2 := cell_grows hb9 _ _ f2d; have hs3 := cell_grows hb9 _ _ f3d; have hs4 := cell_grows hb9 _ _ f4d; have hw9 : Below W.heap.size W wn := hWd.trans hb9; have hsl99 : Sl RSub 2 wn (Lt wn.heap.size) (xs ++ [(pp, xx)]) [.slice B9 n9 d9] := (Sl.ok RSub.ok).mono hsl9 (fun _ _ => rfl) (fun _ hk => hk.2))
                          | (go_at_call 14; refine (SST.out wn B9 d9 hsl99 hw9).mono ?_; rintro e wp ⟨rfl, hbp⟩; have hs1 := cell_grows hbp _ _ hs1; have hs2 := cell_grows hbp _ _ hs2; have hs3 := cell_grows hbp _ _ hs3; have hs4 := cell_grows hbp _ _ hs4; have hw10 := hw9.trans (hbp.mono hw9.size))
                          | fail)
                      all_goals
                        have HBN := hide (HBG.out.trans ((HJB.out.trans (hw10.mono HJB.out.size)).mono HBG.out.size))
                        go_wp2_with fail
                        go_roundw
                        case rel => exact ⟨j + 1, by omega, by go_num, HBN.out⟩
                        case measure => simp [intOf]; omega
                  · have hexI : Ex d wD wi := HEXF.out.then_ hb
                    have HEXI := hide hexI
                    obtain ⟨k0, k1, k2, -, -, -⟩ := (show GB g6 g.1 t (.slice A g.2.2.length c) wi from (hexI.at_ h6D (by omega)).trans HG6D.out).facts
                    have k0d : wi.drew.cell? ⟨g6, 0, none⟩ = some (.int .i64 g.1) := k0
                    have k1d : wi.drew.cell? ⟨g6, 1, none⟩ = some (.string t) := k1
                    have k2d : wi.drew.cell? ⟨g6, 2, none⟩ = some (.slice A g.2.2.length c) := k2
                    have hdkd : DeckAt wi.drew d := (HDKF.out.below hb).drewN 1
                    have HDI := hide (show d < wi.drew.heap.size from hdkd.lt)
                    have h6i : g6 < wi.heap.size := World.block_lt_of_cell? wi ⟨g6, 0, none⟩ k0
                    have hg6d : g6 ≠ d := by omega
                    have HBI := hide hb
                    have HBWI := hide (HBF.out.trans (hb.mono HBF.out.size))
                    clear hb hexI
                    go_upto_region 21 with (fail)
                    go_region_held3 (fun W => W.cell? ⟨g6, 0, none⟩ = some (.int .i64 g.1) ∧ W.cell? ⟨g6, 1, none⟩ = some (.string t) ∧ W.cell? ⟨g6, 2, none⟩ = some (.slice A g.2.2.length c))
                      (first | exact ⟨ha1 _, ha2 _, ha3 _⟩ | exact ⟨hs1, hs2, hs3⟩ | exact ⟨k0, k1, k2⟩ | exact ⟨k0d, k1d, k2d⟩)
                      (first
                        | (go_at_call 16; (with_reducible refine (General_any d wi.drew hdkd).mono ?_); rintro e wA ⟨ga, ta, Aa, ca, hga, hta, rfl, hsla, hdkA, hexA⟩; have hs1 := (hexA.cell (p := ⟨g6, 0, none⟩) h6i hg6d).trans k0d; have hs2 := (hexA.cell (p := ⟨g6, 1, none⟩) h6i hg6d).trans k1d; have hs3 := (hexA.cell (p := ⟨g6, 2, none⟩) h6i hg6d).trans k2d)
                        | (go_at_call 16; (with_reducible refine (General_any d wA hdkA).mono ?_); rintro e wB ⟨gb, tb, Ab, cb, hgb, htb, rfl, hslb, hdkB, hexB⟩; have hz5 := World.block_lt_of_cell? wA ⟨g6, 0, none⟩ hs1; have hs1 := (hexB.cell (p := ⟨g6, 0, none⟩) hz5 hg6d).trans hs1; have hs2 := (hexB.cell (p := ⟨g6, 1, none⟩) hz5 hg6d).trans hs2; have hs3 := (hexB.cell (p := ⟨g6, 2, none⟩) hz5 hg6d).trans hs3)
                        | (go_at_call 17; (with_reducible refine (Base_any d wB hdkB).mono ?_); rintro e wC ⟨gc, tc, Ac, cc, hgc, htc, rfl, hslc, hdkC, hexC⟩; have hz6 := World.block_lt_of_cell? wB ⟨g6, 0, none⟩ hs1; have hs1 := (hexC.cell (p := ⟨g6, 0, none⟩) hz6 hg6d).trans hs1; have hs2 := (hexC.cell (p := ⟨g6, 1, none⟩) hz6 hg6d).trans hs2; have hs3 := (hexC.cell (p := ⟨g6, 2, none⟩) hz6 hg6d).trans hs3; have hz7 := World.block_lt_of_cell? wC ⟨g6, 0, none⟩ hs1; have ha1 := fun ob => (World.cell?_alloc_lt wC ob ⟨g6, 0, none⟩ hz7).trans hs1; have ha2 := fun ob => (World.cell?_alloc_lt wC ob ⟨g6, 1, none⟩ hz7).trans hs2; have ha3 := fun ob => (World.cell?_alloc_lt wC ob ⟨g6, 2, none⟩ hz7).trans hs3)
                        | fail)
                    have hdA := hdkA.lt
                    have hdB := hdkB.lt
                    have hexr : Ex d wi wC := (Ex.refl d wi).drew.trans (hexA.trans (hexB.trans hexC))
                    have hbrC : Below w.heap.size w wC := Ex.below HBWI.out HBWI.out.size hwd hexr
                    have hzAB := hexB.size
                    have hzBC := hexC.size
                    have hk1 : Sl RRdn 1 wC (Nd d wC.heap.size) g.2.2 [.slice A g.2.2.length c] := (Sl.ok RRdn.ok).mono K4.out (fun k hk => hbrC.block k hk) (fun k hk => ⟨Nat.lt_of_lt_of_le hk hbrC.size, by have hk' : k < w.heap.size := hk; omega⟩)
                    have hk2 : Sl RRdn 1 wC (Nd d wC.heap.size) ga.2.2 [.slice Aa ga.2.2.length ca] := (Sl.ok RRdn.ok).mono hsla (fun k hk => (hexB.trans hexC).at_ hk.2 (by have := hk.1; have := HDI.out; omega)) (fun k hk => ⟨by have := hk.2; omega, by have := hk.1; have := HDI.out; omega⟩)
                    have hk3 : Sl RRdn 1 wC (Nd d wC.heap.size) gb.2.2 [.slice Ab gb.2.2.length cb] := (Sl.ok RRdn.ok).mono hslb (fun k hk => hexC.at_ hk.2 (by have := hk.1; omega)) (fun k hk => ⟨by have := hk.2; omega, by have := hk.1; omega⟩)
                    have hk4 : Sl RRdn 1 wC (Nd d wC.heap.size) gc.2.2 [.slice Ac gc.2.2.length cc] := (Sl.ok RRdn.ok).mono hslc (fun _ _ => rfl) (fun k hk => ⟨hk.2, by have := hk.1; omega⟩)
                    have hfour := four_gens (T := 32) HT.out hta htb htc hk1 hk2 hk3 hk4 (fun k hk => hk.1)
                    obtain ⟨wH, hwH⟩ : ∃ wH, wH = wC.alloc (.cells #[.int .i64 g.1, .string t, .slice A g.2.2.length c, .int .i64 ga.1, .string ta, .slice Aa ga.2.2.length ca, .int .i64 gb.1, .string tb, .slice Ab gb.2.2.length cb, .int .i64 gc.1, .string tc, .slice Ac gc.2.2.length cc] 32) := ⟨_, rfl⟩
                    rw [← hwH] at hfour
                    try rw [← hwH]
                    obtain ⟨gR, hgR⟩ : ∃ gR, gR = wC.heap.size := ⟨_, rfl⟩
                    rw [← hgR] at hfour
                    try rw [← hgR]
                    have hszH : wH.heap.size = wC.heap.size + 1 := by rw [hwH]; simp
                    have H4 := hide (show Sl RGen 3 wH (Lt wH.heap.size) [g, ga, gb, gc] [.slice (some ⟨gR, 0, none⟩) [g, ga, gb, gc].length 4] from (Sl.ok RGen.ok).mono hfour (fun _ _ => rfl) (fun k hk => by
                      rcases hk with hk | hk
                      · have := hk.1; show k < _; omega
                      · show k < _; omega))
                    have hexH : Ex d wi wH := by rw [hwH]; exact hexr.alloc _
                    have HEXH := hide (show Ex d wD wH from HEXI.out.trans hexH)
                    have HDKH := hide (show DeckAt wH d by rw [hwH]; exact hdkC.alloc _)
                    have HBH := hide (show Below w.heap.size w wH from Ex.below HBWI.out HBWI.out.size hwd hexH)
                    have hexFH : Ex d wF wH := ((Ex.refl d wF).then_ HBI.out).trans hexH
                    have HT14H := hide (show TB g14 (.slice Ax xs.length cx) wH from (hexFH.at_ h14F (Ne.symm hd14)).trans HT14F.out)
                    have HXSH := hide (show Sl RSub 2 wH (Lt wH.heap.size) xs [.slice Ax xs.length cx] from (Sl.ok RSub.ok).lt ((Sl.ok RSub.ok).ex HXSF.out hexFH))
                    have hx4 : ∀ y ∈ [g, ga, gb, gc], SmallG y := fun y hy => by
                      simp only [List.mem_cons, List.not_mem_nil, or_false] at hy
                      rcases hy with rfl | rfl | rfl | rfl
                      · exact HSG.out
                      · exact hga.small
                      · exact hgb.small
                      · exact hgc.small
                    have HX4 := hide hx4
                    have h14H := HT14H.out.lt
                    clear hdA hdB hexr hbrC hzAB hzBC hk1 hk2 hk3 hk4 hfour hwH hgR hszH hexH hexFH hx4 hs1 hs2 hs3 ha1 ha2 ha3 hz5 hz6 hz7 hsla hslb hslc hexA hexB hexC hdkA hdkB hdkC hdkd hga hgb hgc hta htb htc k0 k1 k2 k0d k1d k2d
                    go_wp2_with fail
                    go_loopw [92] (fun i wj => ∃ m : Nat, m ≤ 4 ∧ i = .int .i64 m ∧ Below wH.heap.size wH wj) (fun i _ => 4 - (intOf i).toNat)
                    case atStart => exact ⟨0, Nat.zero_le _, rfl, Below.refl _ _⟩
                    case round =>
                      obtain ⟨m, hm, rfl, hb⟩ := hrel
                      obtain ⟨wj, rfl⟩ : ∃ wj : World, wj = wr := ⟨_, rfl⟩
                      by_cases hm4 : m < 4
                      · have hm4' : (m : Int) < 4 := by omega
                        have hm0 : (0 : Int) ≤ (m : Int) := by omega
                        obtain ⟨bX, oX, ty, Ay, cy, hAy, hbX, hty, y0, y1, y2, hsly⟩ := H4.out.genAt (show m < [g, ga, gb, gc].length from hm4)
                        simp only [Option.some.injEq, Addr.mk.injEq, and_true] at hAy
                        obtain ⟨rfl, rfl⟩ := hAy
                        have hsy0 := HX4.out _ (List.getElem_mem (show m < [g, ga, gb, gc].length from hm4))
                        obtain ⟨y, hy⟩ : ∃ y, [g, ga, gb, gc][m]'hm4 = y := ⟨_, rfl⟩
                        rw [hy] at y0 y2 hsly hty hsy0
                        rw [Nat.zero_add] at y0 y1 y2
                        have hbX' : gR < wH.heap.size := hbX
                        have z0 := (hb.cell (p := ⟨gR, m * 3, none⟩) hbX').trans y0
                        have z1 := (hb.cell (p := ⟨gR, m * 3 + 1, none⟩) hbX').trans y1
                        have z2 := (hb.cell (p := ⟨gR, m * 3 + 2, none⟩) hbX').trans y2
                        obtain ⟨wy, hwy⟩ : ∃ wy, wy = wj.alloc (.cells #[.int .i64 y.1, .string ty, .slice Ay y.2.2.length cy] 32) := ⟨_, rfl⟩
                        obtain ⟨gy, hgy⟩ : ∃ gy, gy = wj.heap.size := ⟨_, rfl⟩
                        have hgby : GB gy y.1 ty (.slice Ay y.2.2.length cy) wy := by rw [hwy, hgy]; exact heap_alloc_new wj _
                        have hby : Below wH.heap.size wH wy := by rw [hwy]; exact hb.alloc hb.size _
                        have hbw : Below w.heap.size w wy := HBH.out.trans (hby.mono HBH.out.size)
                        obtain ⟨q1, hq1⟩ : ∃ q, permitsG xs y = q := ⟨_, rfl⟩
                        have MX := hide (fun W (h : Below wy.heap.size wy W) => HMX.out.below (hbw.trans (h.mono hbw.size)))
                        have SY := hide (fun W (h : Below wy.heap.size wy W) => (Sl.ok RRdn.ok).below hsly (hby.trans (h.mono hby.size)))
                        have SXS := hide (fun W (h : Below wy.heap.size wy W) => (Sl.ok RSub.ok).below HXSH.out (hby.trans (h.mono hby.size)))
                        have C1 := hide (fun W (h1 : W.cell? ⟨g14, 0, none⟩ = some (.slice Ax xs.length cx)) (h2 : W.cell? ⟨gy, 0, none⟩ = some (.int .i64 y.1)) (h3 : W.cell? ⟨gy, 1, none⟩ = some (.string ty)) (h4 : W.cell? ⟨gy, 2, none⟩ = some (.slice Ay y.2.2.length cy)) (h5 : Below wy.heap.size wy W) => (permits_any y ty Ay cy xs Ax cx hty hsy0 HSXS.out q1 hq1 W (MX.out W h5) (SY.out W h5) (SXS.out W h5)).mono (R' := fun e W' => e = .returned (.bool q1) ∧ W'.cell? ⟨g14, 0, none⟩ = some (.slice Ax xs.length cx) ∧ W'.cell? ⟨gy, 0, none⟩ = some (.int .i64 y.1) ∧ W'.cell? ⟨gy, 1, none⟩ = some (.string ty) ∧ W'.cell? ⟨gy, 2, none⟩ = some (.slice Ay y.2.2.length cy) ∧ Below wy.heap.size wy W') fun _ _ ⟨he, hb9⟩ => ⟨he, cell_grows hb9 _ _ h1, cell_grows hb9 _ _ h2, cell_grows hb9 _ _ h3, cell_grows hb9 _ _ h4, h5.trans (hb9.mono h5.size)⟩)
                        have C2 := hide (fun W (h1 : W.cell? ⟨g14, 0, none⟩ = some (.slice Ax xs.length cx)) (h2 : W.cell? ⟨gy, 0, none⟩ = some (.int .i64 y.1)) (h3 : W.cell? ⟨gy, 1, none⟩ = some (.string ty)) (h4 : W.cell? ⟨gy, 2, none⟩ = some (.slice Ay y.2.2.length cy)) (h5 : Below wy.heap.size wy W) => (rPermits_any y ty Ay cy xs Ax cx hty hsy0 HSXS.out q1 hq1 W (MX.out W h5) (SY.out W h5) (SXS.out W h5)).mono (R' := fun e W' => e = .returned (.bool q1) ∧ W'.cell? ⟨g14, 0, none⟩ = some (.slice Ax xs.length cx) ∧ W'.cell? ⟨gy, 0, none⟩ = some (.int .i64 y.1) ∧ W'.cell? ⟨gy, 1, none⟩ = some (.string ty) ∧ W'.cell? ⟨gy, 2, none⟩ = some (.slice Ay y.2.2.length cy) ∧ Below wy.heap.size wy W') fun _ _ ⟨he, hb9⟩ => ⟨he, cell_grows hb9 _ _ h1, cell_grows hb9 _ _ h2, cell_grows hb9 _ _ h3, cell_grows hb9 _ _ h4, h5.trans (hb9.mono h5.size)⟩)
                        obtain ⟨f1, -⟩ := (show TB g14 (.slice Ax xs.length cx) wy from (hby.block g14 h14H).trans HT14H.out).facts
                        obtain ⟨f2, f3, f4, -, -, -⟩ := hgby.facts
                        have f5 : Below wy.heap.size wy wy := Below.refl _ _
                        have f1d : wy.drew.cell? ⟨g14, 0, none⟩ = some (.slice Ax xs.length cx) := f1
                        have f2d : wy.drew.cell? ⟨gy, 0, none⟩ = some (.int .i64 y.1) := f2
                        have f3d : wy.drew.cell? ⟨gy, 1, none⟩ = some (.string ty) := f3
                        have f4d : wy.drew.cell? ⟨gy, 2, none⟩ = some (.slice Ay y.2.2.length cy) := f4
                        have f5d : Below wy.heap.size wy wy.drew := f5.drew
                        have t1 : (q1 != q1) = false := by simp
                        have HBY := hide hby
                        have HWY := hide hwy
                        have HGY := hide hgy
                        clear hb hbX hbX' y0 y1 y2 hsly hty hsy0 hy hwy hgy hgby hby hbw hq1
                        go_upto_region 24 with (fail)
                        rw [← HWY.out, ← HGY.out]
                        clear z0 z1 z2
                        go_region_held3 (fun W => W.cell? ⟨g14, 0, none⟩ = some (.slice Ax xs.length cx) ∧ W.cell? ⟨gy, 0, none⟩ = some (.int .i64 y.1) ∧ W.cell? ⟨gy, 1, none⟩ = some (.string ty) ∧ W.cell? ⟨gy, 2, none⟩ = some (.slice Ay y.2.2.length cy) ∧ Below wy.heap.size wy W)
                          (first | exact ⟨hs1, hs2, hs3, hs4, hs5⟩ | exact ⟨f1, f2, f3, f4, f5⟩ | exact ⟨f1d, f2d, f3d, f4d, f5d⟩)
                          (first
                            | (go_at_call 18; (first | (with_reducible refine (C1.out _ hs1 hs2 hs3 hs4 hs5).mono ?_) | (with_reducible refine (C1.out wy.drew f1d f2d f3d f4d f5d).mono ?_) | fail); rintro e wn ⟨rfl, hs1, hs2, hs3, hs4, hs5⟩)
                            | (go_at_call 19; (first | (with_reducible refine (C2.out _ hs1 hs2 hs3 hs4 hs5).mono ?_) | (with_reducible refine (C2.out wy.drew f1d f2d f3d f4d f5d).mono ?_) | fail); rintro e wn ⟨rfl, hs1, hs2, hs3, hs4, hs5⟩)
                            | fail)
                        all_goals
                          have HBN := hide (HBY.out.trans (hs5.mono HBY.out.size))
                          go_wp2_with fail
                          go_roundw
                          case rel => exact ⟨m + 1, by omega, by go_num, HBN.out⟩
                          case measure => simp [intOf]; omega
                      · have HEXJ := hide (HEXH.out.then_ hb)
                        have HDKJ := hide (HDKH.out.below hb)
                        clear hb
                        go_wp2_with fail
                        go_roundw
                        case rel => exact ⟨k + 1, by omega, by go_num, HEXJ.out, HDKJ.out⟩
                        case measure => simp [intOf]; omega
              · have HBZ := hide (Ex.below HBD.out HBD.out.size hwd hex)
                clear hex hdk
                go_wp2_with fail
                refine (sawake_any _ (HMX.out.below HBZ.out)).mono ?_
                rintro e wz ⟨rfl, hbz⟩
                go_wp2_with fail
                go_ret
                exact ⟨rfl, HBZ.out.trans (hbz.mono HBZ.out.size)⟩
end Go.Proofs.YtodapmkdmkhhfaaGreatDoor
