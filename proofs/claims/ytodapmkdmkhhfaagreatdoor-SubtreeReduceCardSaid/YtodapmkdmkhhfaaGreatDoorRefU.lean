/- The law SubtreeReduce, its walk. -/
import Derived.Test.YtodapmkdmkhhfaaGreatDoorRefT
namespace Go.Proofs.YtodapmkdmkhhfaaGreatDoor
open Go.RowKit


set_option maxRecDepth 100000 in
set_option maxHeartbeats 16000000 in
theorem SubtreeReduce_any (l lim : List Int) (per ex : List Gen) (g : Gen) (t : ByteArray) (A0 B1 B2 B3 A : Option Addr) (n0 c0 d1 d2 d3 c : Nat) (ht : t.data.toList = g.2.1) (w : World) (hmx : Mx w) (h : Sl RInt 1 w (Lt w.heap.size) l [.slice A0 n0 c0])
    (h1 : Sl RInt 1 w (Lt w.heap.size) lim [.slice B1 lim.length d1]) (h2 : Sl RGen 3 w (Lt w.heap.size) per [.slice B2 per.length d2]) (h3 : Sl RGen 3 w (Lt w.heap.size) ex [.slice B3 ex.length d3]) (h4 : Sl RRdn 1 w (Lt w.heap.size) g.2.2 [.slice A g.2.2.length c]) :
    Calls Tryz.prog 5 #[.slice A0 n0 c0, .agg #[.slice B1 lim.length d1, .slice B2 per.length d2, .slice B3 ex.length d3], .agg #[.int .i64 g.1, .string t, .slice A g.2.2.length c]] w fun e w' => e = .returned (.bool true) ∧ Below w.heap.size w w' := by
  have HMX := hide hmx
  have K0 := hide h
  have K1 := hide h1
  have K2 := hide h2
  have K3 := hide h3
  have K4 := hide h4
  have HT := hide ht
  obtain ⟨wa, hwa⟩ : ∃ wa, wa = (w.alloc (.cells #[.slice B1 lim.length d1, .slice B2 per.length d2, .slice B3 ex.length d3] 53)).alloc (.cells #[.int .i64 g.1, .string t, .slice A g.2.2.length c] 32) := ⟨_, rfl⟩
  have hz1 : (w.alloc (.cells #[.slice B1 lim.length d1, .slice B2 per.length d2, .slice B3 ex.length d3] 53)).heap.size = w.heap.size + 1 := by simp
  have hrb : RB w.heap.size (.slice B1 lim.length d1) (.slice B2 per.length d2) (.slice B3 ex.length d3) wa := by
    unfold RB
    rw [hwa, Below.heap_alloc _ _ _ (by simp)]
    exact heap_alloc_new w _
  have hgb : GB (w.heap.size + 1) g.1 t (.slice A g.2.2.length c) wa := by
    unfold GB
    rw [hwa, ← hz1]
    exact heap_alloc_new _ _
  have hba : Below w.heap.size w wa := by rw [hwa]; exact ((Below.refl _ _).alloc (Nat.le_refl _) _).alloc (by simp) _
  have hza : wa.heap.size = w.heap.size + 2 := by rw [hwa]; simp
  obtain ⟨g4, hg4⟩ : ∃ g, g = w.heap.size := ⟨_, rfl⟩
  obtain ⟨g5, hg5⟩ : ∃ g, g = w.heap.size + 1 := ⟨_, rfl⟩
  rw [← hg4] at hrb
  rw [← hg5] at hgb
  have h4a : g4 < wa.heap.size := by omega
  have h5a : g5 < wa.heap.size := by omega
  obtain ⟨x0, x1, x2, -, -, -⟩ := hrb.facts
  obtain ⟨k0, k1, k2, -, -, -⟩ := hgb.facts
  have HRB := hide hrb
  have HGB := hide hgb
  have HBA := hide hba
  have HWA := hide hwa
  have HG4 := hide hg4
  have HG5 := hide hg5
  obtain ⟨p1, hp1⟩ : ∃ p, shortGs per = p := ⟨_, rfl⟩
  obtain ⟨p2, hp2⟩ : ∃ p, shortGs ex = p := ⟨_, rfl⟩
  obtain ⟨p3, hp3⟩ : ∃ p, shortGs [g] = p := ⟨_, rfl⟩
  have HP1 := hide hp1
  have HP2 := hide hp2
  have HP3 := hide hp3
  clear hmx h h1 h2 h3 h4 ht hwa hz1 hrb hgb hba hza hg4 hg5 hp1 hp2 hp3
  go_enter Tryz.func5, Tryz.ntmps5
  go_upto_region 1 with (fail)
  rw [← HWA.out, ← HG5.out, ← HG4.out]
  go_wp2_with fail
  refine (ShortNames_any per B2 d2 p1 HP1.out _ ((Sl.ok RGen.ok).below K2.out HBA.out)).mono ?_
  rintro e w1 ⟨rfl, hb1⟩
  have HB1 := hide (HBA.out.trans (hb1.mono HBA.out.size))
  have HC1 := hide hb1
  clear hb1 x0 x1 x2 k0 k1 k2
  cases p1
  · obtain ⟨x0, x1, x2, -, -, -⟩ := (HRB.out.base HC1.out h4a).facts
    go_wp2_with fail
    refine (sawake_any _ (HMX.out.below HB1.out)).mono ?_
    rintro e wz ⟨rfl, hbz⟩
    go_wp2_with fail
    go_ret
    exact ⟨rfl, HB1.out.trans (hbz.mono HB1.out.size)⟩
  · obtain ⟨x0, x1, x2, -, -, -⟩ := (HRB.out.base HC1.out h4a).facts
    go_wp2_with fail
    refine (ShortNames_any ex B3 d3 p2 HP2.out _ ((Sl.ok RGen.ok).below K3.out HB1.out)).mono ?_
    rintro e w2 ⟨rfl, hb2⟩
    have HB2 := hide (HB1.out.trans (hb2.mono HB1.out.size))
    have HC2 := hide (HC1.out.trans (hb2.mono HC1.out.size))
    clear hb2 x0 x1 x2
    cases p2
    · obtain ⟨x0, x1, x2, -, -, -⟩ := (HRB.out.base HC2.out h4a).facts
      go_wp2_with fail
      refine (sawake_any _ (HMX.out.below HB2.out)).mono ?_
      rintro e wz ⟨rfl, hbz⟩
      go_wp2_with fail
      go_ret
      exact ⟨rfl, HB2.out.trans (hbz.mono HB2.out.size)⟩
    · obtain ⟨x0, x1, x2, -, -, -⟩ := (HRB.out.base HC2.out h4a).facts
      obtain ⟨k0, k1, k2, -, -, -⟩ := (HGB.out.below (HC2.out)).facts
      by_cases h10 : 10 < lim.length
      · have h10' : (10 : Int) < (lim.length : Int) := by omega
        go_wp2_with fail
        refine (sawake_any _ (HMX.out.below HB2.out)).mono ?_
        rintro e wz ⟨rfl, hbz⟩
        go_wp2_with fail
        go_ret
        exact ⟨rfl, HB2.out.trans (hbz.mono HB2.out.size)⟩
      · have h10' : ¬ (10 : Int) < (lim.length : Int) := by omega
        have hone := one_gen (T := 32) HT.out ((Sl.ok RRdn.ok).below K4.out HB2.out) (fun k hk => hk)
        have HONE := hide (show Sl RGen 3 (w2.alloc (.cells #[.int .i64 g.1, .string t, .slice A g.2.2.length c] 32)) (Lt (w2.alloc (.cells #[.int .i64 g.1, .string t, .slice A g.2.2.length c] 32)).heap.size) [g] [.slice (some ⟨w2.heap.size, 0, none⟩) [g].length 1] from (Sl.ok RGen.ok).mono hone (fun _ _ => rfl) (fun k hk => by
          show k < _
          rw [World.size_alloc]
          rcases hk with hk | hk
          · have hk' : k < w2.heap.size := hk
            omega
          · omega))
        have hb23 : Below w2.heap.size w2 (w2.alloc (.cells #[.int .i64 g.1, .string t, .slice A g.2.2.length c] 32)) := (Below.refl _ _).alloc (Nat.le_refl _) _
        have HB3 := hide (HB2.out.trans (hb23.mono HB2.out.size))
        have HC3 := hide (HC2.out.trans (hb23.mono HC2.out.size))
        have SN := hide (show Calls Tryz.prog 9 #[.slice (some ⟨w2.heap.size, 0, none⟩) 1 1] (w2.alloc (.cells #[.int .i64 g.1, .string t, .slice A g.2.2.length c] 32)) _ from ShortNames_any [g] (some ⟨w2.heap.size, 0, none⟩) 1 p3 HP3.out _ HONE.out)
        clear hone hb23
        go_wp2_with fail
        refine SN.out.mono ?_
        rintro e w4 ⟨rfl, hb4⟩
        have HB4 := hide (HB3.out.trans (hb4.mono HB3.out.size))
        have HC4 := hide (HC3.out.trans (hb4.mono HC3.out.size))
        clear hb4 x0 x1 x2 k0 k1 k2 SN HONE
        cases p3
        · go_wp2_with fail
          refine (sawake_any _ (HMX.out.below HB4.out)).mono ?_
          rintro e wz ⟨rfl, hbz⟩
          go_wp2_with fail
          go_ret
          exact ⟨rfl, HB4.out.trans (hbz.mono HB4.out.size)⟩
        · have hsp := shortGs_small HP1.out
          have hsx := shortGs_small HP2.out
          have hsg : SmallG g := shortGs_small HP3.out g (by simp)
          have HSP := hide hsp
          have HSX := hide hsx
          have HSG := hide hsg
          clear hsp hsx hsg
          go_wp2_with fail
          refine (New_any l A0 n0 c0 _ ((Sl.ok RInt.ok).below K0.out HB4.out)).mono ?_
          rintro e w3 ⟨rfl, hdk3, hb3⟩
          obtain ⟨d, hd⟩ : ∃ d, d = w4.heap.size := ⟨_, rfl⟩
          rw [← hd] at hdk3 ⊢
          have h4d : g4 < d := by have := HC4.out.size; omega
          have h5d : g5 < d := by have := HC4.out.size; omega
          have hwd : w.heap.size ≤ d := by rw [hd]; exact HB4.out.size
          have HB3 := hide (HB4.out.trans (hb3.mono HB4.out.size))
          have HC3 := hide (HC4.out.trans (hb3.mono HC4.out.size))
          have HDK3 := hide hdk3
          clear hb3 hdk3 hd
          go_wp2_with fail
          refine (state_any d _ HDK3.out).mono ?_
          rintro e w6 ⟨st, As, cs, hgst, rfl, hsl6, hdk6, hex6⟩
          have hd3 := HDK3.out.lt
          have hs6 := hex6.size
          obtain ⟨w5, hw5⟩ : ∃ w5, w5 = w6.alloc (.cells #[.slice As st.length cs] 24) := ⟨_, rfl⟩
          obtain ⟨g8, hg8⟩ : ∃ g, g = w6.heap.size := ⟨_, rfl⟩
          have ht8 : TB g8 (.slice As st.length cs) w5 := by rw [hw5, hg8]; exact heap_alloc_new w6 _
          have HT8 := hide ht8
          have KS := hide (show Sl RSub 2 w5 (fun k => k < g8 ∧ k ≠ d) st [.slice As st.length cs] from (Sl.ok RSub.ok).mono hsl6 (fun k hk => by rw [hw5]; exact Below.heap_alloc _ _ k hk.2) (fun k hk => ⟨by have := hk.2; omega, by have := hk.1; omega⟩))
          have HDK5 := hide (show DeckAt w5 d by rw [hw5]; exact hdk6.alloc _)
          have HEX5 := hide (show Ex d w3 w5 by rw [hw5]; exact hex6.alloc _)
          have HGST := hide hgst
          have hd8 : d < g8 := by omega
          have hg85 : g8 < w5.heap.size := by rw [hw5, hg8]; simp
          have HW5 := hide hw5
          have HG8 := hide hg8
          obtain ⟨a8, -⟩ := ht8.facts
          have hb5w : Below w.heap.size w w5 := Ex.below HB3.out HB3.out.size hwd HEX5.out
          have HB5 := hide hb5w
          have KS5 := hide (show Sl RSub 2 w5 (Lt w5.heap.size) st [.slice As st.length cs] from (Sl.ok RSub.ok).mono KS.out (fun _ _ => rfl) (fun k hk => Nat.lt_trans hk.1 hg85))
          have RED := hide (fun W (hb : Below w5.heap.size w5 W) => Reduce_any st As cs W (HMX.out.below (hb5w.trans (hb.mono hb5w.size))) hgst ((Sl.ok RSub.ok).below KS5.out hb))
          have RRD := hide (fun W (hb : Below w5.heap.size w5 W) => rReduce_any st As cs (fun k => k < w5.heap.size ∧ k ≠ d) W (fun k hk => Nat.lt_of_lt_of_le hk.1 hb.size) (HMX.out.below (hb5w.trans (hb.mono hb5w.size))) hgst ((Sl.ok RSub.ok).mono KS.out (fun k hk => hb.block k (Nat.lt_trans hk.1 hg85)) (fun k hk => ⟨Nat.lt_trans hk.1 hg85, hk.2⟩)))
          clear hgst hsl6 hdk6 hex6 hw5 hg8 ht8 hs6 hb5w
          go_upto_region 5 with (fail)
          rw [← HW5.out, ← HG8.out]
          obtain ⟨w0, rfl⟩ : ∃ w0 : World, w0 = w5 := ⟨_, rfl⟩
          have hdk : d < w0.heap.size := by omega
          refine region_inv [41, 42, 43, 44, 9, 10] (RJ st d (.agg #[.slice As st.length cs]) w0) (by kernel_rfl) (by kernel_rfl) (fun val => RJ.start val) ⟨?_, ?_, ?_, ?_, ?_, ?_, ?_, ?_, trivial⟩ ?_
          · refine ⟨fun s hs => by cases hs <;> decide, ?_⟩
            rintro dd val W hJ hd hdep K hK
            rw [if_pos (by rfl)]
            dsimp only [putF, List.foldl, Act.put] at hK ⊢
            simp only [List.setIfInBounds_toArray, List.set_cons_zero, List.set_cons_succ] at hK ⊢
            have a8' : W.cell? ⟨g8, 0, none⟩ = some (.slice As st.length cs) := (hJ.base.cell (p := ⟨g8, 0, none⟩) hg85).trans a8
            go_simp
            exact hK.out _ _ { base := hJ.base, l0 := fun _ => rfl, l2 := hJ.l2, r1 := hJ.r1, r3 := hJ.r3, a4 := hJ.a4, a5 := hJ.a5, ne := hJ.ne, o6 := hJ.o6, o7 := hJ.o7 }
          · refine ⟨fun s hs => by cases hs <;> decide, ?_⟩
            rintro dd val W hJ hd hdep K hK
            rw [if_pos (by rfl)]
            dsimp only [putF, List.foldl, Act.put] at hK ⊢
            simp only [List.setIfInBounds_toArray, List.set_cons_zero, List.set_cons_succ] at hK ⊢
            have e41 := hJ.l0 (hdep ⟨0, .data⟩ (by simp) rfl)
            simp only [e41] at hK ⊢
            go_simp
            refine (RED.out W hJ.base).mono ?_
            rintro e W6 ⟨L, P, X, cl, cp, cx, rfl, q1, q2, q3, hb6⟩
            have hJ6 := hJ.grow hb6
            go_wp2_with fail
            exact hK.out _ _ { base := hJ6.base, l0 := hJ.l0, l2 := hJ.l2, r1 := fun _ => hJ.res hb6.size (btw_up RInt.ok q1) (btw_up RGen.ok q2) (btw_up RGen.ok q3) hdk (fun k hv => hv), r3 := hJ6.r3, a4 := fun h => (let ⟨g, u0, u1, u2, y1, y2, y3, _⟩ := hJ6.a4 h; ⟨g, u0, u1, u2, y1, y2, y3, fun h6 => absurd (hJ.o6 h6).1 (by rw [hd]; decide)⟩), a5 := hJ6.a5, ne := hJ.ne, o6 := fun h6 => absurd (hJ.o6 h6).1 (by rw [hd]; decide), o7 := hJ.o7 }
          · refine ⟨fun s hs => by cases hs <;> decide, ?_⟩
            rintro dd val W hJ hd hdep K hK
            rw [if_pos (by rfl)]
            dsimp only [putF, List.foldl, Act.put] at hK ⊢
            simp only [List.setIfInBounds_toArray, List.set_cons_zero, List.set_cons_succ] at hK ⊢
            have a8' : W.cell? ⟨g8, 0, none⟩ = some (.slice As st.length cs) := (hJ.base.cell (p := ⟨g8, 0, none⟩) hg85).trans a8
            go_simp
            exact hK.out _ _ { base := hJ.base, l0 := hJ.l0, l2 := fun _ => rfl, r1 := hJ.r1, r3 := hJ.r3, a4 := hJ.a4, a5 := hJ.a5, ne := hJ.ne, o6 := hJ.o6, o7 := hJ.o7 }
          · refine ⟨fun s hs => by cases hs <;> decide, ?_⟩
            rintro dd val W hJ hd hdep K hK
            rw [if_pos (by rfl)]
            dsimp only [putF, List.foldl, Act.put] at hK ⊢
            simp only [List.setIfInBounds_toArray, List.set_cons_zero, List.set_cons_succ] at hK ⊢
            have e43 := hJ.l2 (hdep ⟨2, .data⟩ (by simp) rfl)
            simp only [e43] at hK ⊢
            go_simp
            refine (RRD.out W hJ.base).mono ?_
            rintro e W6 ⟨L, P, X, cl, cp, cx, rfl, q1, q2, q3, hb6⟩
            have hJ6 := hJ.grow hb6
            go_wp2_with fail
            exact hK.out _ _ { base := hJ6.base, l0 := hJ.l0, l2 := hJ.l2, r1 := hJ6.r1, r3 := fun _ => hJ.res hb6.size q1 q2 q3 hdk (fun k hv => hv), a4 := hJ6.a4, a5 := fun h => (let ⟨g, u0, u1, u2, y1, y2, y3, _⟩ := hJ6.a5 h; ⟨g, u0, u1, u2, y1, y2, y3, fun h7 => absurd (hJ.o7 h7).1 (by rw [hd]; decide)⟩), ne := hJ.ne, o6 := hJ.o6, o7 := fun h7 => absurd (hJ.o7 h7).1 (by rw [hd]; decide) }
          · refine ⟨fun s hs => by cases hs <;> decide, ?_⟩
            rintro dd val W hJ hd hdep K hK
            rw [if_pos (by rfl)]
            dsimp only [putF, List.foldl, Act.put] at hK ⊢
            simp only [List.setIfInBounds_toArray, List.set_cons_zero, List.set_cons_succ] at hK ⊢
            go_simp
            have hb : Below W.heap.size W (W.alloc (.cells #[.slice none 0 0, .slice none 0 0, .slice none 0 0] 53)) := (Below.refl _ _).alloc (Nat.le_refl _) _
            have hJ6 := hJ.grow hb
            have hne9 : dd 4 = true ∨ True → dd 5 = true → Value.pointer (some ⟨W.heap.size, 0, none⟩) ≠ val 10 := fun _ h5 => by
              obtain ⟨g, u0, u1, u2, y1, y2, y3, -⟩ := hJ.a5 h5
              rw [y1]
              exact ptr_ne (by have := y3.lt; omega)
            have hvv : ∀ k, k < W.heap.size → VarB (don dd 4) (setv val (some 9) (.pointer (some ⟨W.heap.size, 0, none⟩))) k → VarB dd val k := fun k hk hv => by
              rcases hv with ⟨_, hv⟩ | hv
              · exact absurd hv (ptr_ne (by omega))
              · exact .inr hv
            exact hK.out _ _ { base := hJ6.base, l0 := hJ.l0, l2 := hJ.l2, r1 := fun h => (hJ.r1 h).keep hb.size (fun k hk _ => hb.block k hk) hvv, r3 := fun h => (hJ.r3 h).keep hb.size (fun k hk _ => hb.block k hk) hvv, a4 := fun _ => ⟨W.heap.size, _, _, _, rfl, hJ.base.size, RB.of_alloc, fun h6 => absurd (hJ.o6 h6).2 (by rw [hd]; decide)⟩, a5 := hJ6.a5, ne := fun _ h5 => hne9 (.inr trivial) h5, o6 := fun h6 => absurd (hJ.o6 h6).2 (by rw [hd]; decide), o7 := hJ.o7 }
          · refine ⟨fun s hs => by cases hs <;> decide, ?_⟩
            rintro dd val W hJ hd hdep K hK
            rw [if_pos (by rfl)]
            dsimp only [putF, List.foldl, Act.put] at hK ⊢
            simp only [List.setIfInBounds_toArray, List.set_cons_zero, List.set_cons_succ] at hK ⊢
            go_simp
            have hb : Below W.heap.size W (W.alloc (.cells #[.slice none 0 0, .slice none 0 0, .slice none 0 0] 53)) := (Below.refl _ _).alloc (Nat.le_refl _) _
            have hJ6 := hJ.grow hb
            have hne9 : dd 4 = true → val 9 ≠ Value.pointer (some ⟨W.heap.size, 0, none⟩) := fun h4 => by
              obtain ⟨g, u0, u1, u2, y1, y2, y3, -⟩ := hJ.a4 h4
              rw [y1]
              exact ptr_ne (by have := y3.lt; omega)
            have hvv : ∀ k, k < W.heap.size → VarB (don dd 5) (setv val (some 10) (.pointer (some ⟨W.heap.size, 0, none⟩))) k → VarB dd val k := fun k hk hv => by
              rcases hv with hv | ⟨_, hv⟩
              · exact .inl hv
              · exact absurd hv (ptr_ne (by omega))
            exact hK.out _ _ { base := hJ6.base, l0 := hJ.l0, l2 := hJ.l2, r1 := fun h => (hJ.r1 h).keep hb.size (fun k hk _ => hb.block k hk) hvv, r3 := fun h => (hJ.r3 h).keep hb.size (fun k hk _ => hb.block k hk) hvv, a5 := fun _ => ⟨W.heap.size, _, _, _, rfl, hJ.base.size, RB.of_alloc, fun h7 => absurd (hJ.o7 h7).2 (by rw [hd]; decide)⟩, a4 := hJ6.a4, ne := fun h4 _ => hne9 h4, o7 := fun h7 => absurd (hJ.o7 h7).2 (by rw [hd]; decide), o6 := hJ.o6 }
          · refine ⟨fun s hs => by cases hs <;> decide, ?_⟩
            rintro dd val W hJ hd hdep K hK
            rw [if_pos (by rfl)]
            dsimp only [putF, List.foldl, Act.put] at hK ⊢
            simp only [List.setIfInBounds_toArray, List.set_cons_zero, List.set_cons_succ] at hK ⊢
            have D4 := hdep ⟨4, .data⟩ (by simp) rfl
            have D1 := hdep ⟨1, .data⟩ (by simp) rfl
            obtain ⟨g9, u0, u1, u2, e9, y2, y3, -⟩ := hJ.a4 D4
            obtain ⟨L, P, X, cl, cp, cx, S, e42, -⟩ := hJ.r1 D1
            have hoff := fun k (hk : k ≠ g9) => set3_off (g := g9) (k := k) (W := W) (.slice L (redLim st).length cl) (.slice P (redPer st (redLim st)).length cp) (.slice X (redEx st).length cx) hk
            have hst := y3.store3 (.slice L (redLim st).length cl) (.slice P (redPer st (redLim st)).length cp) (.slice X (redEx st).length cx)
            have hbf := ((hJ.base.setCell (p := ⟨g9, 0, none⟩) y2 (.slice L (redLim st).length cl)).setCell (p := ⟨g9, 1, none⟩) y2 (.slice P (redPer st (redLim st)).length cp)).setCell (p := ⟨g9, 2, none⟩) y2 (.slice X (redEx st).length cx)
            have hsz : (((W.setCell ⟨g9, 0, none⟩ (.slice L (redLim st).length cl)).setCell ⟨g9, 1, none⟩ (.slice P (redPer st (redLim st)).length cp)).setCell ⟨g9, 2, none⟩ (.slice X (redEx st).length cx)).heap.size = W.heap.size := by simp
            obtain ⟨f0, f1, f2, f3, f4, f5⟩ := y3.facts
            simp only [e9, e42] at hK ⊢
            go_simp
            have hv9 : VarB dd val g9 := .inl ⟨D4, e9⟩
            have ha5 : dd 5 = true → ∃ (g : Nat) (u0 u1 u2 : Value), val 10 = .pointer (some ⟨g, 0, none⟩) ∧ w0.heap.size ≤ g ∧ RB g u0 u1 u2 _ ∧ (dd 7 = true → val 44 = .agg #[u0, u1, u2]) := fun h5 => by
              obtain ⟨g10, r0, r1, r2, z1, z2, z3, z4⟩ := hJ.a5 h5
              exact ⟨g10, r0, r1, r2, z1, z2, (hoff g10 (fun e => hJ.ne D4 h5 (by rw [e9, z1, e]))).trans z3, z4⟩
            exact hK.out undef _ { base := hbf, l0 := hJ.l0, l2 := hJ.l2, r1 := fun h => (hJ.r1 h).keep (Nat.le_of_eq hsz.symm) (fun k hk hn => hoff k (fun e => hn (e ▸ hv9))) (fun k hk hv => hv), r3 := fun h => (hJ.r3 h).keep (Nat.le_of_eq hsz.symm) (fun k hk hn => hoff k (fun e => hn (e ▸ hv9))) (fun k hk hv => hv), a4 := fun _ => ⟨g9, _, _, _, e9, y2, hst, fun _ => e42⟩, a5 := ha5, ne := hJ.ne, o6 := fun _ => ⟨D1, D4⟩, o7 := hJ.o7 }
          · refine ⟨fun s hs => by cases hs <;> decide, ?_⟩
            rintro dd val W hJ hd hdep K hK
            rw [if_pos (by rfl)]
            dsimp only [putF, List.foldl, Act.put] at hK ⊢
            simp only [List.setIfInBounds_toArray, List.set_cons_zero, List.set_cons_succ] at hK ⊢
            have D5 := hdep ⟨5, .data⟩ (by simp) rfl
            have D3 := hdep ⟨3, .data⟩ (by simp) rfl
            obtain ⟨g10, u0, u1, u2, e10, y2, y3, -⟩ := hJ.a5 D5
            obtain ⟨L, P, X, cl, cp, cx, S, e44, -⟩ := hJ.r3 D3
            have hoff := fun k (hk : k ≠ g10) => set3_off (g := g10) (k := k) (W := W) (.slice L (redLim st).length cl) (.slice P (redPer st (redLim st)).length cp) (.slice X (redEx st).length cx) hk
            have hst := y3.store3 (.slice L (redLim st).length cl) (.slice P (redPer st (redLim st)).length cp) (.slice X (redEx st).length cx)
            have hbf := ((hJ.base.setCell (p := ⟨g10, 0, none⟩) y2 (.slice L (redLim st).length cl)).setCell (p := ⟨g10, 1, none⟩) y2 (.slice P (redPer st (redLim st)).length cp)).setCell (p := ⟨g10, 2, none⟩) y2 (.slice X (redEx st).length cx)
            have hsz : (((W.setCell ⟨g10, 0, none⟩ (.slice L (redLim st).length cl)).setCell ⟨g10, 1, none⟩ (.slice P (redPer st (redLim st)).length cp)).setCell ⟨g10, 2, none⟩ (.slice X (redEx st).length cx)).heap.size = W.heap.size := by simp
            obtain ⟨f0, f1, f2, f3, f4, f5⟩ := y3.facts
            simp only [e10, e44] at hK ⊢
            go_simp
            have hv9 : VarB dd val g10 := .inr ⟨D5, e10⟩
            have ha4 : dd 4 = true → ∃ (g : Nat) (u0 u1 u2 : Value), val 9 = .pointer (some ⟨g, 0, none⟩) ∧ w0.heap.size ≤ g ∧ RB g u0 u1 u2 _ ∧ (dd 6 = true → val 42 = .agg #[u0, u1, u2]) := fun h4 => by
              obtain ⟨g9, r0, r1, r2, z1, z2, z3, z4⟩ := hJ.a4 h4
              exact ⟨g9, r0, r1, r2, z1, z2, (hoff g9 (fun e => hJ.ne h4 D5 (by rw [e10, z1, e]))).trans z3, z4⟩
            exact hK.out undef _ { base := hbf, l0 := hJ.l0, l2 := hJ.l2, r1 := fun h => (hJ.r1 h).keep (Nat.le_of_eq hsz.symm) (fun k hk hn => hoff k (fun e => hn (e ▸ hv9))) (fun k hk hv => hv), r3 := fun h => (hJ.r3 h).keep (Nat.le_of_eq hsz.symm) (fun k hk hn => hoff k (fun e => hn (e ▸ hv9))) (fun k hk hv => hv), a5 := fun _ => ⟨g10, _, _, _, e10, y2, hst, fun _ => e44⟩, a4 := ha4, ne := hJ.ne, o7 := fun _ => ⟨D3, D5⟩, o6 := hJ.o6 }
          · rintro dd val W hall hJ
            obtain ⟨g9, a0, a1, a2, e9, hg9, hr9, hv9⟩ := hJ.a4 (hall 4 (by decide))
            obtain ⟨g10, b0, b1, b2, e10, hg10, hr10, hv10⟩ := hJ.a5 (hall 5 (by decide))
            have hne := hJ.ne (hall 4 (by decide)) (hall 5 (by decide))
            obtain ⟨L1, P1, X1, cl1, cp1, cx1, S1, e42, hS1, m1, m2, m3⟩ := hJ.r1 (hall 1 (by decide))
            obtain ⟨L2, P2, X2, cl2, cp2, cx2, S2, e44, hS2, n1, n2, n3⟩ := hJ.r3 (hall 3 (by decide))
            have e9v := hv9 (hall 6 (by decide))
            have e10v := hv10 (hall 7 (by decide))
            rw [e42] at e9v
            rw [e44] at e10v
            simp only [Value.agg.injEq, Array.mk.injEq, List.cons.injEq, and_true] at e9v e10v
            obtain ⟨rfl, rfl, rfl⟩ := e9v
            obtain ⟨rfl, rfl, rfl⟩ := e10v
            rw [e9, e10] at hne
            dsimp only [putF, List.foldl, Act.put]
            simp only [List.setIfInBounds_toArray, List.set_cons_zero, List.set_cons_succ, e9, e10]
            have hoffc : ∀ k, k < w0.heap.size → W.heap[k]? = w0.heap[k]? := fun k hk => hJ.base.block k hk
            have HBW := hide (HB5.out.trans (hJ.base.mono HB5.out.size))
            have HDK7 := hide (HDK5.out.below hJ.base)
            have hb35 : Ex d w3 W := HEX5.out.then_ hJ.base
            have HRW := hide (show RB g4 (.slice B1 lim.length d1) (.slice B2 per.length d2) (.slice B3 ex.length d3) W from (hb35.at_ (by have := HC3.out.size; omega) (by omega)).trans (HRB.out.base HC3.out h4a))
            have HGW := hide (show GB g5 g.1 t (.slice A g.2.2.length c) W from (hb35.at_ (by have := HC3.out.size; omega) (by omega)).trans (HGB.out.below HC3.out))
            have HR9 := hide hr9
            have HR10 := hide hr10
            have hsz0 := hJ.base.size
            have hd0 := HDK5.out.lt
            have d9 : d < g9 := by omega
            have d10 : d < g10 := by omega
            have M1 := hide (show Sl RInt 1 W (Nd d W.heap.size) (redLim st) [.slice L1 (redLim st).length cl1] from (Sl.ok RInt.ok).mono m1 (fun _ _ => rfl) (fun k hk => ⟨(hS1 k hk).1, (hS1 k hk).2.2⟩))
            have M2 := hide (show Sl RGen 3 W (Nd d W.heap.size) (redPer st (redLim st)) [.slice P1 (redPer st (redLim st)).length cp1] from (Sl.ok RGen.ok).mono m2 (fun _ _ => rfl) (fun k hk => ⟨(hS1 k hk).1, (hS1 k hk).2.2⟩))
            have M3 := hide (show Sl RGen 3 W (Nd d W.heap.size) (redEx st) [.slice X1 (redEx st).length cx1] from (Sl.ok RGen.ok).mono m3 (fun _ _ => rfl) (fun k hk => ⟨(hS1 k hk).1, (hS1 k hk).2.2⟩))
            have N1 := hide (show Sl RInt 1 W (Nd d W.heap.size) (redLim st) [.slice L2 (redLim st).length cl2] from (Sl.ok RInt.ok).mono n1 (fun _ _ => rfl) (fun k hk => ⟨(hS2 k hk).1, (hS2 k hk).2.2⟩))
            have N2 := hide (show Sl RGen 3 W (Nd d W.heap.size) (redPer st (redLim st)) [.slice P2 (redPer st (redLim st)).length cp2] from (Sl.ok RGen.ok).mono n2 (fun _ _ => rfl) (fun k hk => ⟨(hS2 k hk).1, (hS2 k hk).2.2⟩))
            have N3 := hide (show Sl RGen 3 W (Nd d W.heap.size) (redEx st) [.slice X2 (redEx st).length cx2] from (Sl.ok RGen.ok).mono n3 (fun _ _ => rfl) (fun k hk => ⟨(hS2 k hk).1, (hS2 k hk).2.2⟩))
            have hgs1 : ∀ s ∈ st, s.1.length ≤ 4 ∧ GoodBs s.1 := GoodSub.bs HGST.out
            have hpg := perLim_good hgs1 (redLim st) [] (fun b hb => by cases hb)
            have hxg := exAll_both st [] (fun b hb => by cases hb) (fun s hs => ⟨(HGST.out.2 s hs).2.1, (HGST.out.2 s hs).2.2.2⟩)
            have HSP1 := hide (show SmallGs (redPer st (redLim st)) from GoodBs.small hpg.1)
            have HSX1 := hide (show SmallGs (redEx st) from GoodBs.small hxg.1)
            obtain ⟨lm, hlm⟩ : ∃ x, redLim st = x := ⟨_, rfl⟩
            rw [hlm] at M1 M2 N1 N2 HR9 HR10 HSP1
            obtain ⟨pm, hpm⟩ : ∃ x, redPer st lm = x := ⟨_, rfl⟩
            rw [hpm] at M2 N2 HR9 HR10 HSP1
            obtain ⟨xm, hxm⟩ : ∃ x, redEx st = x := ⟨_, rfl⟩
            rw [hxm] at M3 N3 HR9 HR10 HSX1
            generalize val 41 = v41
            generalize val 42 = v42
            generalize val 43 = v43
            generalize val 44 = v44
            clear hlm hpm hxm hpg hxg hgs1 m1 m2 m3 n1 n2 n3 hS1 hS2 e42 e44 hr9 hr10 hJ hall hoffc hb35 e9 e10 hv9 hv10 a8 S1 S2
            obtain ⟨s0, s1, s2, -, -, -⟩ := HR9.out.facts
            obtain ⟨r0, r1, r2, -, -, -⟩ := HR10.out.facts
            have t0 : ((lm.length : Int) != (lm.length : Int)) = false := by simp
            go_wp2_with fail
            refine (ExactGs_same pm P1 P2 cp1 cp2 _ ((Sl.ok RGen.ok).lt M2.out) ((Sl.ok RGen.ok).lt N2.out)).mono ?_
            rintro e wb ⟨rfl, hbb⟩
            have HC := hide hbb
            have s2 := cell_grows hbb _ _ s2
            have r2 := cell_grows hbb _ _ r2
            clear hbb s0 s1 r0 r1
            go_wp2_with fail
            refine (ExactGs_same xm X1 X2 cx1 cx2 _ ((Sl.ok RGen.ok).below ((Sl.ok RGen.ok).lt M3.out) HC.out) ((Sl.ok RGen.ok).below ((Sl.ok RGen.ok).lt N3.out) HC.out)).mono ?_
            rintro e wc ⟨rfl, hbc⟩
            have HD := hide (HC.out.trans (hbc.mono HC.out.size))
            obtain ⟨s0, -⟩ := (HR9.out.base HD.out HR9.out.lt).facts
            obtain ⟨r0, -⟩ := (HR10.out.base HD.out HR10.out.lt).facts
            clear hbc s2 r2 t0
            go_wp2_with fail
            clear s0 r0
            go_loopw [71] (fun i wr => ∃ k : Nat, k ≤ lm.length ∧ i = .int .i64 k ∧ Below wc.heap.size wc wr) (fun i _ => lm.length - (intOf i).toNat)
            case atStart => exact ⟨0, Nat.zero_le _, rfl, Below.refl _ _⟩
            case round =>
              obtain ⟨k, hk, rfl, hb⟩ := hrel
              have hbW := HD.out.trans (hb.mono HD.out.size)
              by_cases hlt : k < lm.length
              · obtain ⟨i1, o1, hA1, hi1, y1⟩ := M1.out.intAt hlt
                obtain ⟨i2, o2, hA2, hi2, y2⟩ := N1.out.intAt hlt
                subst hA1 hA2
                have hi1' : i1 < W.heap.size := hi1.1
                have hi2' : i2 < W.heap.size := hi2.1
                obtain ⟨kk, hkk⟩ : ∃ kk, lm[k] = kk := ⟨_, rfl⟩
                rw [hkk] at y1 y2
                have z1 := (hbW.cell (p := ⟨i1, o1 + k, none⟩) hi1').trans y1
                have z2 := (hbW.cell (p := ⟨i2, o2 + k, none⟩) hi2').trans y2
                obtain ⟨s0, -⟩ := (HR9.out.base hbW HR9.out.lt).facts
                obtain ⟨r0, -⟩ := (HR10.out.base hbW HR10.out.lt).facts
                have t1 : (kk != kk) = false := by simp
                have hk0 : (0 : Int) ≤ (k : Int) := by omega
                have hkl : (k : Int) < (lm.length : Int) := by omega
                obtain ⟨hm1, hm1'⟩ := M1.out.len_.2
                obtain ⟨hm2, hm2'⟩ := N1.out.len_.2
                unfold maxLen at hm1' hm2'
                have HBL := hide hb
                have HLT := hide hlt
                clear y1 y2 hkk hb hbW hi1 hi2 hi1' hi2'
                go_wp2_with fail
                go_quiet (fail)
                go_wp2_with fail
                go_roundw
                case rel => exact ⟨k + 1, HLT.out, by go_num, below_drewN HBL.out _⟩
                case measure => (have := HLT.out; simp [intOf]; omega)
              · have HBQ := hide hbW
                have HBQ0 := hide (HBW.out.trans (hbW.mono HBW.out.size))
                obtain ⟨k0, k1, k2, -, -, -⟩ := (HGW.out.below hbW).facts
                have k0d : wr.drew.cell? ⟨g5, 0, none⟩ = some (.int .i64 g.1) := k0
                have k1d : wr.drew.cell? ⟨g5, 1, none⟩ = some (.string t) := k1
                have k2d : wr.drew.cell? ⟨g5, 2, none⟩ = some (.slice A g.2.2.length c) := k2
                have hdkd : DeckAt wr.drew d := (HDK7.out.below hbW).drewN 1
                have h5r : g5 < wr.heap.size := World.block_lt_of_cell? wr ⟨g5, 0, none⟩ k0
                have hg5d : g5 ≠ d := by omega
                clear hb hbW
                have HDL := hide (show d < wr.drew.heap.size from hdkd.lt)
                go_upto_region 14 with (fail)
                go_region_held3 (fun W => W.cell? ⟨g5, 0, none⟩ = some (.int .i64 g.1) ∧ W.cell? ⟨g5, 1, none⟩ = some (.string t) ∧ W.cell? ⟨g5, 2, none⟩ = some (.slice A g.2.2.length c))
                  (first | exact ⟨ha1 _, ha2 _, ha3 _⟩ | exact ⟨hs1, hs2, hs3⟩ | exact ⟨k0, k1, k2⟩ | exact ⟨k0d, k1d, k2d⟩)
                  (first
                    | (go_at_call 16; refine (General_any d wr.drew hdkd).mono ?_; rintro e wA ⟨ga, ta, Aa, ca, hga, hta, rfl, hsla, hdkA, hexA⟩; have hs1 := (hexA.cell (p := ⟨g5, 0, none⟩) h5r hg5d).trans k0d; have hs2 := (hexA.cell (p := ⟨g5, 1, none⟩) h5r hg5d).trans k1d; have hs3 := (hexA.cell (p := ⟨g5, 2, none⟩) h5r hg5d).trans k2d)
                    | (go_at_call 17; refine (Base_any d wA hdkA).mono ?_; rintro e wB ⟨gb, tb, Ab, cb, hgb, htb, rfl, hslb, hdkB, hexB⟩; have hz5 := World.block_lt_of_cell? wA ⟨g5, 0, none⟩ hs1; have hs1 := (hexB.cell (p := ⟨g5, 0, none⟩) hz5 hg5d).trans hs1; have hs2 := (hexB.cell (p := ⟨g5, 1, none⟩) hz5 hg5d).trans hs2; have hs3 := (hexB.cell (p := ⟨g5, 2, none⟩) hz5 hg5d).trans hs3; have hz6 := World.block_lt_of_cell? wB ⟨g5, 0, none⟩ hs1; have ha1 := fun ob => (World.cell?_alloc_lt wB ob ⟨g5, 0, none⟩ hz6).trans hs1; have ha2 := fun ob => (World.cell?_alloc_lt wB ob ⟨g5, 1, none⟩ hz6).trans hs2; have ha3 := fun ob => (World.cell?_alloc_lt wB ob ⟨g5, 2, none⟩ hz6).trans hs3)
                    | fail)
                have hdB := hdkB.lt
                have hgS : SmallG ga := hga.small
                have hgB : SmallG gb := hgb.small
                have hexr : Ex d wr wB := (Ex.refl d wr).drew.trans (hexA.trans hexB)
                have hbrB : Below w.heap.size w wB := Ex.below HBQ0.out HBQ0.out.size hwd hexr
                have hk1 : Sl RRdn 1 wB (Nd d wB.heap.size) g.2.2 [.slice A g.2.2.length c] := (Sl.ok RRdn.ok).mono K4.out (fun k hk => hbrB.block k hk) (fun k hk => ⟨Nat.lt_of_lt_of_le hk hbrB.size, by have hk' : k < w.heap.size := hk; omega⟩)
                have hk2 : Sl RRdn 1 wB (Nd d wB.heap.size) ga.2.2 [.slice Aa ga.2.2.length ca] := (Sl.ok RRdn.ok).mono hsla (fun k hk => hexB.at_ hk.2 (by have := hk.1; have := HDL.out; omega)) (fun k hk => ⟨by have := hk.2; have := hexB.size; omega, by have := hk.1; have := HDL.out; omega⟩)
                have hk3 : Sl RRdn 1 wB (Nd d wB.heap.size) gb.2.2 [.slice Ab gb.2.2.length cb] := (Sl.ok RRdn.ok).mono hslb (fun _ _ => rfl) (fun k hk => ⟨hk.2, by have := hk.1; have := hdkA.lt; omega⟩)
                have hthree := three_gens (T := 32) HT.out hta htb hk1 hk2 hk3 (fun k hk => hk.1)
                obtain ⟨wD, hwD⟩ : ∃ wD, wD = wB.alloc (.cells #[.int .i64 g.1, .string t, .slice A g.2.2.length c, .int .i64 ga.1, .string ta, .slice Aa ga.2.2.length ca, .int .i64 gb.1, .string tb, .slice Ab gb.2.2.length cb] 32) := ⟨_, rfl⟩
                rw [← hwD] at hthree
                try rw [← hwD]
                obtain ⟨gS, hgS9⟩ : ∃ gS, gS = wB.heap.size := ⟨_, rfl⟩
                rw [← hgS9] at hthree
                try rw [← hgS9]
                have hszD : wD.heap.size = wB.heap.size + 1 := by rw [hwD]; simp
                have H3 := hide (show Sl RGen 3 wD (Lt wD.heap.size) [g, ga, gb] [.slice (some ⟨gS, 0, none⟩) [g, ga, gb].length 3] from (Sl.ok RGen.ok).mono hthree (fun _ _ => rfl) (fun k hk => by
                  rcases hk with hk | hk
                  · have := hk.1; show k < _; omega
                  · show k < _; omega))
                have hexD : Ex d wr wD := by rw [hwD]; exact hexr.alloc _
                have HBD := hide (Ex.below HBQ0.out HBQ0.out.size hwd hexD)
                have hrd : ∀ b, b < W.heap.size → b ≠ d → wD.heap[b]? = W.heap[b]? := fun b hb hbd => (hexD.at_ (by have := HBQ.out.size; omega) hbd).trans (HBQ.out.block b hb)
                have hx3 : ∀ x ∈ [g, ga, gb], SmallG x := fun x hx => by
                  simp only [List.mem_cons, List.not_mem_nil, or_false] at hx
                  rcases hx with rfl | rfl | rfl
                  · exact HSG.out
                  · exact hgS
                  · exact hgB
                have HX3 := hide hx3
                have HW4 := hide (show RB g4 (.slice B1 lim.length d1) (.slice B2 per.length d2) (.slice B3 ex.length d3) wD from (hrd g4 HRW.out.lt (by omega)).trans HRW.out)
                have HW9 := hide (show RB g9 (.slice L1 lm.length cl1) (.slice P1 pm.length cp1) (.slice X1 xm.length cx1) wD from (hrd g9 HR9.out.lt (by omega)).trans HR9.out)
                have HW10 := hide (show RB g10 (.slice L2 lm.length cl2) (.slice P2 pm.length cp2) (.slice X2 xm.length cx2) wD from (hrd g10 HR10.out.lt (by omega)).trans HR10.out)
                have QM1 := hide (show Sl RInt 1 wD (Lt wD.heap.size) lm [.slice L1 lm.length cl1] from (Sl.ok RInt.ok).mono M1.out (fun k hk => hrd k hk.1 hk.2) (fun k hk => Nat.lt_of_lt_of_le hk.1 (Nat.le_trans HBQ.out.size hexD.size)))
                have QM2 := hide (show Sl RGen 3 wD (Lt wD.heap.size) pm [.slice P1 pm.length cp1] from (Sl.ok RGen.ok).mono M2.out (fun k hk => hrd k hk.1 hk.2) (fun k hk => Nat.lt_of_lt_of_le hk.1 (Nat.le_trans HBQ.out.size hexD.size)))
                have QM3 := hide (show Sl RGen 3 wD (Lt wD.heap.size) xm [.slice X1 xm.length cx1] from (Sl.ok RGen.ok).mono M3.out (fun k hk => hrd k hk.1 hk.2) (fun k hk => Nat.lt_of_lt_of_le hk.1 (Nat.le_trans HBQ.out.size hexD.size)))
                have QN1 := hide (show Sl RInt 1 wD (Lt wD.heap.size) lm [.slice L2 lm.length cl2] from (Sl.ok RInt.ok).mono N1.out (fun k hk => hrd k hk.1 hk.2) (fun k hk => Nat.lt_of_lt_of_le hk.1 (Nat.le_trans HBQ.out.size hexD.size)))
                have QN2 := hide (show Sl RGen 3 wD (Lt wD.heap.size) pm [.slice P2 pm.length cp2] from (Sl.ok RGen.ok).mono N2.out (fun k hk => hrd k hk.1 hk.2) (fun k hk => Nat.lt_of_lt_of_le hk.1 (Nat.le_trans HBQ.out.size hexD.size)))
                have QN3 := hide (show Sl RGen 3 wD (Lt wD.heap.size) xm [.slice X2 xm.length cx2] from (Sl.ok RGen.ok).mono N3.out (fun k hk => hrd k hk.1 hk.2) (fun k hk => Nat.lt_of_lt_of_le hk.1 (Nat.le_trans HBQ.out.size hexD.size)))
                clear hdB hgS hgB hexr hbrB hk1 hk2 hk3 hthree hwD hgS9 hszD hexD hrd hx3 hs1 hs2 hs3 ha1 ha2 ha3 hz5 hz6 hsla hslb hexA hexB hdkA hdkB hdkd hga hgb hta htb k0 k1 k2 k0d k1d k2d
                go_wp2_with fail
                go_loopw [93] (fun i wr => ∃ k : Nat, k ≤ 3 ∧ i = .int .i64 k ∧ Below wD.heap.size wD wr) (fun i _ => 3 - (intOf i).toNat)
                case atStart => exact ⟨0, Nat.zero_le _, rfl, Below.refl _ _⟩
                case round =>
                  obtain ⟨k, hk, rfl, hb⟩ := hrel
                  by_cases hlt3 : k < 3
                  · have hlt3' : (k : Int) < 3 := by omega
                    have hk0 : (0 : Int) ≤ (k : Int) := by omega
                    obtain ⟨bX, oX, tx, Ax, cx, hAx, hbX, htx, y0, y1, y2, hslx⟩ := H3.out.genAt (show k < [g, ga, gb].length from hlt3)
                    simp only [Option.some.injEq, Addr.mk.injEq, and_true] at hAx
                    obtain ⟨rfl, rfl⟩ := hAx
                    have hsx0 := HX3.out _ (List.getElem_mem (show k < [g, ga, gb].length from hlt3))
                    obtain ⟨x, hx⟩ : ∃ x, [g, ga, gb][k]'hlt3 = x := ⟨_, rfl⟩
                    rw [hx] at y0 y2 hslx htx hsx0
                    rw [Nat.zero_add] at y0 y1 y2
                    have hbX' : gS < wD.heap.size := hbX
                    have z0 := (hb.cell (p := ⟨gS, k * 3, none⟩) hbX').trans y0
                    have z1 := (hb.cell (p := ⟨gS, k * 3 + 1, none⟩) hbX').trans y1
                    have z2 := (hb.cell (p := ⟨gS, k * 3 + 2, none⟩) hbX').trans y2
                    obtain ⟨wy, hwy⟩ : ∃ wy, wy = wr.alloc (.cells #[.int .i64 x.1, .string tx, .slice Ax x.2.2.length cx] 32) := ⟨_, rfl⟩
                    obtain ⟨gx, hgx⟩ : ∃ gx, gx = wr.heap.size := ⟨_, rfl⟩
                    have hgbx : GB gx x.1 tx (.slice Ax x.2.2.length cx) wy := by rw [hwy, hgx]; exact heap_alloc_new wr _
                    have hby : Below wD.heap.size wD wy := by rw [hwy]; exact hb.alloc hb.size _
                    have hbw : Below w.heap.size w wy := HBD.out.trans (hby.mono HBD.out.size)
                    have hsx : SmallG x := hsx0
                    obtain ⟨q1, hq1⟩ : ∃ q, permitsR lim per ex x = q := ⟨_, rfl⟩
                    obtain ⟨q2, hq2⟩ : ∃ q, permitsR lm pm xm x = q := ⟨_, rfl⟩
                    have MX := hide (fun W (h : Below wy.heap.size wy W) => HMX.out.below (hbw.trans (h.mono hbw.size)))
                    have SX0 := hide (fun W (h : Below wy.heap.size wy W) => (Sl.ok RRdn.ok).below hslx (hby.trans (h.mono hby.size)))
                    have SR1 := hide (fun W (h : Below wy.heap.size wy W) => (Sl.ok RInt.ok).below K1.out (hbw.trans (h.mono hbw.size)))
                    have SR2 := hide (fun W (h : Below wy.heap.size wy W) => (Sl.ok RGen.ok).below K2.out (hbw.trans (h.mono hbw.size)))
                    have SR3 := hide (fun W (h : Below wy.heap.size wy W) => (Sl.ok RGen.ok).below K3.out (hbw.trans (h.mono hbw.size)))
                    have SM1 := hide (fun W (h : Below wy.heap.size wy W) => (Sl.ok RInt.ok).below QM1.out (hby.trans (h.mono hby.size)))
                    have SM2 := hide (fun W (h : Below wy.heap.size wy W) => (Sl.ok RGen.ok).below QM2.out (hby.trans (h.mono hby.size)))
                    have SM3 := hide (fun W (h : Below wy.heap.size wy W) => (Sl.ok RGen.ok).below QM3.out (hby.trans (h.mono hby.size)))
                    have SN1 := hide (fun W (h : Below wy.heap.size wy W) => (Sl.ok RInt.ok).below QN1.out (hby.trans (h.mono hby.size)))
                    have SN2 := hide (fun W (h : Below wy.heap.size wy W) => (Sl.ok RGen.ok).below QN2.out (hby.trans (h.mono hby.size)))
                    have SN3 := hide (fun W (h : Below wy.heap.size wy W) => (Sl.ok RGen.ok).below QN3.out (hby.trans (h.mono hby.size)))
                    have C1 := hide (fun W (h1 : W.cell? ⟨g4, 0, none⟩ = some (.slice B1 lim.length d1)) (h2 : W.cell? ⟨g4, 1, none⟩ = some (.slice B2 per.length d2)) (h3 : W.cell? ⟨g4, 2, none⟩ = some (.slice B3 ex.length d3)) (h4 : W.cell? ⟨gx, 0, none⟩ = some (.int .i64 x.1)) (h5 : W.cell? ⟨gx, 1, none⟩ = some (.string tx)) (h6 : W.cell? ⟨gx, 2, none⟩ = some (.slice Ax x.2.2.length cx)) (h7 : W.cell? ⟨g9, 0, none⟩ = some (.slice L1 lm.length cl1)) (h8 : W.cell? ⟨g9, 1, none⟩ = some (.slice P1 pm.length cp1)) (h9 : W.cell? ⟨g9, 2, none⟩ = some (.slice X1 xm.length cx1)) (h10 : W.cell? ⟨g10, 0, none⟩ = some (.slice L2 lm.length cl2)) (h11 : W.cell? ⟨g10, 1, none⟩ = some (.slice P2 pm.length cp2)) (h12 : W.cell? ⟨g10, 2, none⟩ = some (.slice X2 xm.length cx2)) (h13 : Below wy.heap.size wy W) => (permitsR_any x tx Ax cx lim per ex B1 B2 B3 d1 d2 d3 htx hsx HSP.out HSX.out q1 hq1 W (MX.out W h13) (SX0.out W h13) (SR1.out W h13) (SR2.out W h13) (SR3.out W h13)).mono (R' := fun e W' => e = .returned (.bool q1) ∧ W'.cell? ⟨g4, 0, none⟩ = some (.slice B1 lim.length d1) ∧ W'.cell? ⟨g4, 1, none⟩ = some (.slice B2 per.length d2) ∧ W'.cell? ⟨g4, 2, none⟩ = some (.slice B3 ex.length d3) ∧ W'.cell? ⟨gx, 0, none⟩ = some (.int .i64 x.1) ∧ W'.cell? ⟨gx, 1, none⟩ = some (.string tx) ∧ W'.cell? ⟨gx, 2, none⟩ = some (.slice Ax x.2.2.length cx) ∧ W'.cell? ⟨g9, 0, none⟩ = some (.slice L1 lm.length cl1) ∧ W'.cell? ⟨g9, 1, none⟩ = some (.slice P1 pm.length cp1) ∧ W'.cell? ⟨g9, 2, none⟩ = some (.slice X1 xm.length cx1) ∧ W'.cell? ⟨g10, 0, none⟩ = some (.slice L2 lm.length cl2) ∧ W'.cell? ⟨g10, 1, none⟩ = some (.slice P2 pm.length cp2) ∧ W'.cell? ⟨g10, 2, none⟩ = some (.slice X2 xm.length cx2) ∧ Below wy.heap.size wy W') fun _ _ ⟨he, hb9⟩ => ⟨he, cell_grows hb9 _ _ h1, cell_grows hb9 _ _ h2, cell_grows hb9 _ _ h3, cell_grows hb9 _ _ h4, cell_grows hb9 _ _ h5, cell_grows hb9 _ _ h6, cell_grows hb9 _ _ h7, cell_grows hb9 _ _ h8, cell_grows hb9 _ _ h9, cell_grows hb9 _ _ h10, cell_grows hb9 _ _ h11, cell_grows hb9 _ _ h12, h13.trans (hb9.mono h13.size)⟩)
                    have C2 := hide (fun W (h1 : W.cell? ⟨g4, 0, none⟩ = some (.slice B1 lim.length d1)) (h2 : W.cell? ⟨g4, 1, none⟩ = some (.slice B2 per.length d2)) (h3 : W.cell? ⟨g4, 2, none⟩ = some (.slice B3 ex.length d3)) (h4 : W.cell? ⟨gx, 0, none⟩ = some (.int .i64 x.1)) (h5 : W.cell? ⟨gx, 1, none⟩ = some (.string tx)) (h6 : W.cell? ⟨gx, 2, none⟩ = some (.slice Ax x.2.2.length cx)) (h7 : W.cell? ⟨g9, 0, none⟩ = some (.slice L1 lm.length cl1)) (h8 : W.cell? ⟨g9, 1, none⟩ = some (.slice P1 pm.length cp1)) (h9 : W.cell? ⟨g9, 2, none⟩ = some (.slice X1 xm.length cx1)) (h10 : W.cell? ⟨g10, 0, none⟩ = some (.slice L2 lm.length cl2)) (h11 : W.cell? ⟨g10, 1, none⟩ = some (.slice P2 pm.length cp2)) (h12 : W.cell? ⟨g10, 2, none⟩ = some (.slice X2 xm.length cx2)) (h13 : Below wy.heap.size wy W) => (rpermitsR_any x tx Ax cx lim per ex B1 B2 B3 d1 d2 d3 htx hsx HSP.out HSX.out q1 hq1 W (MX.out W h13) (SX0.out W h13) (SR1.out W h13) (SR2.out W h13) (SR3.out W h13)).mono (R' := fun e W' => e = .returned (.bool q1) ∧ W'.cell? ⟨g4, 0, none⟩ = some (.slice B1 lim.length d1) ∧ W'.cell? ⟨g4, 1, none⟩ = some (.slice B2 per.length d2) ∧ W'.cell? ⟨g4, 2, none⟩ = some (.slice B3 ex.length d3) ∧ W'.cell? ⟨gx, 0, none⟩ = some (.int .i64 x.1) ∧ W'.cell? ⟨gx, 1, none⟩ = some (.string tx) ∧ W'.cell? ⟨gx, 2, none⟩ = some (.slice Ax x.2.2.length cx) ∧ W'.cell? ⟨g9, 0, none⟩ = some (.slice L1 lm.length cl1) ∧ W'.cell? ⟨g9, 1, none⟩ = some (.slice P1 pm.length cp1) ∧ W'.cell? ⟨g9, 2, none⟩ = some (.slice X1 xm.length cx1) ∧ W'.cell? ⟨g10, 0, none⟩ = some (.slice L2 lm.length cl2) ∧ W'.cell? ⟨g10, 1, none⟩ = some (.slice P2 pm.length cp2) ∧ W'.cell? ⟨g10, 2, none⟩ = some (.slice X2 xm.length cx2) ∧ Below wy.heap.size wy W') fun _ _ ⟨he, hb9⟩ => ⟨he, cell_grows hb9 _ _ h1, cell_grows hb9 _ _ h2, cell_grows hb9 _ _ h3, cell_grows hb9 _ _ h4, cell_grows hb9 _ _ h5, cell_grows hb9 _ _ h6, cell_grows hb9 _ _ h7, cell_grows hb9 _ _ h8, cell_grows hb9 _ _ h9, cell_grows hb9 _ _ h10, cell_grows hb9 _ _ h11, cell_grows hb9 _ _ h12, h13.trans (hb9.mono h13.size)⟩)
                    have C3 := hide (fun W (h1 : W.cell? ⟨g4, 0, none⟩ = some (.slice B1 lim.length d1)) (h2 : W.cell? ⟨g4, 1, none⟩ = some (.slice B2 per.length d2)) (h3 : W.cell? ⟨g4, 2, none⟩ = some (.slice B3 ex.length d3)) (h4 : W.cell? ⟨gx, 0, none⟩ = some (.int .i64 x.1)) (h5 : W.cell? ⟨gx, 1, none⟩ = some (.string tx)) (h6 : W.cell? ⟨gx, 2, none⟩ = some (.slice Ax x.2.2.length cx)) (h7 : W.cell? ⟨g9, 0, none⟩ = some (.slice L1 lm.length cl1)) (h8 : W.cell? ⟨g9, 1, none⟩ = some (.slice P1 pm.length cp1)) (h9 : W.cell? ⟨g9, 2, none⟩ = some (.slice X1 xm.length cx1)) (h10 : W.cell? ⟨g10, 0, none⟩ = some (.slice L2 lm.length cl2)) (h11 : W.cell? ⟨g10, 1, none⟩ = some (.slice P2 pm.length cp2)) (h12 : W.cell? ⟨g10, 2, none⟩ = some (.slice X2 xm.length cx2)) (h13 : Below wy.heap.size wy W) => (permitsR_any x tx Ax cx lm pm xm L1 P1 X1 cl1 cp1 cx1 htx hsx HSP1.out HSX1.out q2 hq2 W (MX.out W h13) (SX0.out W h13) (SM1.out W h13) (SM2.out W h13) (SM3.out W h13)).mono (R' := fun e W' => e = .returned (.bool q2) ∧ W'.cell? ⟨g4, 0, none⟩ = some (.slice B1 lim.length d1) ∧ W'.cell? ⟨g4, 1, none⟩ = some (.slice B2 per.length d2) ∧ W'.cell? ⟨g4, 2, none⟩ = some (.slice B3 ex.length d3) ∧ W'.cell? ⟨gx, 0, none⟩ = some (.int .i64 x.1) ∧ W'.cell? ⟨gx, 1, none⟩ = some (.string tx) ∧ W'.cell? ⟨gx, 2, none⟩ = some (.slice Ax x.2.2.length cx) ∧ W'.cell? ⟨g9, 0, none⟩ = some (.slice L1 lm.length cl1) ∧ W'.cell? ⟨g9, 1, none⟩ = some (.slice P1 pm.length cp1) ∧ W'.cell? ⟨g9, 2, none⟩ = some (.slice X1 xm.length cx1) ∧ W'.cell? ⟨g10, 0, none⟩ = some (.slice L2 lm.length cl2) ∧ W'.cell? ⟨g10, 1, none⟩ = some (.slice P2 pm.length cp2) ∧ W'.cell? ⟨g10, 2, none⟩ = some (.slice X2 xm.length cx2) ∧ Below wy.heap.size wy W') fun _ _ ⟨he, hb9⟩ => ⟨he, cell_grows hb9 _ _ h1, cell_grows hb9 _ _ h2, cell_grows hb9 _ _ h3, cell_grows hb9 _ _ h4, cell_grows hb9 _ _ h5, cell_grows hb9 _ _ h6, cell_grows hb9 _ _ h7, cell_grows hb9 _ _ h8, cell_grows hb9 _ _ h9, cell_grows hb9 _ _ h10, cell_grows hb9 _ _ h11, cell_grows hb9 _ _ h12, h13.trans (hb9.mono h13.size)⟩)
                    have C4 := hide (fun W (h1 : W.cell? ⟨g4, 0, none⟩ = some (.slice B1 lim.length d1)) (h2 : W.cell? ⟨g4, 1, none⟩ = some (.slice B2 per.length d2)) (h3 : W.cell? ⟨g4, 2, none⟩ = some (.slice B3 ex.length d3)) (h4 : W.cell? ⟨gx, 0, none⟩ = some (.int .i64 x.1)) (h5 : W.cell? ⟨gx, 1, none⟩ = some (.string tx)) (h6 : W.cell? ⟨gx, 2, none⟩ = some (.slice Ax x.2.2.length cx)) (h7 : W.cell? ⟨g9, 0, none⟩ = some (.slice L1 lm.length cl1)) (h8 : W.cell? ⟨g9, 1, none⟩ = some (.slice P1 pm.length cp1)) (h9 : W.cell? ⟨g9, 2, none⟩ = some (.slice X1 xm.length cx1)) (h10 : W.cell? ⟨g10, 0, none⟩ = some (.slice L2 lm.length cl2)) (h11 : W.cell? ⟨g10, 1, none⟩ = some (.slice P2 pm.length cp2)) (h12 : W.cell? ⟨g10, 2, none⟩ = some (.slice X2 xm.length cx2)) (h13 : Below wy.heap.size wy W) => (rpermitsR_any x tx Ax cx lm pm xm L2 P2 X2 cl2 cp2 cx2 htx hsx HSP1.out HSX1.out q2 hq2 W (MX.out W h13) (SX0.out W h13) (SN1.out W h13) (SN2.out W h13) (SN3.out W h13)).mono (R' := fun e W' => e = .returned (.bool q2) ∧ W'.cell? ⟨g4, 0, none⟩ = some (.slice B1 lim.length d1) ∧ W'.cell? ⟨g4, 1, none⟩ = some (.slice B2 per.length d2) ∧ W'.cell? ⟨g4, 2, none⟩ = some (.slice B3 ex.length d3) ∧ W'.cell? ⟨gx, 0, none⟩ = some (.int .i64 x.1) ∧ W'.cell? ⟨gx, 1, none⟩ = some (.string tx) ∧ W'.cell? ⟨gx, 2, none⟩ = some (.slice Ax x.2.2.length cx) ∧ W'.cell? ⟨g9, 0, none⟩ = some (.slice L1 lm.length cl1) ∧ W'.cell? ⟨g9, 1, none⟩ = some (.slice P1 pm.length cp1) ∧ W'.cell? ⟨g9, 2, none⟩ = some (.slice X1 xm.length cx1) ∧ W'.cell? ⟨g10, 0, none⟩ = some (.slice L2 lm.length cl2) ∧ W'.cell? ⟨g10, 1, none⟩ = some (.slice P2 pm.length cp2) ∧ W'.cell? ⟨g10, 2, none⟩ = some (.slice X2 xm.length cx2) ∧ Below wy.heap.size wy W') fun _ _ ⟨he, hb9⟩ => ⟨he, cell_grows hb9 _ _ h1, cell_grows hb9 _ _ h2, cell_grows hb9 _ _ h3, cell_grows hb9 _ _ h4, cell_grows hb9 _ _ h5, cell_grows hb9 _ _ h6, cell_grows hb9 _ _ h7, cell_grows hb9 _ _ h8, cell_grows hb9 _ _ h9, cell_grows hb9 _ _ h10, cell_grows hb9 _ _ h11, cell_grows hb9 _ _ h12, h13.trans (hb9.mono h13.size)⟩)
                    obtain ⟨f1, f2, f3, -, -, -⟩ := (HW4.out.base hby HW4.out.lt).facts
                    obtain ⟨f4, f5, f6, -, -, -⟩ := hgbx.facts
                    obtain ⟨f7, f8, f9, -, -, -⟩ := (HW9.out.base hby HW9.out.lt).facts
                    obtain ⟨f10, f11, f12, -, -, -⟩ := (HW10.out.base hby HW10.out.lt).facts
                    have f13 : Below wy.heap.size wy wy := Below.refl _ _
                    have f1d : wy.drew.cell? ⟨g4, 0, none⟩ = some (.slice B1 lim.length d1) := f1
                    have f2d : wy.drew.cell? ⟨g4, 1, none⟩ = some (.slice B2 per.length d2) := f2
                    have f3d : wy.drew.cell? ⟨g4, 2, none⟩ = some (.slice B3 ex.length d3) := f3
                    have f4d : wy.drew.cell? ⟨gx, 0, none⟩ = some (.int .i64 x.1) := f4
                    have f5d : wy.drew.cell? ⟨gx, 1, none⟩ = some (.string tx) := f5
                    have f6d : wy.drew.cell? ⟨gx, 2, none⟩ = some (.slice Ax x.2.2.length cx) := f6
                    have f7d : wy.drew.cell? ⟨g9, 0, none⟩ = some (.slice L1 lm.length cl1) := f7
                    have f8d : wy.drew.cell? ⟨g9, 1, none⟩ = some (.slice P1 pm.length cp1) := f8
                    have f9d : wy.drew.cell? ⟨g9, 2, none⟩ = some (.slice X1 xm.length cx1) := f9
                    have f10d : wy.drew.cell? ⟨g10, 0, none⟩ = some (.slice L2 lm.length cl2) := f10
                    have f11d : wy.drew.cell? ⟨g10, 1, none⟩ = some (.slice P2 pm.length cp2) := f11
                    have f12d : wy.drew.cell? ⟨g10, 2, none⟩ = some (.slice X2 xm.length cx2) := f12
                    have f13d : Below wy.heap.size wy wy.drew := f13.drew
                    have t1 : (q1 != q1) = false := by simp
                    have t2 : (q2 != q2) = false := by simp
                    have HBY := hide hby
                    have HWY := hide hwy
                    have HGX := hide hgx
                    clear hb hbX hbX' y0 y1 y2 hslx htx hsx0 hx hwy hgx hgbx hby hbw hsx hq1 hq2
                    go_upto_region 17 with (fail)
                    rw [← HWY.out, ← HGX.out]
                    clear z0 z1 z2
                    go_region_held3 (fun W => W.cell? ⟨g4, 0, none⟩ = some (.slice B1 lim.length d1) ∧ W.cell? ⟨g4, 1, none⟩ = some (.slice B2 per.length d2) ∧ W.cell? ⟨g4, 2, none⟩ = some (.slice B3 ex.length d3) ∧ W.cell? ⟨gx, 0, none⟩ = some (.int .i64 x.1) ∧ W.cell? ⟨gx, 1, none⟩ = some (.string tx) ∧ W.cell? ⟨gx, 2, none⟩ = some (.slice Ax x.2.2.length cx) ∧ W.cell? ⟨g9, 0, none⟩ = some (.slice L1 lm.length cl1) ∧ W.cell? ⟨g9, 1, none⟩ = some (.slice P1 pm.length cp1) ∧ W.cell? ⟨g9, 2, none⟩ = some (.slice X1 xm.length cx1) ∧ W.cell? ⟨g10, 0, none⟩ = some (.slice L2 lm.length cl2) ∧ W.cell? ⟨g10, 1, none⟩ = some (.slice P2 pm.length cp2) ∧ W.cell? ⟨g10, 2, none⟩ = some (.slice X2 xm.length cx2) ∧ Below wy.heap.size wy W)
                      (first | exact ⟨hs1, hs2, hs3, hs4, hs5, hs6, hs7, hs8, hs9, hs10, hs11, hs12, hs13⟩ | exact ⟨f1, f2, f3, f4, f5, f6, f7, f8, f9, f10, f11, f12, f13⟩ | exact ⟨f1d, f2d, f3d, f4d, f5d, f6d, f7d, f8d, f9d, f10d, f11d, f12d, f13d⟩)
                      (first
                        | (go_at_call 28; (first | (with_reducible refine (C1.out _ hs1 hs2 hs3 hs4 hs5 hs6 hs7 hs8 hs9 hs10 hs11 hs12 hs13).mono ?_) | (with_reducible refine (C3.out _ hs1 hs2 hs3 hs4 hs5 hs6 hs7 hs8 hs9 hs10 hs11 hs12 hs13).mono ?_) | (with_reducible refine (C1.out wy.drew f1d f2d f3d f4d f5d f6d f7d f8d f9d f10d f11d f12d f13d).mono ?_) | (with_reducible refine (C3.out wy.drew f1d f2d f3d f4d f5d f6d f7d f8d f9d f10d f11d f12d f13d).mono ?_) | fail); rintro e wn ⟨rfl, hs1, hs2, hs3, hs4, hs5, hs6, hs7, hs8, hs9, hs10, hs11, hs12, hs13⟩)
                        | (go_at_call 29; (first | (with_reducible refine (C2.out _ hs1 hs2 hs3 hs4 hs5 hs6 hs7 hs8 hs9 hs10 hs11 hs12 hs13).mono ?_) | (with_reducible refine (C4.out _ hs1 hs2 hs3 hs4 hs5 hs6 hs7 hs8 hs9 hs10 hs11 hs12 hs13).mono ?_) | (with_reducible refine (C2.out wy.drew f1d f2d f3d f4d f5d f6d f7d f8d f9d f10d f11d f12d f13d).mono ?_) | (with_reducible refine (C4.out wy.drew f1d f2d f3d f4d f5d f6d f7d f8d f9d f10d f11d f12d f13d).mono ?_) | fail); rintro e wn ⟨rfl, hs1, hs2, hs3, hs4, hs5, hs6, hs7, hs8, hs9, hs10, hs11, hs12, hs13⟩)
                        | fail)
                    all_goals
                      have HBN := hide (HBY.out.trans (hs13.mono HBY.out.size))
                      go_wp2_with fail
                      go_roundw
                      case rel => exact ⟨k + 1, by omega, by go_num, HBN.out⟩
                      case measure => simp [intOf]; omega
                  · have HBF := hide (HBD.out.trans (hb.mono HBD.out.size))
                    clear hb
                    go_wp2_with fail
                    refine (sawake_any _ (HMX.out.below HBF.out)).mono ?_
                    rintro e wz ⟨rfl, hbz⟩
                    go_wp2_with fail
                    go_ret
                    exact ⟨rfl, HBF.out.trans (hbz.mono HBF.out.size)⟩
end Go.Proofs.YtodapmkdmkhhfaaGreatDoor
