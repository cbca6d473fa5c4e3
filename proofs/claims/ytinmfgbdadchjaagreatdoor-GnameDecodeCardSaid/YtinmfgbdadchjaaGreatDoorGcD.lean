/- The law GnameCheck, its walk. -/
import Derived.Test.YtinmfgbdadchjaaGreatDoorGGcA
import Derived.Test.YtinmfgbdadchjaaGreatDoorGmA
import Derived.Test.YtinmfgbdadchjaaGreatDoorGLibI
import Derived.Test.YtinmfgbdadchjaaGreatDoorSbB
namespace Go.Proofs.YtinmfgbdadchjaaGreatDoor
open Go.RowKit
theorem two_gen9 {w : World} {S : Nat → Prop} {g1 g2 : Gen} {t1 t2 : ByteArray} {A1 A2 : Option Addr} {c1 c2 : Nat} {T : TypeId} (ht1 : t1.data.toList = g1.2.1) (ht2 : t2.data.toList = g2.2.1)
    (h1 : Sl RRdn 1 w S g1.2.2 [.slice A1 g1.2.2.length c1]) (h2 : Sl RRdn 1 w S g2.2.2 [.slice A2 g2.2.2.length c2]) (hS : ∀ k, S k → k < w.heap.size) :
    Sl RGen 3 (w.alloc (.cells #[.int .i64 g1.1, .string t1, .slice A1 g1.2.2.length c1, .int .i64 g2.1, .string t2, .slice A2 g2.2.2.length c2] T)) (Lt (w.alloc (.cells #[.int .i64 g1.1, .string t1, .slice A1 g1.2.2.length c1, .int .i64 g2.1, .string t2, .slice A2 g2.2.2.length c2] T)).heap.size) [g1, g2] [.slice (some ⟨w.heap.size, 0, none⟩) 2 2] := by
  refine ⟨_, _, rfl, Nat.le_refl _, by simp [maxLen], fun _ => ⟨w.heap.size, 0, rfl, by show w.heap.size < _; simp, fun i x hx => ?_⟩⟩
  match i, hx with
  | 0, hx =>
    simp at hx; subst hx
    refine ⟨[.int .i64 g1.1, .string t1, .slice A1 g1.2.2.length c1], ⟨_, by rw [← ht1], (Sl.ok RRdn.ok).mono h1 (fun k hk => Below.heap_alloc _ _ k (hS k hk)) (fun k hk => by show k < _; have := hS k hk; simp; omega)⟩, fun j u hu => ?_⟩
    rw [World.cell?_alloc_new]
    match j, hu with
    | 0, hu => simpa using hu
    | 1, hu => simpa using hu
    | 2, hu => simpa using hu
  | 1, hx =>
    simp at hx; subst hx
    refine ⟨[.int .i64 g2.1, .string t2, .slice A2 g2.2.2.length c2], ⟨_, by rw [← ht2], (Sl.ok RRdn.ok).mono h2 (fun k hk => Below.heap_alloc _ _ k (hS k hk)) (fun k hk => by show k < _; have := hS k hk; simp; omega)⟩, fun j u hu => ?_⟩
    rw [World.cell?_alloc_new]
    match j, hu with
    | 0, hu => simpa using hu
    | 1, hu => simpa using hu
    | 2, hu => simpa using hu
structure KJ (w1 : World) (d : Nat) (a : Gen) (ta : ByteArray) (Aa A0 : Option Addr) (ca n0 c0 : Nat) (dd : Nat → Bool) (val : Nat → Value) (W : World) : Prop where
 base : Below w1.heap.size w1 W
 z : dd 2 = false → W.heap.size = d
 l17 : dd 0 = true → val 17 = .agg #[.int .i64 a.1, .string ta, .slice Aa a.2.2.length ca]
 m18 : dd 1 = true → val 18 = .slice A0 n0 c0
 n19 : dd 2 = true → dd 3 = false → val 19 = .pointer (some ⟨d, 0, none⟩) ∧ DeckAt W d
 s20 : dd 3 = true → ∃ (x : Gen) (tx : ByteArray) (Ax : Option Addr) (cx : Nat), SmallG x ∧ tx.data.toList = x.2.1 ∧ val 20 = .agg #[.int .i64 x.1, .string tx, .slice Ax x.2.2.length cx] ∧ Sl RRdn 1 W (Lt W.heap.size) x.2.2 [.slice Ax x.2.2.length cx]
 b21 : dd 4 = true → ∃ (g : Nat) (L : List Gen), val 21 = .slice (some ⟨g, 0, none⟩) 2 2 ∧ L.length = 2 ∧ SmallGs L ∧ Sl RGen 3 W (Lt W.heap.size) L [.slice (some ⟨g, 0, none⟩) 2 2]
 m22 : dd 5 = true → val 22 = .int .i64 2
 m23 : dd 6 = true → val 23 = .int .i64 0
 q3 : dd 3 = true → dd 2 = true
 q4 : dd 4 = true → dd 3 = true
set_option maxRecDepth 100000 in
set_option maxHeartbeats 16000000 in
theorem GnameCheck_any (a : Gen) (ta : ByteArray) (l : List Int) (Aa A0 : Option Addr) (ca n0 c0 : Nat) (hta : ta.data.toList = a.2.1) (w : World) (hmx : Mx w)
    (h1 : Sl RRdn 1 w (Lt w.heap.size) a.2.2 [.slice Aa a.2.2.length ca]) (h : Sl RInt 1 w (Lt w.heap.size) l [.slice A0 n0 c0]) :
    Calls Tryz.prog 6 #[.agg #[.int .i64 a.1, .string ta, .slice Aa a.2.2.length ca], .slice A0 n0 c0] w fun e w' => e = .returned (.bool true) ∧ Below w.heap.size w w' := by
  have HMX := hide hmx
  have K0 := hide h
  have K1 := hide h1
  have HTA := hide hta
  obtain ⟨wa, hwa⟩ : ∃ wa, wa = w.alloc (.cells #[.int .i64 a.1, .string ta, .slice Aa a.2.2.length ca] 50) := ⟨_, rfl⟩
  have hga : GB w.heap.size a.1 ta (.slice Aa a.2.2.length ca) wa := by rw [hwa]; exact heap_alloc_new w _
  have hba : Below w.heap.size w wa := by rw [hwa]; exact (Below.refl _ _).alloc (Nat.le_refl _) _
  obtain ⟨g3, hg3⟩ : ∃ g, g = w.heap.size := ⟨_, rfl⟩
  rw [← hg3] at hga
  have h3a : g3 < wa.heap.size := hga.lt
  obtain ⟨a0, a1, a2, -, -, -⟩ := hga.facts
  have HGA := hide hga
  have HBA := hide hba
  have HWA := hide hwa
  have HG3 := hide hg3
  obtain ⟨p1, hp1⟩ : ∃ p, shortGs [a] = p := ⟨_, rfl⟩
  have HP1 := hide hp1
  clear hmx h h1 hta hwa hga hba hg3 hp1
  go_enter Tryz.func6, Tryz.ntmps6
  go_upto_region 1 with (fail)
  rw [← HWA.out, ← HG3.out]
  go_wp2_with fail
  refine (short9_any a ta Aa ca p1 HP1.out HTA.out _ ((Sl.ok RRdn.ok).below K1.out HBA.out)).mono ?_
  rintro e w1 ⟨rfl, hb1⟩
  have HB1 := hide (HBA.out.trans (hb1.mono HBA.out.size))
  have HC1 := hide hb1
  clear hb1 a0 a1 a2
  cases p1
  · go_wp2_with fail
    refine (awake9_any _ (HMX.out.below HB1.out)).mono ?_
    rintro e wz ⟨rfl, hbz⟩
    go_wp2_with fail
    go_ret
    exact ⟨rfl, HB1.out.trans (hbz.mono HB1.out.size)⟩
  · have HSA := hide (show SmallG a from shortGs_small HP1.out a (by simp))
    obtain ⟨y1, y2, y3, -, -, -⟩ := (HGA.out.below HC1.out).facts
    obtain ⟨d, hd⟩ : ∃ d, d = w1.heap.size := ⟨_, rfl⟩
    have h3d : g3 < w1.heap.size := by have := HC1.out.size; omega
    have K0a := hide ((Sl.ok RInt.ok).below K0.out HB1.out)
    have K1a := hide ((Sl.ok RRdn.ok).below K1.out HB1.out)
    have HDD := hide hd
    clear hd
    go_upto_region 3 with (fail)
    refine region_inv [17, 18, 19, 20, 21, 22, 23] (KJ w1 d a ta Aa A0 ca n0 c0) (by kernel_rfl) (by kernel_rfl) (fun val => ⟨(Below.refl _ _).drew, fun _ => HDD.out.symm, nofun, nofun, nofun, nofun, nofun, nofun, nofun, nofun, nofun⟩) ⟨?_, ?_, ?_, ?_, ?_, ?_, ?_, trivial⟩ ?_
    · refine ⟨fun s hs => by cases hs <;> decide, ?_⟩
      rintro dd val W hJ hd hdep K hK
      rw [if_pos (by rfl)]
      dsimp only [putF, List.foldl, Act.put] at hK ⊢
      simp only [List.setIfInBounds_toArray, List.set_cons_zero, List.set_cons_succ] at hK ⊢
      have m1 : W.cell? ⟨g3, 0, none⟩ = some (.int .i64 a.1) := (hJ.base.cell (p := ⟨g3, 0, none⟩) h3d).trans y1
      have m2 : W.cell? ⟨g3, 1, none⟩ = some (.string ta) := (hJ.base.cell (p := ⟨g3, 1, none⟩) h3d).trans y2
      have m3 : W.cell? ⟨g3, 2, none⟩ = some (.slice Aa a.2.2.length ca) := (hJ.base.cell (p := ⟨g3, 2, none⟩) h3d).trans y3
      go_simp
      exact hK.out _ _ { base := hJ.base, z := hJ.z, l17 := fun _ => rfl, m18 := hJ.m18, n19 := hJ.n19, s20 := hJ.s20, b21 := hJ.b21, m22 := hJ.m22, m23 := hJ.m23, q3 := hJ.q3, q4 := hJ.q4 }
    · refine ⟨fun s hs => by cases hs <;> decide, ?_⟩
      rintro dd val W hJ hd hdep K hK
      rw [if_pos (by rfl)]
      dsimp only [putF, List.foldl, Act.put] at hK ⊢
      simp only [List.setIfInBounds_toArray, List.set_cons_zero, List.set_cons_succ] at hK ⊢
      go_simp
      exact hK.out _ _ { base := hJ.base, z := hJ.z, l17 := hJ.l17, m18 := fun _ => rfl, n19 := hJ.n19, s20 := hJ.s20, b21 := hJ.b21, m22 := hJ.m22, m23 := hJ.m23, q3 := hJ.q3, q4 := hJ.q4 }
    · refine ⟨fun s hs => by cases hs <;> decide, ?_⟩
      rintro dd val W hJ hd hdep K hK
      rw [if_pos (by rfl)]
      dsimp only [putF, List.foldl, Act.put] at hK ⊢
      simp only [List.setIfInBounds_toArray, List.set_cons_zero, List.set_cons_succ] at hK ⊢
      have e18 := hJ.m18 (hdep ⟨1, .data⟩ (by simp) rfl)
      have hzW := hJ.z hd
      have h23 : dd 3 = false := by
        cases h : dd 3
        · rfl
        · rw [hJ.q3 h] at hd; cases hd
      have h24 : dd 4 = false := by
        cases h : dd 4
        · rfl
        · rw [hJ.q4 h] at h23; cases h23
      simp only [e18] at hK ⊢
      have NEW := New_any l A0 n0 c0 W ((Sl.ok RInt.ok).below K0a.out hJ.base)
      rw [hzW] at NEW
      go_simp
      refine NEW.mono ?_
      rintro e w3 ⟨rfl, hdk3, hb3⟩
      have hbb : Below w1.heap.size w1 w3 := hJ.base.trans (hb3.mono (by have := hJ.base.size; omega))
      go_wp2_with fail
      exact hK.out _ _ { base := hbb, z := fun h => (by cases h), l17 := hJ.l17, m18 := hJ.m18, n19 := fun _ _ => ⟨rfl, hdk3⟩, s20 := fun h => (by rw [show dd 3 = true from h] at h23; cases h23), b21 := fun h => (by rw [show dd 4 = true from h] at h24; cases h24), m22 := hJ.m22, m23 := hJ.m23, q3 := fun _ => rfl, q4 := hJ.q4 }
    · refine ⟨fun s hs => by cases hs <;> decide, ?_⟩
      rintro dd val W hJ hd hdep K hK
      rw [if_pos (by rfl)]
      dsimp only [putF, List.foldl, Act.put] at hK ⊢
      simp only [List.setIfInBounds_toArray, List.set_cons_zero, List.set_cons_succ] at hK ⊢
      have D2 := hdep ⟨2, .data⟩ (by simp) rfl
      obtain ⟨e19, hdk⟩ := hJ.n19 D2 hd
      have h24 : dd 4 = false := by
        cases h : dd 4
        · rfl
        · rw [hJ.q4 h] at hd; cases hd
      simp only [e19] at hK ⊢
      go_simp
      refine (some_any d W hdk).mono ?_
      rintro e w4 ⟨x, tx, Ax, cx, hgx, htx, rfl, hslx, hdkB, hexB⟩
      have hbb : Below w1.heap.size w1 w4 := Ex.below hJ.base hJ.base.size (by rw [HDD.out]; exact Nat.le_refl _) hexB
      go_wp2_with fail
      exact hK.out _ _ { base := hbb, z := fun h => (by rw [show dd 2 = false from h] at D2; cases D2), l17 := hJ.l17, m18 := hJ.m18, n19 := fun _ h => (by cases h), s20 := fun _ => ⟨x, tx, Ax, cx, hgx, htx, rfl, (Sl.ok RRdn.ok).mono hslx (fun _ _ => rfl) (fun j hj => hj.2)⟩, b21 := fun h => (by rw [show dd 4 = true from h] at h24; cases h24), m22 := hJ.m22, m23 := hJ.m23, q3 := fun _ => D2, q4 := fun _ => rfl }
    · refine ⟨fun s hs => by cases hs <;> decide, ?_⟩
      rintro dd val W hJ hd hdep K hK
      rw [if_pos (by rfl)]
      dsimp only [putF, List.foldl, Act.put] at hK ⊢
      simp only [List.setIfInBounds_toArray, List.set_cons_zero, List.set_cons_succ] at hK ⊢
      have D0 := hdep ⟨0, .data⟩ (by simp) rfl
      have D3 := hdep ⟨3, .data⟩ (by simp) rfl
      have D2 := hJ.q3 D3
      have e17 := hJ.l17 D0
      obtain ⟨x, tx, Ax, cx, hgx, htx, e20, hslx⟩ := hJ.s20 D3
      simp only [e17, e20] at hK ⊢
      have htwo := two_gen9 (w := W) (S := Lt W.heap.size) (g1 := a) (g2 := x) (T := 50) HTA.out htx ((Sl.ok RRdn.ok).below K1a.out hJ.base) hslx (fun _ h => h)
      have hb : Below W.heap.size W (W.alloc (.cells #[.int .i64 a.1, .string ta, .slice Aa a.2.2.length ca, .int .i64 x.1, .string tx, .slice Ax x.2.2.length cx] 50)) := (Below.refl _ _).alloc (Nat.le_refl _) _
      go_simp
      exact hK.out _ _ { base := hJ.base.trans (hb.mono hJ.base.size), z := fun h => (by rw [show dd 2 = false from h] at D2; cases D2), l17 := hJ.l17, m18 := hJ.m18, n19 := fun _ h => (by rw [show dd 3 = false from h] at D3; cases D3), s20 := fun _ => ⟨x, tx, Ax, cx, hgx, htx, e20, (Sl.ok RRdn.ok).below hslx hb⟩, b21 := fun _ => ⟨W.heap.size, [a, x], rfl, rfl, (fun g hg => by
        simp only [List.mem_cons, List.not_mem_nil, or_false] at hg
        rcases hg with rfl | rfl
        · exact HSA.out
        · exact hgx), htwo⟩, m22 := hJ.m22, m23 := hJ.m23, q3 := hJ.q3, q4 := fun _ => D3 }
    · refine ⟨fun s hs => by cases hs <;> decide, ?_⟩
      rintro dd val W hJ hd hdep K hK
      rw [if_pos (by rfl)]
      dsimp only [putF, List.foldl, Act.put] at hK ⊢
      simp only [List.setIfInBounds_toArray, List.set_cons_zero, List.set_cons_succ] at hK ⊢
      have D4 := hdep ⟨4, .data⟩ (by simp) rfl
      obtain ⟨g, L, e21, -⟩ := hJ.b21 D4
      simp only [e21] at hK ⊢
      go_simp
      exact hK.out _ _ { base := hJ.base, z := hJ.z, l17 := hJ.l17, m18 := hJ.m18, n19 := hJ.n19, s20 := hJ.s20, b21 := hJ.b21, m22 := fun _ => rfl, m23 := hJ.m23, q3 := hJ.q3, q4 := hJ.q4 }
    · refine ⟨fun s hs => by cases hs <;> decide, ?_⟩
      rintro dd val W hJ hd hdep K hK
      rw [if_pos (by rfl)]
      dsimp only [putF, List.foldl, Act.put] at hK ⊢
      simp only [List.setIfInBounds_toArray, List.set_cons_zero, List.set_cons_succ] at hK ⊢
      go_simp
      exact hK.out _ _ { base := hJ.base, z := hJ.z, l17 := hJ.l17, m18 := hJ.m18, n19 := hJ.n19, s20 := hJ.s20, b21 := hJ.b21, m22 := hJ.m22, m23 := fun _ => rfl, q3 := hJ.q3, q4 := hJ.q4 }
    · rintro dd val W hall hJ
      obtain ⟨gL, L, e21, hL2, hLs, hslL⟩ := hJ.b21 (hall 4 (by decide))
      have e22 := hJ.m22 (hall 5 (by decide))
      have e23 := hJ.m23 (hall 6 (by decide))
      have HBW := hide (HB1.out.trans (hJ.base.mono HB1.out.size))
      have KL := hide (show Sl RGen 3 W (Lt W.heap.size) L [.slice (some ⟨gL, 0, none⟩) L.length 2] by rw [hL2]; exact hslL)
      have HLS := hide hLs
      have HL2 := hide hL2
      dsimp only [putF, List.foldl, Act.put]
      simp only [List.setIfInBounds_toArray, List.set_cons_zero, List.set_cons_succ]
      simp only [e21, e22, e23]
      clear hJ hall e21 e22 e23 hslL hLs hL2 y1 y2 y3
      go_wp2_with fail
      go_loopw [23] (fun i wr => ∃ m : Nat, m ≤ 2 ∧ i = .int .i64 m ∧ Below W.heap.size W wr) (fun i _ => 2 - (intOf i).toNat)
      case atStart => exact ⟨0, by omega, rfl, Below.refl _ _⟩
      case round =>
        obtain ⟨m, hm, rfl, hb⟩ := hrel
        have HB := hide (HBW.out.trans (hb.mono HBW.out.size))
        by_cases hlt : m < 2
        · have hltL : m < L.length := by have := HL2.out; omega
          obtain ⟨b2, o2, t, A2, c2, hB, hbS, ht2, d0, d1, d2, hsl⟩ := KL.out.genAt hltL
          simp only [Option.some.injEq, Addr.mk.injEq, and_true] at hB
          obtain ⟨rfl, rfl⟩ := hB
          have hbS' : gL < W.heap.size := hbS
          have hsg := HLS.out L[m] (List.getElem_mem hltL)
          obtain ⟨g, hg⟩ : ∃ g, L[m] = g := ⟨_, rfl⟩
          rw [hg] at d0 d2 hsl ht2 hsg
          obtain ⟨kb, t', nb⟩ := g
          simp only at d0 d2 hsl ht2
          subst ht2
          rw [Nat.zero_add] at d0 d1 d2
          have f0 := (hb.cell (p := ⟨gL, m * 3, none⟩) hbS').trans d0
          have f1 := (hb.cell (p := ⟨gL, m * 3 + 1, none⟩) hbS').trans d1
          have f2 := (hb.cell (p := ⟨gL, m * 3 + 2, none⟩) hbS').trans d2
          have hts : t.size ≤ 100000 := by rw [← size_string]; exact hsg.1
          have HTS := hide hts
          have HSN := hide hsg.2
          obtain ⟨wx, hwx⟩ : ∃ W, W = (wr.alloc (.cells #[.int .i64 kb, .string t, .slice A2 nb.length c2] 50)).alloc (.cells #[.bool false, .bool true] 4) := ⟨_, rfl⟩
          obtain ⟨wy, hwy⟩ : ∃ W, W = wr.alloc (.cells #[.int .i64 kb, .string t, .slice A2 nb.length c2] 50) := ⟨_, rfl⟩
          rw [← hwy] at hwx
          have hzy : wy.heap.size = wr.heap.size + 1 := by rw [hwy]; simp
          obtain ⟨p0, p1⟩ := two_cells hwx
          have hgy : GB wr.heap.size kb t (.slice A2 nb.length c2) wy := by rw [hwy]; exact heap_alloc_new wr _
          have hgx : GB wr.heap.size kb t (.slice A2 nb.length c2) wx := by rw [hwx]; exact hgy.alloc _
          have hby : Below wr.heap.size wr wy := by rw [hwy]; exact (Below.refl _ _).alloc (Nat.le_refl _) _
          have hbx : Below wr.heap.size wr wx := by rw [hwx]; exact hby.alloc (by omega) _
          rw [hzy] at p0 p1
          have HBX := hide (HB.out.trans (hbx.mono HB.out.size))
          have HBXW := hide (hb.trans (hbx.mono hb.size))
          have KN := hide ((Sl.ok RRdn.ok).below hsl (hb.trans (hbx.mono hb.size)))
          have hzx : wx.heap.size = wr.heap.size + 1 + 1 := by rw [hwx]; simp [hzy]
          obtain ⟨gx, hgx'⟩ : ∃ g, wr.heap.size = g := ⟨_, rfl⟩
          rw [hgx'] at hgx p0 p1 hzx
          have hgx1 : gx < wx.heap.size := hgx.lt
          obtain ⟨gb, hgb'⟩ : ∃ g, gx + 1 = g := ⟨_, rfl⟩
          rw [hgb'] at p0 p1
          have hgb1 : gb < wx.heap.size := by omega
          have HGX := hide hgx
          have P0 := hide p0
          have P1 := hide p1
          have HWX := hide hwx
          have HWY := hide hwy
          have HGG := hide (And.intro hgx' hgb')
          clear d0 d1 d2 hsl hsg hg hbS hbS' hb hwx hwy hzy hgy hgx hby hbx hzx p0 p1 hgx' hgb' hts
          go_upto_region 7 with fail
          rw [← HWY.out, ← HWX.out]
          try rw [HGG.out.1]
          try rw [HGG.out.2]
          clear f0 f1 f2
          go_wp2_with fail
          go_loopw [29] (fun i wi => ∃ j : Nat, j ≤ 2 ∧ i = .int .i64 j ∧ Below wx.heap.size wx wi) (fun i _ => 2 - (intOf i).toNat)
          case atStart => exact ⟨0, by omega, rfl, Below.refl _ _⟩
          case round =>
            obtain ⟨j, hj, rfl, hbi⟩ := hrel
            obtain ⟨wi, rfl⟩ : ∃ wi : World, wi = wr := ⟨_, rfl⟩
            have HBI := hide hbi
            obtain ⟨z0, z1, z2, -, -, -⟩ := (HGX.out.below hbi).facts
            match j, hj with
            | 0, _ =>
              have r0 := (hbi.cell (p := ⟨gb, 0, none⟩) hgb1).trans P0.out
              clear hbi
              obtain ⟨o, ho⟩ : ∃ o, encG (kb, t.data.toList, nb) false = o := ⟨_, rfl⟩
              have hts := HTS.out
              have EN := hide (fun W (hb : Below wx.heap.size wx W) => gEncode_any kb t nb false A2 c2 hts HSN.out W (HMX.out.below (HBX.out.trans (hb.mono HBX.out.size))) ((Sl.ok RRdn.ok).below KN.out hb))
              have REN := hide (fun W (hb : Below wx.heap.size wx W) => rEncodeG_any kb t nb false A2 c2 hts HSN.out W (HMX.out.below (HBX.out.trans (hb.mono HBX.out.size))) ((Sl.ok RRdn.ok).below KN.out hb))
              rw [ho] at EN REN
              obtain ⟨E, hE⟩ : ∃ E : ByteArray, (⟨o.1.toArray⟩ : ByteArray) = E := ⟨_, rfl⟩
              obtain ⟨ke, hke⟩ : ∃ k, o.2 = k := ⟨_, rfl⟩
              have HWR := hide (show wrapR o = .tuple #[.string E, .int .i64 ke] by rw [wrapR, hE, hke])
              obtain ⟨q, hq⟩ : ∃ q, chkG (kb, t.data.toList, nb) false = q := ⟨_, rfl⟩
              have C1 := hide (fun W (h0 : W.cell? ⟨gx, 0, none⟩ = some (.int .i64 kb)) (h1 : W.cell? ⟨gx, 1, none⟩ = some (.string t)) (h2 : W.cell? ⟨gx, 2, none⟩ = some (.slice A2 nb.length c2)) (hb : Below wx.heap.size wx W) =>
                (gCheck_any kb t nb false A2 c2 (by omega) HSN.out q hq W (HMX.out.below (HBX.out.trans (hb.mono HBX.out.size))) ((Sl.ok RRdn.ok).below KN.out hb)).mono (R' := fun e W' => e = .returned (.int .i64 q) ∧ W'.cell? ⟨gx, 0, none⟩ = some (.int .i64 kb) ∧ W'.cell? ⟨gx, 1, none⟩ = some (.string t) ∧ W'.cell? ⟨gx, 2, none⟩ = some (.slice A2 nb.length c2) ∧ Below wx.heap.size wx W')
                fun _ _ ⟨he, hb9⟩ => ⟨he, cell_grows hb9 _ _ h0, cell_grows hb9 _ _ h1, cell_grows hb9 _ _ h2, hb.trans (hb9.mono hb.size)⟩)
              have C2 := hide (fun W (h0 : W.cell? ⟨gx, 0, none⟩ = some (.int .i64 kb)) (h1 : W.cell? ⟨gx, 1, none⟩ = some (.string t)) (h2 : W.cell? ⟨gx, 2, none⟩ = some (.slice A2 nb.length c2)) (hb : Below wx.heap.size wx W) =>
                (rCheckG_any kb t nb false A2 c2 (by omega) HSN.out q hq W (HMX.out.below (HBX.out.trans (hb.mono HBX.out.size))) ((Sl.ok RRdn.ok).below KN.out hb)).mono (R' := fun e W' => e = .returned (.int .i64 q) ∧ W'.cell? ⟨gx, 0, none⟩ = some (.int .i64 kb) ∧ W'.cell? ⟨gx, 1, none⟩ = some (.string t) ∧ W'.cell? ⟨gx, 2, none⟩ = some (.slice A2 nb.length c2) ∧ Below wx.heap.size wx W')
                fun _ _ ⟨he, hb9⟩ => ⟨he, cell_grows hb9 _ _ h0, cell_grows hb9 _ _ h1, cell_grows hb9 _ _ h2, hb.trans (hb9.mono hb.size)⟩)
              have s1 : (q != q) = false := by simp
              have s2 : (E.toList != E.toList) = false := by simp
              have s3 : (ke != ke) = false := by simp
              clear ho hE hke hq hts
              go_wp2_with fail
              refine (EN.out _ HBI.out).mono ?_
              rintro e w5 ⟨rfl, hb5⟩
              rw [HWR.out]
              have HB5 := hide (HBI.out.trans (hb5.mono HBI.out.size))
              have z0 := cell_grows hb5 _ _ z0
              have z1 := cell_grows hb5 _ _ z1
              have z2 := cell_grows hb5 _ _ z2
              clear hb5 r0
              go_wp2_with fail
              refine (REN.out _ HB5.out).mono ?_
              rintro e w6 ⟨rfl, hb6⟩
              rw [HWR.out]
              have f3 := HB5.out.trans (hb6.mono HB5.out.size)
              have f0 := cell_grows hb6 _ _ z0
              have f1 := cell_grows hb6 _ _ z1
              have f2 := cell_grows hb6 _ _ z2
              have f0d : w6.drew.cell? ⟨gx, 0, none⟩ = some (.int .i64 kb) := f0
              have f1d : w6.drew.cell? ⟨gx, 1, none⟩ = some (.string t) := f1
              have f2d : w6.drew.cell? ⟨gx, 2, none⟩ = some (.slice A2 nb.length c2) := f2
              have f3d := f3.drew
              clear hb6 z0 z1 z2
              go_upto_region 11 with fail
              go_region_held3 (fun W => W.cell? ⟨gx, 0, none⟩ = some (.int .i64 kb) ∧ W.cell? ⟨gx, 1, none⟩ = some (.string t) ∧ W.cell? ⟨gx, 2, none⟩ = some (.slice A2 nb.length c2) ∧ Below wx.heap.size wx W)
                (first | exact ⟨hs1, hs2, hs3, hs4⟩ | exact ⟨f0, f1, f2, f3⟩ | exact ⟨f0d, f1d, f2d, f3d⟩)
                (first
                  | (go_at_call 35; (first | (with_reducible refine (C1.out _ hs1 hs2 hs3 hs4).mono ?_) | (with_reducible refine (C1.out _ f0d f1d f2d f3d).mono ?_) | fail); rintro e wn ⟨rfl, hs1, hs2, hs3, hs4⟩)
                  | (go_at_call 36; (first | (with_reducible refine (C2.out _ hs1 hs2 hs3 hs4).mono ?_) | (with_reducible refine (C2.out _ f0d f1d f2d f3d).mono ?_) | fail); rintro e wn ⟨rfl, hs1, hs2, hs3, hs4⟩)
                  | fail)
              all_goals
                have HBN := hide hs4
                go_wp2_with fail
                go_roundw
                case rel => exact ⟨0 + 1, by omega, by go_num, HBN.out⟩
                case measure => simp [intOf]
            | 1, _ =>
              have r1 := (hbi.cell (p := ⟨gb, 1, none⟩) hgb1).trans P1.out
              clear hbi
              obtain ⟨o, ho⟩ : ∃ o, encG (kb, t.data.toList, nb) true = o := ⟨_, rfl⟩
              have hts := HTS.out
              have EN := hide (fun W (hb : Below wx.heap.size wx W) => gEncode_any kb t nb true A2 c2 hts HSN.out W (HMX.out.below (HBX.out.trans (hb.mono HBX.out.size))) ((Sl.ok RRdn.ok).below KN.out hb))
              have REN := hide (fun W (hb : Below wx.heap.size wx W) => rEncodeG_any kb t nb true A2 c2 hts HSN.out W (HMX.out.below (HBX.out.trans (hb.mono HBX.out.size))) ((Sl.ok RRdn.ok).below KN.out hb))
              rw [ho] at EN REN
              obtain ⟨E, hE⟩ : ∃ E : ByteArray, (⟨o.1.toArray⟩ : ByteArray) = E := ⟨_, rfl⟩
              obtain ⟨ke, hke⟩ : ∃ k, o.2 = k := ⟨_, rfl⟩
              have HWR := hide (show wrapR o = .tuple #[.string E, .int .i64 ke] by rw [wrapR, hE, hke])
              obtain ⟨q, hq⟩ : ∃ q, chkG (kb, t.data.toList, nb) true = q := ⟨_, rfl⟩
              have C1 := hide (fun W (h0 : W.cell? ⟨gx, 0, none⟩ = some (.int .i64 kb)) (h1 : W.cell? ⟨gx, 1, none⟩ = some (.string t)) (h2 : W.cell? ⟨gx, 2, none⟩ = some (.slice A2 nb.length c2)) (hb : Below wx.heap.size wx W) =>
                (gCheck_any kb t nb true A2 c2 (by omega) HSN.out q hq W (HMX.out.below (HBX.out.trans (hb.mono HBX.out.size))) ((Sl.ok RRdn.ok).below KN.out hb)).mono (R' := fun e W' => e = .returned (.int .i64 q) ∧ W'.cell? ⟨gx, 0, none⟩ = some (.int .i64 kb) ∧ W'.cell? ⟨gx, 1, none⟩ = some (.string t) ∧ W'.cell? ⟨gx, 2, none⟩ = some (.slice A2 nb.length c2) ∧ Below wx.heap.size wx W')
                fun _ _ ⟨he, hb9⟩ => ⟨he, cell_grows hb9 _ _ h0, cell_grows hb9 _ _ h1, cell_grows hb9 _ _ h2, hb.trans (hb9.mono hb.size)⟩)
              have C2 := hide (fun W (h0 : W.cell? ⟨gx, 0, none⟩ = some (.int .i64 kb)) (h1 : W.cell? ⟨gx, 1, none⟩ = some (.string t)) (h2 : W.cell? ⟨gx, 2, none⟩ = some (.slice A2 nb.length c2)) (hb : Below wx.heap.size wx W) =>
                (rCheckG_any kb t nb true A2 c2 (by omega) HSN.out q hq W (HMX.out.below (HBX.out.trans (hb.mono HBX.out.size))) ((Sl.ok RRdn.ok).below KN.out hb)).mono (R' := fun e W' => e = .returned (.int .i64 q) ∧ W'.cell? ⟨gx, 0, none⟩ = some (.int .i64 kb) ∧ W'.cell? ⟨gx, 1, none⟩ = some (.string t) ∧ W'.cell? ⟨gx, 2, none⟩ = some (.slice A2 nb.length c2) ∧ Below wx.heap.size wx W')
                fun _ _ ⟨he, hb9⟩ => ⟨he, cell_grows hb9 _ _ h0, cell_grows hb9 _ _ h1, cell_grows hb9 _ _ h2, hb.trans (hb9.mono hb.size)⟩)
              have s1 : (q != q) = false := by simp
              have s2 : (E.toList != E.toList) = false := by simp
              have s3 : (ke != ke) = false := by simp
              clear ho hE hke hq hts
              go_wp2_with fail
              refine (EN.out _ HBI.out).mono ?_
              rintro e w5 ⟨rfl, hb5⟩
              rw [HWR.out]
              have HB5 := hide (HBI.out.trans (hb5.mono HBI.out.size))
              have z0 := cell_grows hb5 _ _ z0
              have z1 := cell_grows hb5 _ _ z1
              have z2 := cell_grows hb5 _ _ z2
              clear hb5 r1
              go_wp2_with fail
              refine (REN.out _ HB5.out).mono ?_
              rintro e w6 ⟨rfl, hb6⟩
              rw [HWR.out]
              have f3 := HB5.out.trans (hb6.mono HB5.out.size)
              have f0 := cell_grows hb6 _ _ z0
              have f1 := cell_grows hb6 _ _ z1
              have f2 := cell_grows hb6 _ _ z2
              have f0d : w6.drew.cell? ⟨gx, 0, none⟩ = some (.int .i64 kb) := f0
              have f1d : w6.drew.cell? ⟨gx, 1, none⟩ = some (.string t) := f1
              have f2d : w6.drew.cell? ⟨gx, 2, none⟩ = some (.slice A2 nb.length c2) := f2
              have f3d := f3.drew
              clear hb6 z0 z1 z2
              go_upto_region 11 with fail
              go_region_held3 (fun W => W.cell? ⟨gx, 0, none⟩ = some (.int .i64 kb) ∧ W.cell? ⟨gx, 1, none⟩ = some (.string t) ∧ W.cell? ⟨gx, 2, none⟩ = some (.slice A2 nb.length c2) ∧ Below wx.heap.size wx W)
                (first | exact ⟨hs1, hs2, hs3, hs4⟩ | exact ⟨f0, f1, f2, f3⟩ | exact ⟨f0d, f1d, f2d, f3d⟩)
                (first
                  | (go_at_call 35; (first | (with_reducible refine (C1.out _ hs1 hs2 hs3 hs4).mono ?_) | (with_reducible refine (C1.out _ f0d f1d f2d f3d).mono ?_) | fail); rintro e wn ⟨rfl, hs1, hs2, hs3, hs4⟩)
                  | (go_at_call 36; (first | (with_reducible refine (C2.out _ hs1 hs2 hs3 hs4).mono ?_) | (with_reducible refine (C2.out _ f0d f1d f2d f3d).mono ?_) | fail); rintro e wn ⟨rfl, hs1, hs2, hs3, hs4⟩)
                  | fail)
              all_goals
                have HBN := hide hs4
                go_wp2_with fail
                go_roundw
                case rel => exact ⟨1 + 1, by omega, by go_num, HBN.out⟩
                case measure => simp [intOf]
            | 2, _ =>
              clear z0 z1 z2
              have HBO := hide (HBXW.out.trans (hbi.mono HBXW.out.size))
              clear hbi
              go_wp2_with fail
              go_roundw
              case rel => exact ⟨m + 1, by omega, by go_num, HBO.out⟩
              case measure => simp [intOf]; omega
        · go_wp2_with fail
          refine (awake9_any _ (HMX.out.below HB.out)).mono ?_
          rintro e wz ⟨rfl, hbz⟩
          go_wp2_with fail
          go_ret
          exact ⟨rfl, HB.out.trans (hbz.mono HB.out.size)⟩
end Go.Proofs.YtinmfgbdadchjaaGreatDoor
