/- The law GnameMatch, its walk. -/
import Derived.Test.YtodapmkdmkhhfaaGreatDoorGmA
namespace Go.Proofs.YtodapmkdmkhhfaaGreatDoor
open Go.RowKit

set_option maxRecDepth 100000 in
set_option maxHeartbeats 16000000 in
theorem GnameMatch_any (a b : Gen) (ta tb : ByteArray) (l : List Int) (Aa Ab A0 : Option Addr) (ca cb n0 c0 : Nat) (hta : ta.data.toList = a.2.1) (htb : tb.data.toList = b.2.1) (w : World) (hmx : Mx w)
    (h1 : Sl RRdn 1 w (Lt w.heap.size) a.2.2 [.slice Aa a.2.2.length ca]) (h2 : Sl RRdn 1 w (Lt w.heap.size) b.2.2 [.slice Ab b.2.2.length cb]) (h : Sl RInt 1 w (Lt w.heap.size) l [.slice A0 n0 c0]) :
    Calls Tryz.prog 6 #[.agg #[.int .i64 a.1, .string ta, .slice Aa a.2.2.length ca], .agg #[.int .i64 b.1, .string tb, .slice Ab b.2.2.length cb], .slice A0 n0 c0] w fun e w' => e = .returned (.bool true) ∧ Below w.heap.size w w' := by
  have HMX := hide hmx
  have K0 := hide h
  have K1 := hide h1
  have K2 := hide h2
  have HTA := hide hta
  have HTB := hide htb
  obtain ⟨wa, hwa⟩ : ∃ wa, wa = (w.alloc (.cells #[.int .i64 a.1, .string ta, .slice Aa a.2.2.length ca] 32)).alloc (.cells #[.int .i64 b.1, .string tb, .slice Ab b.2.2.length cb] 32) := ⟨_, rfl⟩
  have hz1 : (w.alloc (.cells #[.int .i64 a.1, .string ta, .slice Aa a.2.2.length ca] 32)).heap.size = w.heap.size + 1 := by simp
  have hga : GB w.heap.size a.1 ta (.slice Aa a.2.2.length ca) wa := by
    unfold GB
    rw [hwa, Below.heap_alloc _ _ _ (by simp)]
    exact heap_alloc_new w _
  have hgb : GB (w.heap.size + 1) b.1 tb (.slice Ab b.2.2.length cb) wa := by
    unfold GB
    rw [hwa, ← hz1]
    exact heap_alloc_new _ _
  have hba : Below w.heap.size w wa := by rw [hwa]; exact ((Below.refl _ _).alloc (Nat.le_refl _) _).alloc (by simp) _
  have hza : wa.heap.size = w.heap.size + 2 := by rw [hwa]; simp
  obtain ⟨g3, hg3⟩ : ∃ g, g = w.heap.size := ⟨_, rfl⟩
  obtain ⟨g4, hg4⟩ : ∃ g, g = w.heap.size + 1 := ⟨_, rfl⟩
  rw [← hg3] at hga
  rw [← hg4] at hgb
  have h3a : g3 < wa.heap.size := by omega
  have h4a : g4 < wa.heap.size := by omega
  obtain ⟨a0, a1, a2, -, -, -⟩ := hga.facts
  obtain ⟨b0, b1, b2, -, -, -⟩ := hgb.facts
  have HGA := hide hga
  have HGB := hide hgb
  have HBA := hide hba
  have HWA := hide hwa
  have HG3 := hide hg3
  have HG4 := hide hg4
  obtain ⟨p1, hp1⟩ : ∃ p, shortGs [a] = p := ⟨_, rfl⟩
  obtain ⟨p2, hp2⟩ : ∃ p, shortGs [b] = p := ⟨_, rfl⟩
  have HP1 := hide hp1
  have HP2 := hide hp2
  clear hmx h h1 h2 hta htb hwa hz1 hga hgb hba hza hg3 hg4 hp1 hp2
  go_enter Tryz.func6, Tryz.ntmps6
  go_upto_region 1 with (fail)
  rw [← HWA.out, ← HG4.out, ← HG3.out]
  go_wp2_with fail
  refine (short9_any a ta Aa ca p1 HP1.out HTA.out _ ((Sl.ok RRdn.ok).below K1.out HBA.out)).mono ?_
  rintro e w1 ⟨rfl, hb1⟩
  have HB1 := hide (HBA.out.trans (hb1.mono HBA.out.size))
  have HC1 := hide hb1
  clear hb1 a0 a1 a2 b0 b1 b2
  cases p1
  · go_wp2_with fail
    refine (awake9_any _ (HMX.out.below HB1.out)).mono ?_
    rintro e wz ⟨rfl, hbz⟩
    go_wp2_with fail
    go_ret
    exact ⟨rfl, HB1.out.trans (hbz.mono HB1.out.size)⟩
  · obtain ⟨b0, b1, b2, -, -, -⟩ := (HGB.out.below HC1.out).facts
    go_wp2_with fail
    refine (short9_any b tb Ab cb p2 HP2.out HTB.out _ ((Sl.ok RRdn.ok).below K2.out HB1.out)).mono ?_
    rintro e w2 ⟨rfl, hb2⟩
    have HB2 := hide (HB1.out.trans (hb2.mono HB1.out.size))
    have HC2 := hide (HC1.out.trans (hb2.mono HC1.out.size))
    clear hb2 b0 b1 b2
    cases p2
    · go_wp2_with fail
      refine (awake9_any _ (HMX.out.below HB2.out)).mono ?_
      rintro e wz ⟨rfl, hbz⟩
      go_wp2_with fail
      go_ret
      exact ⟨rfl, HB2.out.trans (hbz.mono HB2.out.size)⟩
    · have HSA := hide (show SmallG a from shortGs_small HP1.out a (by simp))
      have HSB := hide (show SmallG b from shortGs_small HP2.out b (by simp))
      go_wp2_with fail
      refine (New_any l A0 n0 c0 _ ((Sl.ok RInt.ok).below K0.out HB2.out)).mono ?_
      rintro e w3 ⟨rfl, hdk3, hb3⟩
      obtain ⟨d, hd⟩ : ∃ d, d = w2.heap.size := ⟨_, rfl⟩
      rw [← hd] at hdk3 ⊢
      have h3d : g3 < d := by have := HC2.out.size; omega
      have h4d : g4 < d := by have := HC2.out.size; omega
      have hwd : w.heap.size ≤ d := by rw [hd]; exact HB2.out.size
      have HB3 := hide (HB2.out.trans (hb3.mono HB2.out.size))
      have HC3 := hide (HC2.out.trans (hb3.mono HC2.out.size))
      have HDK3 := hide hdk3
      clear hb3 hdk3 hd
      go_wp2_with fail
      refine (General_any d _ HDK3.out).mono ?_
      rintro e w4 ⟨x8, t8, A8, c8, hg8, ht8, rfl, hsl8, hdk4, hex4⟩
      have HDK4 := hide hdk4
      clear hdk4
      go_wp2_with fail
      refine (General_any d _ HDK4.out).mono ?_
      rintro e w5 ⟨x9, t9, A9, c9, hg9, ht9, rfl, hsl9, hdk5, hex5⟩
      have HDK5 := hide hdk5
      clear hdk5
      go_wp2_with fail
      refine (Base_any d _ HDK5.out).mono ?_
      rintro e w6 ⟨x10, t10, A10, c10, hg10, ht10, rfl, hsl10, hdk6, hex6⟩
      have HDK6 := hide hdk6
      clear hdk6
      go_upto_region 5 with (fail)
      obtain ⟨w7, hw7⟩ : ∃ w7, w7 = ((w6.alloc (.cells #[.int .i64 x8.1, .string t8, .slice A8 x8.2.2.length c8] 32)).alloc (.cells #[.int .i64 x9.1, .string t9, .slice A9 x9.2.2.length c9] 32)).alloc (.cells #[.int .i64 x10.1, .string t10, .slice A10 x10.2.2.length c10] 32) := ⟨_, rfl⟩
      obtain ⟨g8, hg8'⟩ : ∃ g, g = w6.heap.size := ⟨_, rfl⟩
      obtain ⟨g9, hg9'⟩ : ∃ g, g = w6.heap.size + 1 := ⟨_, rfl⟩
      obtain ⟨g10, hg10'⟩ : ∃ g, g = w6.heap.size + 1 + 1 := ⟨_, rfl⟩
      rw [← hw7, ← hg10', ← hg9', ← hg8']
      have hz7 : w7.heap.size = w6.heap.size + 3 := by rw [hw7]; simp
      have hex47 : Ex d w4 w7 := by rw [hw7]; exact ((((hex5.trans hex6).alloc _).alloc _).alloc _)
      have hex57 : Ex d w5 w7 := by rw [hw7]; exact (((hex6.alloc _).alloc _).alloc _)
      have hex67 : Ex d w6 w7 := by rw [hw7]; exact ((((Ex.refl d w6).alloc _).alloc _).alloc _)
      have hex37 : Ex d w3 w7 := hex4.trans hex47
      have hd3 := HDK3.out.lt
      have hd4 := HDK4.out.lt
      have hd5 := HDK5.out.lt
      have hz4 := hex4.size
      have hz5 := hex5.size
      have hz6 := hex6.size
      have G8 := hide (show GB g8 x8.1 t8 (.slice A8 x8.2.2.length c8) w7 by
        unfold GB
        rw [hw7, hg8', Below.heap_alloc _ _ _ (by simp <;> omega), Below.heap_alloc _ _ _ (by simp <;> omega)]
        exact heap_alloc_new w6 _)
      have G9 := hide (show GB g9 x9.1 t9 (.slice A9 x9.2.2.length c9) w7 by
        unfold GB
        rw [hw7, hg9', Below.heap_alloc _ _ _ (by simp <;> omega), show w6.heap.size + 1 = (w6.alloc (.cells #[.int .i64 x8.1, .string t8, .slice A8 x8.2.2.length c8] 32)).heap.size by simp]
        exact heap_alloc_new _ _)
      have G10 := hide (show GB g10 x10.1 t10 (.slice A10 x10.2.2.length c10) w7 by
        unfold GB
        rw [hw7, hg10', show w6.heap.size + 1 + 1 = ((w6.alloc (.cells #[.int .i64 x8.1, .string t8, .slice A8 x8.2.2.length c8] 32)).alloc (.cells #[.int .i64 x9.1, .string t9, .slice A9 x9.2.2.length c9] 32)).heap.size by simp]
        exact heap_alloc_new _ _)
      have G3 := hide (show GB g3 a.1 ta (.slice Aa a.2.2.length ca) w7 from (HGA.out.below HC3.out).ex hex37 (by omega))
      have G4 := hide (show GB g4 b.1 tb (.slice Ab b.2.2.length cb) w7 from (HGB.out.below HC3.out).ex hex37 (by omega))
      have HDK7 := hide (show DeckAt w7 d by rw [hw7]; exact ((HDK6.out.alloc _).alloc _).alloc _)
      have HEX37 := hide hex37
      have S8 := hide (show Sl RRdn 1 w7 (fun j => j < g8 ∧ j ≠ d) x8.2.2 [.slice A8 x8.2.2.length c8] from (Sl.ok RRdn.ok).mono hsl8 (fun j hj => hex47.at_ hj.2 (by have := hj.1; omega)) (fun j hj => ⟨by have := hj.2; omega, by have := hj.1; omega⟩))
      have S9 := hide (show Sl RRdn 1 w7 (fun j => j < g8 ∧ j ≠ d) x9.2.2 [.slice A9 x9.2.2.length c9] from (Sl.ok RRdn.ok).mono hsl9 (fun j hj => hex57.at_ hj.2 (by have := hj.1; omega)) (fun j hj => ⟨by have := hj.2; omega, by have := hj.1; omega⟩))
      have S10 := hide (show Sl RRdn 1 w7 (fun j => j < g8 ∧ j ≠ d) x10.2.2 [.slice A10 x10.2.2.length c10] from (Sl.ok RRdn.ok).mono hsl10 (fun j hj => hex67.at_ hj.2 (by have := hj.1; omega)) (fun j hj => ⟨by have := hj.2; omega, by have := hj.1; omega⟩))
      have HT8 := hide ht8
      have HT9 := hide ht9
      have HT10 := hide ht10
      have HS8 := hide hg8.small
      have HS9 := hide hg9.small
      have HS10 := hide hg10.small
      have hd8 : d < g8 := by omega
      have hd9 : d < g9 := by omega
      have hd10 : d < g10 := by omega
      have h87 : g8 < w7.heap.size := by omega
      have HDW7 := hide (show d < w7.heap.size by omega)
      clear hw7 hg8' hg9' hg10' hex47 hex57 hex67 hex37 hex4 hex5 hex6 hsl8 hsl9 hsl10 hg8 hg9 hg10 ht8 ht9 ht10 hz4 hz5 hz6 hd3 hd4 hd5 hz7
      go_wp2_with fail
      refine (some_any d w7 HDK7.out).mono ?_
      rintro e w8 ⟨x11, t11, A11, c11, hs11, ht11, rfl, hsl11, hdk8, hex8⟩
      have hz8 := hex8.size
      obtain ⟨w9, hw9⟩ : ∃ w9, w9 = w8.alloc (.cells #[.int .i64 x11.1, .string t11, .slice A11 x11.2.2.length c11] 32) := ⟨_, rfl⟩
      obtain ⟨g11, hg11⟩ : ∃ g, g = w8.heap.size := ⟨_, rfl⟩
      have hex79 : Ex d w7 w9 := by rw [hw9]; exact hex8.alloc _
      have N11 := hide (show GB g11 x11.1 t11 (.slice A11 x11.2.2.length c11) w9 by rw [hw9, hg11]; exact heap_alloc_new w8 _)
      have N3 := hide (G3.out.ex hex79 (by omega))
      have N4 := hide (G4.out.ex hex79 (by omega))
      have N8 := hide (G8.out.ex hex79 (by omega))
      have N9 := hide (G9.out.ex hex79 (by omega))
      have N10 := hide (G10.out.ex hex79 (by omega))
      have HDK9 := hide (show DeckAt w9 d by rw [hw9]; exact hdk8.alloc _)
      have HEX39 := hide (HEX37.out.trans hex79)
      have HEX79 := hide hex79
      have S11 := hide (show Sl RRdn 1 w9 (fun j => j < g11 ∧ j ≠ d) x11.2.2 [.slice A11 x11.2.2.length c11] from (Sl.ok RRdn.ok).mono hsl11 (fun j hj => by rw [hw9]; exact Below.heap_alloc _ _ j hj.2) (fun j hj => ⟨by have := hj.2; omega, by have := hj.1; have := HDW7.out; omega⟩))
      have HT11 := hide ht11
      have HS11 := hide hs11
      have hd11 : d < g11 := by have := HDW7.out; omega
      have h119 : g11 < w9.heap.size := by rw [hw9, hg11]; simp
      have HW9 := hide hw9
      have HG11 := hide hg11
      clear hs11 ht11 hsl11 hdk8 hex8 hz8 hw9 hg11 hex79
      go_upto_region 6 with (fail)
      rw [← HW9.out, ← HG11.out]
      obtain ⟨y1, y2, y3, -, -, -⟩ := N3.out.facts
      obtain ⟨y4, y5, y6, -, -, -⟩ := N4.out.facts
      obtain ⟨y7, y8, y9, -, -, -⟩ := N8.out.facts
      obtain ⟨y10, y11, y12, -, -, -⟩ := N9.out.facts
      obtain ⟨y13, y14, y15, -, -, -⟩ := N10.out.facts
      obtain ⟨y16, y17, y18, -, -, -⟩ := N11.out.facts
      have y1d : w9.drew.cell? ⟨g3, 0, none⟩ = some (.int .i64 a.1) := y1
      have y2d : w9.drew.cell? ⟨g3, 1, none⟩ = some (.string ta) := y2
      have y3d : w9.drew.cell? ⟨g3, 2, none⟩ = some (.slice Aa a.2.2.length ca) := y3
      have y4d : w9.drew.cell? ⟨g4, 0, none⟩ = some (.int .i64 b.1) := y4
      have y5d : w9.drew.cell? ⟨g4, 1, none⟩ = some (.string tb) := y5
      have y6d : w9.drew.cell? ⟨g4, 2, none⟩ = some (.slice Ab b.2.2.length cb) := y6
      have y7d : w9.drew.cell? ⟨g8, 0, none⟩ = some (.int .i64 x8.1) := y7
      have y8d : w9.drew.cell? ⟨g8, 1, none⟩ = some (.string t8) := y8
      have y9d : w9.drew.cell? ⟨g8, 2, none⟩ = some (.slice A8 x8.2.2.length c8) := y9
      have y10d : w9.drew.cell? ⟨g9, 0, none⟩ = some (.int .i64 x9.1) := y10
      have y11d : w9.drew.cell? ⟨g9, 1, none⟩ = some (.string t9) := y11
      have y12d : w9.drew.cell? ⟨g9, 2, none⟩ = some (.slice A9 x9.2.2.length c9) := y12
      have y13d : w9.drew.cell? ⟨g10, 0, none⟩ = some (.int .i64 x10.1) := y13
      have y14d : w9.drew.cell? ⟨g10, 1, none⟩ = some (.string t10) := y14
      have y15d : w9.drew.cell? ⟨g10, 2, none⟩ = some (.slice A10 x10.2.2.length c10) := y15
      have y16d : w9.drew.cell? ⟨g11, 0, none⟩ = some (.int .i64 x11.1) := y16
      have y17d : w9.drew.cell? ⟨g11, 1, none⟩ = some (.string t11) := y17
      have y18d : w9.drew.cell? ⟨g11, 2, none⟩ = some (.slice A11 x11.2.2.length c11) := y18
      have lg3 : g3 < w9.drew.heap.size := World.block_lt_of_cell? w9 ⟨g3, 0, none⟩ y1
      have ng3 : g3 ≠ d := by omega
      have lg4 : g4 < w9.drew.heap.size := World.block_lt_of_cell? w9 ⟨g4, 0, none⟩ y4
      have ng4 : g4 ≠ d := by omega
      have lg8 : g8 < w9.drew.heap.size := World.block_lt_of_cell? w9 ⟨g8, 0, none⟩ y7
      have ng8 : g8 ≠ d := by omega
      have lg9 : g9 < w9.drew.heap.size := World.block_lt_of_cell? w9 ⟨g9, 0, none⟩ y10
      have ng9 : g9 ≠ d := by omega
      have lg10 : g10 < w9.drew.heap.size := World.block_lt_of_cell? w9 ⟨g10, 0, none⟩ y13
      have ng10 : g10 ≠ d := by omega
      have lg11 : g11 < w9.drew.heap.size := World.block_lt_of_cell? w9 ⟨g11, 0, none⟩ y16
      have ng11 : g11 ≠ d := by omega
      have hdk9d : DeckAt w9.drew d := HDK9.out.drewN 1
      go_region_held3 (fun W => W.cell? ⟨g3, 0, none⟩ = some (.int .i64 a.1) ∧ W.cell? ⟨g3, 1, none⟩ = some (.string ta) ∧ W.cell? ⟨g3, 2, none⟩ = some (.slice Aa a.2.2.length ca) ∧ W.cell? ⟨g4, 0, none⟩ = some (.int .i64 b.1) ∧ W.cell? ⟨g4, 1, none⟩ = some (.string tb) ∧ W.cell? ⟨g4, 2, none⟩ = some (.slice Ab b.2.2.length cb) ∧ W.cell? ⟨g8, 0, none⟩ = some (.int .i64 x8.1) ∧ W.cell? ⟨g8, 1, none⟩ = some (.string t8) ∧ W.cell? ⟨g8, 2, none⟩ = some (.slice A8 x8.2.2.length c8) ∧ W.cell? ⟨g9, 0, none⟩ = some (.int .i64 x9.1) ∧ W.cell? ⟨g9, 1, none⟩ = some (.string t9) ∧ W.cell? ⟨g9, 2, none⟩ = some (.slice A9 x9.2.2.length c9) ∧ W.cell? ⟨g10, 0, none⟩ = some (.int .i64 x10.1) ∧ W.cell? ⟨g10, 1, none⟩ = some (.string t10) ∧ W.cell? ⟨g10, 2, none⟩ = some (.slice A10 x10.2.2.length c10) ∧ W.cell? ⟨g11, 0, none⟩ = some (.int .i64 x11.1) ∧ W.cell? ⟨g11, 1, none⟩ = some (.string t11) ∧ W.cell? ⟨g11, 2, none⟩ = some (.slice A11 x11.2.2.length c11))
        (first | exact ⟨ha1 _, ha2 _, ha3 _, ha4 _, ha5 _, ha6 _, ha7 _, ha8 _, ha9 _, ha10 _, ha11 _, ha12 _, ha13 _, ha14 _, ha15 _, ha16 _, ha17 _, ha18 _⟩ | exact ⟨hs1, hs2, hs3, hs4, hs5, hs6, hs7, hs8, hs9, hs10, hs11, hs12, hs13, hs14, hs15, hs16, hs17, hs18⟩ | exact ⟨y1, y2, y3, y4, y5, y6, y7, y8, y9, y10, y11, y12, y13, y14, y15, y16, y17, y18⟩ | exact ⟨y1d, y2d, y3d, y4d, y5d, y6d, y7d, y8d, y9d, y10d, y11d, y12d, y13d, y14d, y15d, y16d, y17d, y18d⟩)
        (first
          | (go_at_call 17; refine (Base_any d w9.drew hdk9d).mono ?_; rintro e wB ⟨x12, t12, A12, c12, hg12, ht12, rfl, hsl12, hdkB, hexB⟩; have hs1 := (hexB.cell (p := ⟨g3, 0, none⟩) lg3 ng3).trans y1d; have hs2 := (hexB.cell (p := ⟨g3, 1, none⟩) lg3 ng3).trans y2d; have hs3 := (hexB.cell (p := ⟨g3, 2, none⟩) lg3 ng3).trans y3d; have hs4 := (hexB.cell (p := ⟨g4, 0, none⟩) lg4 ng4).trans y4d; have hs5 := (hexB.cell (p := ⟨g4, 1, none⟩) lg4 ng4).trans y5d; have hs6 := (hexB.cell (p := ⟨g4, 2, none⟩) lg4 ng4).trans y6d; have hs7 := (hexB.cell (p := ⟨g8, 0, none⟩) lg8 ng8).trans y7d; have hs8 := (hexB.cell (p := ⟨g8, 1, none⟩) lg8 ng8).trans y8d; have hs9 := (hexB.cell (p := ⟨g8, 2, none⟩) lg8 ng8).trans y9d; have hs10 := (hexB.cell (p := ⟨g9, 0, none⟩) lg9 ng9).trans y10d; have hs11 := (hexB.cell (p := ⟨g9, 1, none⟩) lg9 ng9).trans y11d; have hs12 := (hexB.cell (p := ⟨g9, 2, none⟩) lg9 ng9).trans y12d; have hs13 := (hexB.cell (p := ⟨g10, 0, none⟩) lg10 ng10).trans y13d; have hs14 := (hexB.cell (p := ⟨g10, 1, none⟩) lg10 ng10).trans y14d; have hs15 := (hexB.cell (p := ⟨g10, 2, none⟩) lg10 ng10).trans y15d; have hs16 := (hexB.cell (p := ⟨g11, 0, none⟩) lg11 ng11).trans y16d; have hs17 := (hexB.cell (p := ⟨g11, 1, none⟩) lg11 ng11).trans y17d; have hs18 := (hexB.cell (p := ⟨g11, 2, none⟩) lg11 ng11).trans y18d; have ha1 := fun ob => (World.cell?_alloc_lt wB ob ⟨g3, 0, none⟩ (World.block_lt_of_cell? wB ⟨g3, 0, none⟩ hs1)).trans hs1; have ha2 := fun ob => (World.cell?_alloc_lt wB ob ⟨g3, 1, none⟩ (World.block_lt_of_cell? wB ⟨g3, 1, none⟩ hs2)).trans hs2; have ha3 := fun ob => (World.cell?_alloc_lt wB ob ⟨g3, 2, none⟩ (World.block_lt_of_cell? wB ⟨g3, 2, none⟩ hs3)).trans hs3; have ha4 := fun ob => (World.cell?_alloc_lt wB ob ⟨g4, 0, none⟩ (World.block_lt_of_cell? wB ⟨g4, 0, none⟩ hs4)).trans hs4; have ha5 := fun ob => (World.cell?_alloc_lt wB ob ⟨g4, 1, none⟩ (World.block_lt_of_cell? wB ⟨g4, 1, none⟩ hs5)).trans hs5; have ha6 := fun ob => (World.cell?_alloc_lt wB ob ⟨g4, 2, none⟩ (World.block_lt_of_cell? wB ⟨g4, 2, none⟩ hs6)).trans hs6; have ha7 := fun ob => (World.cell?_alloc_lt wB ob ⟨g8, 0, none⟩ (World.block_lt_of_cell? wB ⟨g8, 0, none⟩ hs7)).trans hs7; have ha8 := fun ob => (World.cell?_alloc_lt wB ob ⟨g8, 1, none⟩ (World.block_lt_of_cell? wB ⟨g8, 1, none⟩ hs8)).trans hs8; have ha9 := fun ob => (World.cell?_alloc_lt wB ob ⟨g8, 2, none⟩ (World.block_lt_of_cell? wB ⟨g8, 2, none⟩ hs9)).trans hs9; have ha10 := fun ob => (World.cell?_alloc_lt wB ob ⟨g9, 0, none⟩ (World.block_lt_of_cell? wB ⟨g9, 0, none⟩ hs10)).trans hs10; have ha11 := fun ob => (World.cell?_alloc_lt wB ob ⟨g9, 1, none⟩ (World.block_lt_of_cell? wB ⟨g9, 1, none⟩ hs11)).trans hs11; have ha12 := fun ob => (World.cell?_alloc_lt wB ob ⟨g9, 2, none⟩ (World.block_lt_of_cell? wB ⟨g9, 2, none⟩ hs12)).trans hs12; have ha13 := fun ob => (World.cell?_alloc_lt wB ob ⟨g10, 0, none⟩ (World.block_lt_of_cell? wB ⟨g10, 0, none⟩ hs13)).trans hs13; have ha14 := fun ob => (World.cell?_alloc_lt wB ob ⟨g10, 1, none⟩ (World.block_lt_of_cell? wB ⟨g10, 1, none⟩ hs14)).trans hs14; have ha15 := fun ob => (World.cell?_alloc_lt wB ob ⟨g10, 2, none⟩ (World.block_lt_of_cell? wB ⟨g10, 2, none⟩ hs15)).trans hs15; have ha16 := fun ob => (World.cell?_alloc_lt wB ob ⟨g11, 0, none⟩ (World.block_lt_of_cell? wB ⟨g11, 0, none⟩ hs16)).trans hs16; have ha17 := fun ob => (World.cell?_alloc_lt wB ob ⟨g11, 1, none⟩ (World.block_lt_of_cell? wB ⟨g11, 1, none⟩ hs17)).trans hs17; have ha18 := fun ob => (World.cell?_alloc_lt wB ob ⟨g11, 2, none⟩ (World.block_lt_of_cell? wB ⟨g11, 2, none⟩ hs18)).trans hs18)
          | fail)
      clear hs1 ha1 y1 y1d hs2 ha2 y2 y2d hs3 ha3 y3 y3d hs4 ha4 y4 y4d hs5 ha5 y5 y5d hs6 ha6 y6 y6d hs7 ha7 y7 y7d hs8 ha8 y8 y8d hs9 ha9 y9 y9d hs10 ha10 y10 y10d hs11 ha11 y11 y11d hs12 ha12 y12 y12d hs13 ha13 y13 y13d hs14 ha14 y14 y14d hs15 ha15 y15 y15d hs16 ha16 y16 y16d hs17 ha17 y17 y17d hs18 ha18 y18 y18d
      have hdB := HDK9.out.lt
      have hz9B : w9.heap.size ≤ wB.heap.size := hexB.size
      have hexr : Ex d w9 wB := (Ex.refl d w9).drew.trans hexB
      have hex3B : Ex d w3 wB := HEX39.out.trans hexr
      have hex7B : Ex d w7 wB := HEX79.out.trans hexr
      have hbB : Below w.heap.size w wB := Ex.below HB3.out HB3.out.size hwd hex3B
      obtain ⟨wD, hwD⟩ : ∃ wD, wD = wB.alloc (.cells #[.int .i64 a.1, .string ta, .slice Aa a.2.2.length ca, .int .i64 b.1, .string tb, .slice Ab b.2.2.length cb, .int .i64 x8.1, .string t8, .slice A8 x8.2.2.length c8, .int .i64 x9.1, .string t9, .slice A9 x9.2.2.length c9, .int .i64 x8.1, .string t8, .slice A8 x8.2.2.length c8, .int .i64 x8.1, .string t8, .slice A8 x8.2.2.length c8, .int .i64 x8.1, .string t8, .slice A8 x8.2.2.length c8, .int .i64 x10.1, .string t10, .slice A10 x10.2.2.length c10, .int .i64 x10.1, .string t10, .slice A10 x10.2.2.length c10, .int .i64 x12.1, .string t12, .slice A12 x12.2.2.length c12, .int .i64 x11.1, .string t11, .slice A11 x11.2.2.length c11, .int .i64 x8.1, .string t8, .slice A8 x8.2.2.length c8, .int .i64 x8.1, .string t8, .slice A8 x8.2.2.length c8, .int .i64 x11.1, .string t11, .slice A11 x11.2.2.length c11, .int .i64 a.1, .string ta, .slice Aa a.2.2.length ca, .int .i64 x11.1, .string t11, .slice A11 x11.2.2.length c11] 59) := ⟨_, rfl⟩
      obtain ⟨gS, hgS⟩ : ∃ g, g = wB.heap.size := ⟨_, rfl⟩
      have up : ∀ {x : Gen} {A : Option Addr} {c : Nat} {S : Nat → Prop} {W : World}, Sl RRdn 1 W S x.2.2 [.slice A x.2.2.length c] → (∀ j, S j → wB.heap[j]? = W.heap[j]?) → (∀ j, S j → j < wB.heap.size) → Sl RRdn 1 wD (Lt wD.heap.size) x.2.2 [.slice A x.2.2.length c] := fun h hk hl => (Sl.ok RRdn.ok).mono h (fun j hj => by rw [hwD, Below.heap_alloc _ _ j (hl j hj)]; exact hk j hj) (fun j hj => by show j < _; have := hl j hj; rw [hwD]; simp; omega)
      have Ra := up K1.out (fun j hj => hbB.block j hj) (fun j hj => Nat.lt_of_lt_of_le hj hbB.size)
      have Rb := up K2.out (fun j hj => hbB.block j hj) (fun j hj => Nat.lt_of_lt_of_le hj hbB.size)
      have R8 := up S8.out (fun j hj => hex7B.at_ (by have := hj.1; omega) hj.2) (fun j hj => by have := hj.1; have := hex7B.size; omega)
      have R9 := up S9.out (fun j hj => hex7B.at_ (by have := hj.1; omega) hj.2) (fun j hj => by have := hj.1; have := hex7B.size; omega)
      have R10 := up S10.out (fun j hj => hex7B.at_ (by have := hj.1; omega) hj.2) (fun j hj => by have := hj.1; have := hex7B.size; omega)
      have R11 := up S11.out (fun j hj => hexr.at_ (by have := hj.1; omega) hj.2) (fun j hj => by have := hj.1; omega)
      have R12 := up hsl12 (fun _ _ => rfl) (fun j hj => hj.2)
      have hcell : ∀ i v, (#[.int .i64 a.1, .string ta, .slice Aa a.2.2.length ca, .int .i64 b.1, .string tb, .slice Ab b.2.2.length cb, .int .i64 x8.1, .string t8, .slice A8 x8.2.2.length c8, .int .i64 x9.1, .string t9, .slice A9 x9.2.2.length c9, .int .i64 x8.1, .string t8, .slice A8 x8.2.2.length c8, .int .i64 x8.1, .string t8, .slice A8 x8.2.2.length c8, .int .i64 x8.1, .string t8, .slice A8 x8.2.2.length c8, .int .i64 x10.1, .string t10, .slice A10 x10.2.2.length c10, .int .i64 x10.1, .string t10, .slice A10 x10.2.2.length c10, .int .i64 x12.1, .string t12, .slice A12 x12.2.2.length c12, .int .i64 x11.1, .string t11, .slice A11 x11.2.2.length c11, .int .i64 x8.1, .string t8, .slice A8 x8.2.2.length c8, .int .i64 x8.1, .string t8, .slice A8 x8.2.2.length c8, .int .i64 x11.1, .string t11, .slice A11 x11.2.2.length c11, .int .i64 a.1, .string ta, .slice Aa a.2.2.length ca, .int .i64 x11.1, .string t11, .slice A11 x11.2.2.length c11] : Array Value)[i]? = some v → wD.cell? ⟨gS, i, none⟩ = some v := fun i v h => by rw [hwD, hgS, World.cell?_alloc_new]; exact h
      have HEL := hide (show ∀ k, k < 8 → ∃ (x y : Gen) (tx ty : ByteArray) (Ax Ay : Option Addr) (cx cy : Nat), wD.cell? ⟨gS, k * 6, none⟩ = some (.int .i64 x.1) ∧ wD.cell? ⟨gS, k * 6 + 1, none⟩ = some (.string tx) ∧ wD.cell? ⟨gS, k * 6 + 2, none⟩ = some (.slice Ax x.2.2.length cx) ∧ wD.cell? ⟨gS, k * 6 + 3, none⟩ = some (.int .i64 y.1) ∧ wD.cell? ⟨gS, k * 6 + 4, none⟩ = some (.string ty) ∧ wD.cell? ⟨gS, k * 6 + 5, none⟩ = some (.slice Ay y.2.2.length cy) ∧ tx.data.toList = x.2.1 ∧ ty.data.toList = y.2.1 ∧ Sl RRdn 1 wD (Lt wD.heap.size) x.2.2 [.slice Ax x.2.2.length cx] ∧ Sl RRdn 1 wD (Lt wD.heap.size) y.2.2 [.slice Ay y.2.2.length cy] ∧ SmallG x ∧ SmallG y from fun k hk => by
        match k, hk with
        | 0, _ => exact ⟨a, b, ta, tb, Aa, Ab, ca, cb, hcell _ _ rfl, hcell _ _ rfl, hcell _ _ rfl, hcell _ _ rfl, hcell _ _ rfl, hcell _ _ rfl, HTA.out, HTB.out, Ra, Rb, HSA.out, HSB.out⟩
        | 1, _ => exact ⟨x8, x9, t8, t9, A8, A9, c8, c9, hcell _ _ rfl, hcell _ _ rfl, hcell _ _ rfl, hcell _ _ rfl, hcell _ _ rfl, hcell _ _ rfl, HT8.out, HT9.out, R8, R9, HS8.out, HS9.out⟩
        | 2, _ => exact ⟨x8, x8, t8, t8, A8, A8, c8, c8, hcell _ _ rfl, hcell _ _ rfl, hcell _ _ rfl, hcell _ _ rfl, hcell _ _ rfl, hcell _ _ rfl, HT8.out, HT8.out, R8, R8, HS8.out, HS8.out⟩
        | 3, _ => exact ⟨x8, x10, t8, t10, A8, A10, c8, c10, hcell _ _ rfl, hcell _ _ rfl, hcell _ _ rfl, hcell _ _ rfl, hcell _ _ rfl, hcell _ _ rfl, HT8.out, HT10.out, R8, R10, HS8.out, HS10.out⟩
        | 4, _ => exact ⟨x10, x12, t10, t12, A10, A12, c10, c12, hcell _ _ rfl, hcell _ _ rfl, hcell _ _ rfl, hcell _ _ rfl, hcell _ _ rfl, hcell _ _ rfl, HT10.out, ht12, R10, R12, HS10.out, hg12.small⟩
        | 5, _ => exact ⟨x11, x8, t11, t8, A11, A8, c11, c8, hcell _ _ rfl, hcell _ _ rfl, hcell _ _ rfl, hcell _ _ rfl, hcell _ _ rfl, hcell _ _ rfl, HT11.out, HT8.out, R11, R8, HS11.out, HS8.out⟩
        | 6, _ => exact ⟨x8, x11, t8, t11, A8, A11, c8, c11, hcell _ _ rfl, hcell _ _ rfl, hcell _ _ rfl, hcell _ _ rfl, hcell _ _ rfl, hcell _ _ rfl, HT8.out, HT11.out, R8, R11, HS8.out, HS11.out⟩
        | 7, _ => exact ⟨a, x11, ta, t11, Aa, A11, ca, c11, hcell _ _ rfl, hcell _ _ rfl, hcell _ _ rfl, hcell _ _ rfl, hcell _ _ rfl, hcell _ _ rfl, HTA.out, HT11.out, Ra, R11, HSA.out, HS11.out⟩)
      have HBD := hide (show Below w.heap.size w wD by rw [hwD]; exact hbB.alloc hbB.size _)
      have hgSD : gS < wD.heap.size := by rw [hwD, hgS]; simp
      try rw [← hwD]
      try rw [← hgS]
      clear hwD hgS up Ra Rb R8 R9 R10 R11 R12 hcell hdB hz9B hexr hex3B hex7B hbB hg12 ht12 hsl12 hdkB hexB hdk9d lg3 ng3 lg4 ng4 lg8 ng8 lg9 ng9 lg10 ng10 lg11 ng11
      go_wp2_with fail
      go_loopw [60] (fun i wr => ∃ k : Nat, k ≤ 8 ∧ i = .int .i64 k ∧ Below wD.heap.size wD wr) (fun i _ => 8 - (intOf i).toNat)
      case atStart => exact ⟨0, Nat.zero_le _, rfl, Below.refl _ _⟩
      case round =>
        obtain ⟨k, hk, rfl, hb⟩ := hrel
        by_cases hk8 : k < 8
        · have hk8' : (k : Int) < 8 := by omega
          have hk0 : (0 : Int) ≤ (k : Int) := by omega
          obtain ⟨x, y, tx, ty, Ax, Ay, cx, cy, e0, e1, e2, e3, e4, e5, htx, hty, hrx, hry, hsx, hsy⟩ := HEL.out k hk8
          have z0 := (hb.cell (p := ⟨gS, k * 6, none⟩) hgSD).trans e0
          have z1 := (hb.cell (p := ⟨gS, k * 6 + 1, none⟩) hgSD).trans e1
          have z2 := (hb.cell (p := ⟨gS, k * 6 + 2, none⟩) hgSD).trans e2
          have z3 := (hb.cell (p := ⟨gS, k * 6 + 3, none⟩) hgSD).trans e3
          have z4 := (hb.cell (p := ⟨gS, k * 6 + 4, none⟩) hgSD).trans e4
          have z5 := (hb.cell (p := ⟨gS, k * 6 + 5, none⟩) hgSD).trans e5
          obtain ⟨wy, hwy⟩ : ∃ wy, wy = wr.alloc (.cells #[.int .i64 x.1, .string tx, .slice Ax x.2.2.length cx, .int .i64 y.1, .string ty, .slice Ay y.2.2.length cy] 59) := ⟨_, rfl⟩
          obtain ⟨g13, hg13⟩ : ∃ g, g = wr.heap.size := ⟨_, rfl⟩
          have f1 : wy.cell? ⟨g13, 0, none⟩ = some (.int .i64 x.1) := by rw [hwy, hg13, World.cell?_alloc_new]; rfl
          have f2 : wy.cell? ⟨g13, 1, none⟩ = some (.string tx) := by rw [hwy, hg13, World.cell?_alloc_new]; rfl
          have f3 : wy.cell? ⟨g13, 2, none⟩ = some (.slice Ax x.2.2.length cx) := by rw [hwy, hg13, World.cell?_alloc_new]; rfl
          have f4 : wy.cell? ⟨g13, 3, none⟩ = some (.int .i64 y.1) := by rw [hwy, hg13, World.cell?_alloc_new]; rfl
          have f5 : wy.cell? ⟨g13, 4, none⟩ = some (.string ty) := by rw [hwy, hg13, World.cell?_alloc_new]; rfl
          have f6 : wy.cell? ⟨g13, 5, none⟩ = some (.slice Ay y.2.2.length cy) := by rw [hwy, hg13, World.cell?_alloc_new]; rfl
          have f7 : Below wy.heap.size wy wy := Below.refl _ _
          have hby : Below wD.heap.size wD wy := by rw [hwy]; exact hb.alloc hb.size _
          have hbw : Below w.heap.size w wy := HBD.out.trans (hby.mono HBD.out.size)
          have hxe : (x.1, tx.data.toList, x.2.2) = x := by rw [htx]
          have hye : (y.1, ty.data.toList, y.2.2) = y := by rw [hty]
          have htx9 := size_of_list htx hsx.1
          have hty9 := size_of_list hty hsy.1
          obtain ⟨q1, hq1⟩ : ∃ q, sameG (x.1, tx.data.toList, x.2.2) (y.1, ty.data.toList, y.2.2) = q := ⟨_, rfl⟩
          obtain ⟨q2, hq2⟩ : ∃ q, matchG (x.1, tx.data.toList, x.2.2) (y.1, ty.data.toList, y.2.2) = q := ⟨_, rfl⟩
          obtain ⟨q3, hq3⟩ : ∃ q, withinG (x.1, tx.data.toList, x.2.2) (y.1, ty.data.toList, y.2.2) = q := ⟨_, rfl⟩
          have C1 := hide (fun W (h1 : W.cell? ⟨g13, 0, none⟩ = some (.int .i64 x.1)) (h2 : W.cell? ⟨g13, 1, none⟩ = some (.string tx)) (h3 : W.cell? ⟨g13, 2, none⟩ = some (.slice Ax x.2.2.length cx)) (h4 : W.cell? ⟨g13, 3, none⟩ = some (.int .i64 y.1)) (h5 : W.cell? ⟨g13, 4, none⟩ = some (.string ty)) (h6 : W.cell? ⟨g13, 5, none⟩ = some (.slice Ay y.2.2.length cy)) (h7 : Below wy.heap.size wy W) => (gSame_any x.1 y.1 tx ty x.2.2 y.2.2 Ax Ay cx cy htx9 hty9 hsx.2 hsy.2 q1 hq1 W (HMX.out.below (hbw.trans (h7.mono hbw.size))) ((Sl.ok RRdn.ok).below hrx (hby.trans (h7.mono hby.size))) ((Sl.ok RRdn.ok).below hry (hby.trans (h7.mono hby.size)))).mono (R' := fun e W' => e = .returned (.bool q1) ∧ W'.cell? ⟨g13, 0, none⟩ = some (.int .i64 x.1) ∧ W'.cell? ⟨g13, 1, none⟩ = some (.string tx) ∧ W'.cell? ⟨g13, 2, none⟩ = some (.slice Ax x.2.2.length cx) ∧ W'.cell? ⟨g13, 3, none⟩ = some (.int .i64 y.1) ∧ W'.cell? ⟨g13, 4, none⟩ = some (.string ty) ∧ W'.cell? ⟨g13, 5, none⟩ = some (.slice Ay y.2.2.length cy) ∧ Below wy.heap.size wy W') fun _ _ ⟨he, hb9⟩ => ⟨he, cell_grows hb9 _ _ h1, cell_grows hb9 _ _ h2, cell_grows hb9 _ _ h3, cell_grows hb9 _ _ h4, cell_grows hb9 _ _ h5, cell_grows hb9 _ _ h6, h7.trans (hb9.mono h7.size)⟩)
          have C2 := hide (fun W (h1 : W.cell? ⟨g13, 0, none⟩ = some (.int .i64 x.1)) (h2 : W.cell? ⟨g13, 1, none⟩ = some (.string tx)) (h3 : W.cell? ⟨g13, 2, none⟩ = some (.slice Ax x.2.2.length cx)) (h4 : W.cell? ⟨g13, 3, none⟩ = some (.int .i64 y.1)) (h5 : W.cell? ⟨g13, 4, none⟩ = some (.string ty)) (h6 : W.cell? ⟨g13, 5, none⟩ = some (.slice Ay y.2.2.length cy)) (h7 : Below wy.heap.size wy W) => (rgSame_any x.1 y.1 tx ty x.2.2 y.2.2 Ax Ay cx cy htx9 hty9 hsx.2 hsy.2 q1 hq1 W ((Sl.ok RRdn.ok).below hrx (hby.trans (h7.mono hby.size))) ((Sl.ok RRdn.ok).below hry (hby.trans (h7.mono hby.size)))).mono (R' := fun e W' => e = .returned (.bool q1) ∧ W'.cell? ⟨g13, 0, none⟩ = some (.int .i64 x.1) ∧ W'.cell? ⟨g13, 1, none⟩ = some (.string tx) ∧ W'.cell? ⟨g13, 2, none⟩ = some (.slice Ax x.2.2.length cx) ∧ W'.cell? ⟨g13, 3, none⟩ = some (.int .i64 y.1) ∧ W'.cell? ⟨g13, 4, none⟩ = some (.string ty) ∧ W'.cell? ⟨g13, 5, none⟩ = some (.slice Ay y.2.2.length cy) ∧ Below wy.heap.size wy W') fun _ _ ⟨he, hb9⟩ => ⟨he, cell_grows hb9 _ _ h1, cell_grows hb9 _ _ h2, cell_grows hb9 _ _ h3, cell_grows hb9 _ _ h4, cell_grows hb9 _ _ h5, cell_grows hb9 _ _ h6, h7.trans (hb9.mono h7.size)⟩)
          have C3 := hide (fun W (h1 : W.cell? ⟨g13, 0, none⟩ = some (.int .i64 x.1)) (h2 : W.cell? ⟨g13, 1, none⟩ = some (.string tx)) (h3 : W.cell? ⟨g13, 2, none⟩ = some (.slice Ax x.2.2.length cx)) (h4 : W.cell? ⟨g13, 3, none⟩ = some (.int .i64 y.1)) (h5 : W.cell? ⟨g13, 4, none⟩ = some (.string ty)) (h6 : W.cell? ⟨g13, 5, none⟩ = some (.slice Ay y.2.2.length cy)) (h7 : Below wy.heap.size wy W) => (gMatch_any x.1 y.1 tx ty x.2.2 y.2.2 Ax Ay cx cy htx9 hty9 hsx.2 hsy.2 q2 hq2 W (HMX.out.below (hbw.trans (h7.mono hbw.size))) ((Sl.ok RRdn.ok).below hrx (hby.trans (h7.mono hby.size))) ((Sl.ok RRdn.ok).below hry (hby.trans (h7.mono hby.size)))).mono (R' := fun e W' => e = .returned (.bool q2) ∧ W'.cell? ⟨g13, 0, none⟩ = some (.int .i64 x.1) ∧ W'.cell? ⟨g13, 1, none⟩ = some (.string tx) ∧ W'.cell? ⟨g13, 2, none⟩ = some (.slice Ax x.2.2.length cx) ∧ W'.cell? ⟨g13, 3, none⟩ = some (.int .i64 y.1) ∧ W'.cell? ⟨g13, 4, none⟩ = some (.string ty) ∧ W'.cell? ⟨g13, 5, none⟩ = some (.slice Ay y.2.2.length cy) ∧ Below wy.heap.size wy W') fun _ _ ⟨he, hb9⟩ => ⟨he, cell_grows hb9 _ _ h1, cell_grows hb9 _ _ h2, cell_grows hb9 _ _ h3, cell_grows hb9 _ _ h4, cell_grows hb9 _ _ h5, cell_grows hb9 _ _ h6, h7.trans (hb9.mono h7.size)⟩)
          have C4 := hide (fun W (h1 : W.cell? ⟨g13, 0, none⟩ = some (.int .i64 x.1)) (h2 : W.cell? ⟨g13, 1, none⟩ = some (.string tx)) (h3 : W.cell? ⟨g13, 2, none⟩ = some (.slice Ax x.2.2.length cx)) (h4 : W.cell? ⟨g13, 3, none⟩ = some (.int .i64 y.1)) (h5 : W.cell? ⟨g13, 4, none⟩ = some (.string ty)) (h6 : W.cell? ⟨g13, 5, none⟩ = some (.slice Ay y.2.2.length cy)) (h7 : Below wy.heap.size wy W) => (rMatchG_any x.1 y.1 tx ty x.2.2 y.2.2 Ax Ay cx cy htx9 hty9 hsx.2 hsy.2 q2 hq2 W ((Sl.ok RRdn.ok).below hrx (hby.trans (h7.mono hby.size))) ((Sl.ok RRdn.ok).below hry (hby.trans (h7.mono hby.size)))).mono (R' := fun e W' => e = .returned (.bool q2) ∧ W'.cell? ⟨g13, 0, none⟩ = some (.int .i64 x.1) ∧ W'.cell? ⟨g13, 1, none⟩ = some (.string tx) ∧ W'.cell? ⟨g13, 2, none⟩ = some (.slice Ax x.2.2.length cx) ∧ W'.cell? ⟨g13, 3, none⟩ = some (.int .i64 y.1) ∧ W'.cell? ⟨g13, 4, none⟩ = some (.string ty) ∧ W'.cell? ⟨g13, 5, none⟩ = some (.slice Ay y.2.2.length cy) ∧ Below wy.heap.size wy W') fun _ _ ⟨he, hb9⟩ => ⟨he, cell_grows hb9 _ _ h1, cell_grows hb9 _ _ h2, cell_grows hb9 _ _ h3, cell_grows hb9 _ _ h4, cell_grows hb9 _ _ h5, cell_grows hb9 _ _ h6, h7.trans (hb9.mono h7.size)⟩)
          have C5 := hide (fun W (h1 : W.cell? ⟨g13, 0, none⟩ = some (.int .i64 x.1)) (h2 : W.cell? ⟨g13, 1, none⟩ = some (.string tx)) (h3 : W.cell? ⟨g13, 2, none⟩ = some (.slice Ax x.2.2.length cx)) (h4 : W.cell? ⟨g13, 3, none⟩ = some (.int .i64 y.1)) (h5 : W.cell? ⟨g13, 4, none⟩ = some (.string ty)) (h6 : W.cell? ⟨g13, 5, none⟩ = some (.slice Ay y.2.2.length cy)) (h7 : Below wy.heap.size wy W) => (gWithin_any x.1 y.1 tx ty x.2.2 y.2.2 Ax Ay cx cy htx9 hty9 hsx.2 hsy.2 q3 hq3 W (HMX.out.below (hbw.trans (h7.mono hbw.size))) ((Sl.ok RRdn.ok).below hrx (hby.trans (h7.mono hby.size))) ((Sl.ok RRdn.ok).below hry (hby.trans (h7.mono hby.size)))).mono (R' := fun e W' => e = .returned (.bool q3) ∧ W'.cell? ⟨g13, 0, none⟩ = some (.int .i64 x.1) ∧ W'.cell? ⟨g13, 1, none⟩ = some (.string tx) ∧ W'.cell? ⟨g13, 2, none⟩ = some (.slice Ax x.2.2.length cx) ∧ W'.cell? ⟨g13, 3, none⟩ = some (.int .i64 y.1) ∧ W'.cell? ⟨g13, 4, none⟩ = some (.string ty) ∧ W'.cell? ⟨g13, 5, none⟩ = some (.slice Ay y.2.2.length cy) ∧ Below wy.heap.size wy W') fun _ _ ⟨he, hb9⟩ => ⟨he, cell_grows hb9 _ _ h1, cell_grows hb9 _ _ h2, cell_grows hb9 _ _ h3, cell_grows hb9 _ _ h4, cell_grows hb9 _ _ h5, cell_grows hb9 _ _ h6, h7.trans (hb9.mono h7.size)⟩)
          have C6 := hide (fun W (h1 : W.cell? ⟨g13, 0, none⟩ = some (.int .i64 x.1)) (h2 : W.cell? ⟨g13, 1, none⟩ = some (.string tx)) (h3 : W.cell? ⟨g13, 2, none⟩ = some (.slice Ax x.2.2.length cx)) (h4 : W.cell? ⟨g13, 3, none⟩ = some (.int .i64 y.1)) (h5 : W.cell? ⟨g13, 4, none⟩ = some (.string ty)) (h6 : W.cell? ⟨g13, 5, none⟩ = some (.slice Ay y.2.2.length cy)) (h7 : Below wy.heap.size wy W) => (rgWithin_any x.1 y.1 tx ty x.2.2 y.2.2 Ax Ay cx cy htx9 hty9 hsx.2 hsy.2 q3 hq3 W ((Sl.ok RRdn.ok).below hrx (hby.trans (h7.mono hby.size))) ((Sl.ok RRdn.ok).below hry (hby.trans (h7.mono hby.size)))).mono (R' := fun e W' => e = .returned (.bool q3) ∧ W'.cell? ⟨g13, 0, none⟩ = some (.int .i64 x.1) ∧ W'.cell? ⟨g13, 1, none⟩ = some (.string tx) ∧ W'.cell? ⟨g13, 2, none⟩ = some (.slice Ax x.2.2.length cx) ∧ W'.cell? ⟨g13, 3, none⟩ = some (.int .i64 y.1) ∧ W'.cell? ⟨g13, 4, none⟩ = some (.string ty) ∧ W'.cell? ⟨g13, 5, none⟩ = some (.slice Ay y.2.2.length cy) ∧ Below wy.heap.size wy W') fun _ _ ⟨he, hb9⟩ => ⟨he, cell_grows hb9 _ _ h1, cell_grows hb9 _ _ h2, cell_grows hb9 _ _ h3, cell_grows hb9 _ _ h4, cell_grows hb9 _ _ h5, cell_grows hb9 _ _ h6, h7.trans (hb9.mono h7.size)⟩)
          have f1d : wy.drew.cell? ⟨g13, 0, none⟩ = some (.int .i64 x.1) := f1
          have f2d : wy.drew.cell? ⟨g13, 1, none⟩ = some (.string tx) := f2
          have f3d : wy.drew.cell? ⟨g13, 2, none⟩ = some (.slice Ax x.2.2.length cx) := f3
          have f4d : wy.drew.cell? ⟨g13, 3, none⟩ = some (.int .i64 y.1) := f4
          have f5d : wy.drew.cell? ⟨g13, 4, none⟩ = some (.string ty) := f5
          have f6d : wy.drew.cell? ⟨g13, 5, none⟩ = some (.slice Ay y.2.2.length cy) := f6
          have f7d : Below wy.heap.size wy wy.drew := f7.drew
          have b1 : (q1 != q1) = false := by simp
          have b2 : (q2 != q2) = false := by simp
          have b3 : (q3 != q3) = false := by simp
          have HBY := hide hby
          have HWY := hide hwy
          have HG13 := hide hg13
          clear hb e0 e1 e2 e3 e4 e5 htx hty hrx hry hsx hsy hwy hg13 hby hbw hxe hye htx9 hty9 hq1 hq2 hq3
          go_upto_region 9 with (fail)
          rw [← HWY.out, ← HG13.out]
          clear z0 z1 z2 z3 z4 z5
          go_region_held3 (fun W => W.cell? ⟨g13, 0, none⟩ = some (.int .i64 x.1) ∧ W.cell? ⟨g13, 1, none⟩ = some (.string tx) ∧ W.cell? ⟨g13, 2, none⟩ = some (.slice Ax x.2.2.length cx) ∧ W.cell? ⟨g13, 3, none⟩ = some (.int .i64 y.1) ∧ W.cell? ⟨g13, 4, none⟩ = some (.string ty) ∧ W.cell? ⟨g13, 5, none⟩ = some (.slice Ay y.2.2.length cy) ∧ Below wy.heap.size wy W)
            (first | exact ⟨hs1, hs2, hs3, hs4, hs5, hs6, hs7⟩ | exact ⟨f1, f2, f3, f4, f5, f6, f7⟩ | exact ⟨f1d, f2d, f3d, f4d, f5d, f6d, f7d⟩)
            (first
              | (go_at_call 33; (first | (with_reducible refine (C1.out _ hs1 hs2 hs3 hs4 hs5 hs6 hs7).mono ?_) | (with_reducible refine (C1.out wy.drew f1d f2d f3d f4d f5d f6d f7d).mono ?_) | fail); rintro e wn ⟨rfl, hs1, hs2, hs3, hs4, hs5, hs6, hs7⟩)
              | (go_at_call 34; (first | (with_reducible refine (C2.out _ hs1 hs2 hs3 hs4 hs5 hs6 hs7).mono ?_) | (with_reducible refine (C2.out wy.drew f1d f2d f3d f4d f5d f6d f7d).mono ?_) | fail); rintro e wn ⟨rfl, hs1, hs2, hs3, hs4, hs5, hs6, hs7⟩)
              | (go_at_call 35; (first | (with_reducible refine (C3.out _ hs1 hs2 hs3 hs4 hs5 hs6 hs7).mono ?_) | (with_reducible refine (C3.out wy.drew f1d f2d f3d f4d f5d f6d f7d).mono ?_) | fail); rintro e wn ⟨rfl, hs1, hs2, hs3, hs4, hs5, hs6, hs7⟩)
              | (go_at_call 36; (first | (with_reducible refine (C4.out _ hs1 hs2 hs3 hs4 hs5 hs6 hs7).mono ?_) | (with_reducible refine (C4.out wy.drew f1d f2d f3d f4d f5d f6d f7d).mono ?_) | fail); rintro e wn ⟨rfl, hs1, hs2, hs3, hs4, hs5, hs6, hs7⟩)
              | (go_at_call 37; (first | (with_reducible refine (C5.out _ hs1 hs2 hs3 hs4 hs5 hs6 hs7).mono ?_) | (with_reducible refine (C5.out wy.drew f1d f2d f3d f4d f5d f6d f7d).mono ?_) | fail); rintro e wn ⟨rfl, hs1, hs2, hs3, hs4, hs5, hs6, hs7⟩)
              | (go_at_call 38; (first | (with_reducible refine (C6.out _ hs1 hs2 hs3 hs4 hs5 hs6 hs7).mono ?_) | (with_reducible refine (C6.out wy.drew f1d f2d f3d f4d f5d f6d f7d).mono ?_) | fail); rintro e wn ⟨rfl, hs1, hs2, hs3, hs4, hs5, hs6, hs7⟩)
              | fail)
          all_goals
            have HBN := hide (HBY.out.trans (hs7.mono HBY.out.size))
            go_wp2_with fail
            go_roundw
            case rel => exact ⟨k + 1, by omega, by go_num, HBN.out⟩
            case measure => simp [intOf]; omega
        · have HBF := hide (HBD.out.trans (hb.mono HBD.out.size))
          clear hb
          go_wp2_with fail
          refine (awake9_any _ (HMX.out.below HBF.out)).mono ?_
          rintro e wz ⟨rfl, hbz⟩
          go_wp2_with fail
          go_ret
          exact ⟨rfl, HBF.out.trans (hbz.mono HBF.out.size)⟩
end Go.Proofs.YtodapmkdmkhhfaaGreatDoor
