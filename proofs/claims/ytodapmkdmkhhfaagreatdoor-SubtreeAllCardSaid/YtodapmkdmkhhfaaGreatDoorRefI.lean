/- The reference's WithinGeneral, In, limits. -/
import Derived.Test.YtodapmkdmkhhfaaGreatDoorRefH
import Derived.Test.YtodapmkdmkhhfaaGreatDoorGn1
namespace Go.Proofs.YtodapmkdmkhhfaaGreatDoor
open Go.RowKit

set_option maxRecDepth 100000 in
set_option maxHeartbeats 4000000 in
theorem rgWithin_any (k1 k2 : Int) (t1 t2 : ByteArray) (n m : Name) (A B : Option Addr) (c d : Nat) (ht1 : t1.size ≤ 100000) (ht2 : t2.size ≤ 100000) (hn : SmallN n) (hm : SmallN m) (q : Bool)
    (hq : withinG (k1, t1.data.toList, n) (k2, t2.data.toList, m) = q) (w : World) (h1 : Sl RRdn 1 w (Lt w.heap.size) n [.slice A n.length c]) (h2 : Sl RRdn 1 w (Lt w.heap.size) m [.slice B m.length d]) :
    Calls Tryz.prog 38 #[.agg #[.int .i64 k1, .string t1, .slice A n.length c], .agg #[.int .i64 k2, .string t2, .slice B m.length d]] w fun e w' => e = .returned (.bool q) ∧ Below w.heap.size w w' := by
  have K1 := hide h1
  have K2 := hide h2
  have HN := hide hn
  have HM := hide hm
  have HQ0 := hide hq
  clear h1 h2 hn hm hq
  by_cases hk : k1 = k2
  · subst hk
    have t0 : (k1 != k1) = false := by simp
    have HQ := hide (show (if k1 = 1 then mwB t1.data.toList t2.data.toList else if k1 = 2 then dnsWB t1.data.toList t2.data.toList else if k1 = 4 then withinN n m else if k1 = 7 then awB t1.data.toList t2.data.toList else false) = q by
      rw [← HQ0.out]
      exact (if_neg (fun h : ¬ k1 = k1 => h rfl)).symm)
    obtain ⟨wa, hwa⟩ : ∃ wa, wa = (w.alloc (.cells #[.int .i64 k1, .string t1, .slice A n.length c] 32)).alloc (.cells #[.int .i64 k1, .string t2, .slice B m.length d] 32) := ⟨_, rfl⟩
    have hba : Below w.heap.size w wa := by rw [hwa]; exact ((Below.refl _ _).alloc (Nat.le_refl _) _).alloc (by simp) _
    have HBA := hide hba
    have HWA := hide hwa
    clear hwa hba
    by_cases g1 : k1 = 1
    · subst g1
      have HQ1 := hide (show mwB t1.data.toList t2.data.toList = q by rw [← HQ.out, if_pos rfl])
      go_enter Tryz.func38, Tryz.ntmps38
      go_wp2_with fail
      rw [← HWA.out]
      refine (rmw_any t1 t2 (by omega) (by omega) q HQ1.out _).mono ?_
      rintro e w2 ⟨rfl, hb2⟩
      go_wp2_with fail
      go_ret
      exact ⟨rfl, HBA.out.trans (hb2.mono HBA.out.size)⟩
    · by_cases g2 : k1 = 2
      · subst g2
        have HQ1 := hide (show dnsWB t1.data.toList t2.data.toList = q by rw [← HQ.out, if_neg (by decide), if_pos rfl])
        go_enter Tryz.func38, Tryz.ntmps38
        go_wp2_with fail
        rw [← HWA.out]
        refine (rdnsW_any t1 t2 (by omega) (by omega) q HQ1.out _).mono ?_
        rintro e w2 ⟨rfl, hb2⟩
        go_wp2_with fail
        go_ret
        exact ⟨rfl, HBA.out.trans (hb2.mono HBA.out.size)⟩
      · by_cases g4 : k1 = 4
        · subst g4
          have HQ1 := hide (show withinN n m = q by rw [← HQ.out, if_neg (by decide), if_neg (by decide), if_pos rfl])
          go_enter Tryz.func38, Tryz.ntmps38
          go_wp2_with fail
          rw [← HWA.out]
          refine (HQ1.out ▸ rWithin_any n m A B c d _ ((Sl.ok RRdn.ok).below K1.out HBA.out) ((Sl.ok RRdn.ok).below K2.out HBA.out) HN.out HM.out).mono ?_
          rintro e w2 ⟨rfl, hb2⟩
          go_wp2_with fail
          go_ret
          exact ⟨rfl, HBA.out.trans (hb2.mono HBA.out.size)⟩
        · by_cases g7 : k1 = 7
          · subst g7
            have HQ1 := hide (show awB t1.data.toList t2.data.toList = q by rw [← HQ.out, if_neg (by decide), if_neg (by decide), if_neg (by decide), if_pos rfl])
            go_enter Tryz.func38, Tryz.ntmps38
            go_wp2_with fail
            rw [← HWA.out]
            refine (raw_any t1 t2 (by omega) (by omega) q HQ1.out _).mono ?_
            rintro e w2 ⟨rfl, hb2⟩
            go_wp2_with fail
            go_ret
            exact ⟨rfl, HBA.out.trans (hb2.mono HBA.out.size)⟩
          · have HQ1 := hide (show false = q by rw [← HQ.out, if_neg g1, if_neg g2, if_neg g4, if_neg g7])
            have e1 : (k1 == 1) = false := by simpa using g1
            have e2 : (k1 == 2) = false := by simpa using g2
            have e4 : (k1 == 4) = false := by simpa using g4
            have e7 : (k1 == 7) = false := by simpa using g7
            clear g1 g2 g4 g7
            go_enter Tryz.func38, Tryz.ntmps38
            go_wp2_with fail
            go_ret
            exact ⟨ret_bool HQ1.out, HWA.out ▸ HBA.out⟩
  · have t0 : (k1 != k2) = true := by rw [bne_iff_ne]; exact hk
    have HQ1 := hide (show false = q by rw [← HQ0.out, withinG, if_pos hk])
    clear hk
    go_enter Tryz.func38, Tryz.ntmps38
    go_wp2_with fail
    go_ret
    exact ⟨ret_bool HQ1.out, ((Below.refl _ _).alloc (Nat.le_refl _) _).alloc (by simp) _⟩

set_option maxRecDepth 100000 in
set_option maxHeartbeats 4000000 in
theorem rIn_any (g : Gen) (t : ByteArray) (A : Option Addr) (c : Nat) (l : List Gen) (B : Option Addr) (d : Nat) (ht : t.data.toList = g.2.1) (hg : SmallG g) (hl : SmallGs l) (q : Bool) (hq : insideG g l = q) (w : World) (hmx : Mx w)
    (h1 : Sl RRdn 1 w (Lt w.heap.size) g.2.2 [.slice A g.2.2.length c]) (h2 : Sl RGen 3 w (Lt w.heap.size) l [.slice B l.length d]) :
    Calls Tryz.prog 44 #[.agg #[.int .i64 g.1, .string t, .slice A g.2.2.length c], .slice B l.length d] w fun e w' => e = .returned (.bool q) ∧ Below w.heap.size w w' := by
  obtain ⟨-, hlc, hlm⟩ := h2.len_
  unfold maxLen at hlm
  have hts := size_of_list ht hg.1
  have HMX := hide hmx
  have K1 := hide h1
  have K2 := hide h2
  have HG := hide hg
  have HL := hide hl
  have H0 := hide (show (l.drop 0).any (fun b => withinG g b) = q from hq)
  have HT := hide ht
  obtain ⟨kg, hkg⟩ : ∃ k, g.1 = k := ⟨_, rfl⟩
  obtain ⟨ng, hng⟩ : ∃ n, g.2.2 = n := ⟨_, rfl⟩
  have HGE := hide (show (kg, t.data.toList, ng) = g by rw [← hkg, ← hng, ht])
  rw [hkg, hng]
  rw [hng] at K1
  have hsn : SmallN ng := hng ▸ hg.2
  have HSN := hide hsn
  clear hmx h1 h2 hg hl hq ht hkg hng hsn
  go_enter Tryz.func44, Tryz.ntmps44
  go_wp2_with fail
  obtain ⟨wa, hwa⟩ : ∃ wa, wa = w.alloc (.cells #[.int .i64 kg, .string t, .slice A ng.length c] 32) := ⟨_, rfl⟩
  have a0 : wa.cell? ⟨w.heap.size, 0, none⟩ = some (.int .i64 kg) := by rw [hwa, World.cell?_alloc_new]; rfl
  have a1 : wa.cell? ⟨w.heap.size, 1, none⟩ = some (.string t) := by rw [hwa, World.cell?_alloc_new]; rfl
  have a2 : wa.cell? ⟨w.heap.size, 2, none⟩ = some (.slice A ng.length c) := by rw [hwa, World.cell?_alloc_new]; rfl
  have hba : Below w.heap.size w wa := by rw [hwa]; exact (Below.refl _ _).alloc (Nat.le_refl _) _
  rw [← hwa]
  have A0 := hide a0
  have A1 := hide a1
  have A2 := hide a2
  have HBA := hide hba
  clear hwa a0 a1 a2 hba
  go_loopw [9] (fun i wr => ∃ k : Nat, k ≤ l.length ∧ i = .int .i64 k ∧ Below wa.heap.size wa wr ∧ Hid ((l.drop k).any (fun b => withinG g b) = q)) (fun i _ => l.length - (intOf i).toNat)
  case atStart => exact ⟨0, Nat.zero_le _, rfl, Below.refl _ _, H0⟩
  case round =>
    obtain ⟨k, hk, rfl, hb, H⟩ := hrel
    have hbw := HBA.out.trans (hb.mono HBA.out.size)
    have HBW := hide hbw
    by_cases hlt : k < l.length
    · obtain ⟨b2, o2, t2, A2', c2, hB, hbS, ht2, d0, d1, d2, hsl⟩ := K2.out.genAt hlt
      subst hB
      have hbS' : b2 < w.heap.size := hbS
      obtain ⟨hsb1, hsb2⟩ := HL.out l[k] (List.getElem_mem hlt)
      have hts2 := size_of_list ht2 hsb1
      have HX := hide (show (withinG g l[k] || (l.drop (k + 1)).any (fun b => withinG g b)) = q by rw [← H.out, List.drop_eq_getElem_cons hlt, List.any_cons])
      obtain ⟨kb, hkb⟩ : ∃ kb, l[k].1 = kb := ⟨_, rfl⟩
      obtain ⟨nb, hnb⟩ : ∃ nb, l[k].2.2 = nb := ⟨_, rfl⟩
      have hbe : l[k] = (kb, t2.data.toList, nb) := by rw [← hkb, ← hnb, ht2]
      obtain ⟨p, hp⟩ : ∃ p, withinG (kg, t.data.toList, ng) (kb, t2.data.toList, nb) = p := ⟨_, rfl⟩
      have HX2 := hide (show (p || (l.drop (k + 1)).any (fun b => withinG g b)) = q by rw [← HX.out, hbe, ← HGE.out, hp])
      have HP := hide hp
      rw [hkb] at d0
      rw [hnb] at d2 hsl hsb2
      have e0 := cell_grows hb _ _ A0.out
      have e1 := cell_grows hb _ _ A1.out
      have e2 := cell_grows hb _ _ A2.out
      have f0 := (hbw.cell (p := ⟨b2, o2 + k * 3, none⟩) hbS').trans d0
      have f1 := (hbw.cell (p := ⟨b2, o2 + k * 3 + 1, none⟩) hbS').trans d1
      have f2 := (hbw.cell (p := ⟨b2, o2 + k * 3 + 2, none⟩) hbS').trans d2
      have hgl : w.heap.size < wr.heap.size := World.block_lt_of_cell? wr ⟨w.heap.size, 0, none⟩ e0
      have q0 : ∀ ob, (wr.alloc ob).cell? ⟨w.heap.size, 0, none⟩ = some (.int .i64 kg) := fun ob => (World.cell?_alloc_lt wr ob ⟨w.heap.size, 0, none⟩ hgl).trans e0
      have q1 : ∀ ob, (wr.alloc ob).cell? ⟨w.heap.size, 1, none⟩ = some (.string t) := fun ob => (World.cell?_alloc_lt wr ob ⟨w.heap.size, 1, none⟩ hgl).trans e1
      have q2 : ∀ ob, (wr.alloc ob).cell? ⟨w.heap.size, 2, none⟩ = some (.slice A ng.length c) := fun ob => (World.cell?_alloc_lt wr ob ⟨w.heap.size, 2, none⟩ hgl).trans e2
      have hbc : Below wr.heap.size wr (wr.alloc (.cells #[.int .i64 kb, .string t2, .slice A2' nb.length c2] 32)) := (Below.refl _ _).alloc (Nat.le_refl _) _
      have hbwc := hbw.trans (hbc.mono hbw.size)
      have S1 := hide ((Sl.ok RRdn.ok).below K1.out hbwc)
      have S2 := hide ((Sl.ok RRdn.ok).below hsl hbwc)
      have HM := hide (HMX.out.below hbwc)
      have HSB := hide hsb2
      have HBC := hide (hb.trans (hbc.mono hb.size))
      clear hb hbw d0 d1 d2 hsl hsb2 hkb hnb hbe hp e0 e1 e2 ht2 hsb1 hbc hbwc
      go_wp2_with fail
      refine (rgWithin_any kg kb t t2 ng nb A A2' c c2 hts hts2 HSN.out HSB.out p HP.out _ S1.out S2.out).mono ?_
      rintro e w5 ⟨rfl, hb5⟩
      have HB5 := hide (HBC.out.trans (hb5.mono HBC.out.size))
      clear hb5 q0 q1 q2 f0 f1 f2
      cases p
      · have HY := hide (show (l.drop (k + 1)).any (fun b => withinG g b) = q by rw [← HX2.out]; rfl)
        go_wp2_with fail
        go_roundw
        case rel => exact ⟨k + 1, by omega, by go_num, HB5.out, HY⟩
        case measure => simp [intOf]; omega
      · have HY := hide (show true = q by rw [← HX2.out]; rfl)
        go_wp2_with fail
        go_ret
        exact ⟨ret_bool HY.out, HBA.out.trans (HB5.out.mono HBA.out.size)⟩
    · have HY := hide (show false = q by rw [← H.out, List.drop_of_length_le (by omega)]; rfl)
      clear hb hbw
      go_wp2_with fail
      go_ret
      exact ⟨ret_bool HY.out, HBW.out⟩

set_option maxRecDepth 100000 in
set_option maxHeartbeats 4000000 in
theorem rlimits_any (l : List Gen) (B : Option Addr) (d : Nat) (kg : Int) (q : Bool) (hq : limitsG l kg = q) (w : World) (h2 : Sl RGen 3 w (Lt w.heap.size) l [.slice B l.length d]) :
    Calls Tryz.prog 45 #[.slice B l.length d, .int .i64 kg] w fun e w' => e = .returned (.bool q) ∧ Below w.heap.size w w' := by
  obtain ⟨-, hlc, hlm⟩ := h2.len_
  unfold maxLen at hlm
  have K2 := hide h2
  have H0 := hide (show (l.drop 0).any (fun b => b.1 == kg) = q from hq)
  clear h2 hq
  go_enter Tryz.func45, Tryz.ntmps45
  go_wp2_with fail
  go_loopw [9] (fun i wr => ∃ k : Nat, k ≤ l.length ∧ i = .int .i64 k ∧ Below w.heap.size w wr ∧ Hid ((l.drop k).any (fun b => b.1 == kg) = q)) (fun i _ => l.length - (intOf i).toNat)
  case atStart => exact ⟨0, Nat.zero_le _, rfl, Below.refl _ _, H0⟩
  case round =>
    obtain ⟨k, hk, rfl, hb, H⟩ := hrel
    by_cases hlt : k < l.length
    · obtain ⟨b2, o2, t2, A2', c2, hB, hbS, ht2, d0, d1, d2, hsl⟩ := K2.out.genAt hlt
      subst hB
      have hbS' : b2 < w.heap.size := hbS
      have HX := hide (show (l[k].1 == kg || (l.drop (k + 1)).any (fun b => b.1 == kg)) = q by rw [← H.out, List.drop_eq_getElem_cons hlt, List.any_cons])
      obtain ⟨kb, hkb⟩ : ∃ kb, l[k].1 = kb := ⟨_, rfl⟩
      obtain ⟨p, hp⟩ : ∃ p, (kb == kg) = p := ⟨_, rfl⟩
      have HX2 := hide (show (p || (l.drop (k + 1)).any (fun b => b.1 == kg)) = q by rw [← HX.out, hkb, hp])
      rw [hkb] at d0
      obtain ⟨nn, hnn⟩ : ∃ nn, l[k].2.2.length = nn := ⟨_, rfl⟩
      rw [hnn] at d2
      have f0 := (hb.cell (p := ⟨b2, o2 + k * 3, none⟩) hbS').trans d0
      have f1 := (hb.cell (p := ⟨b2, o2 + k * 3 + 1, none⟩) hbS').trans d1
      have f2 := (hb.cell (p := ⟨b2, o2 + k * 3 + 2, none⟩) hbS').trans d2
      have HB := hide (hb.alloc hb.size (.cells #[.int .i64 kb, .string t2, .slice A2' nn c2] 32))
      clear hb d0 d1 d2 hsl hkb ht2 hnn
      cases p
      · have HY := hide (show (l.drop (k + 1)).any (fun b => b.1 == kg) = q by rw [← HX2.out]; rfl)
        go_wp2_with fail
        go_roundw
        case rel => exact ⟨k + 1, by omega, by go_num, HB.out, HY⟩
        case measure => simp [intOf]; omega
      · have HY := hide (show true = q by rw [← HX2.out]; rfl)
        go_wp2_with fail
        go_ret
        exact ⟨ret_bool HY.out, HB.out⟩
    · have HY := hide (show false = q by rw [← H.out, List.drop_of_length_le (by omega)]; rfl)
      have HB := hide hb
      clear hb
      go_wp2_with fail
      go_ret
      exact ⟨ret_bool HY.out, HB.out⟩
end Go.Proofs.YtodapmkdmkhhfaaGreatDoor
