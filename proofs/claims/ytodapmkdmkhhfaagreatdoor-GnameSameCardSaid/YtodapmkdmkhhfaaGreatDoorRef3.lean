/- The reference's WithinGeneral, In, limits. -/
import Derived.Test.YtodapmkdmkhhfaaGreatDoorRef2
import Derived.Test.YtodapmkdmkhhfaaGreatDoorGn1
namespace Go.Proofs.YtodapmkdmkhhfaaGreatDoor
open Go.RowKit

set_option maxRecDepth 100000 in
set_option maxHeartbeats 4000000 in
theorem rgWithin_any (k1 k2 : Int) (t1 t2 : ByteArray) (n m : Name) (A B : Option Addr) (c d : Nat) (ht1 : t1.size ≤ 100000) (ht2 : t2.size ≤ 100000) (hn : SmallN n) (hm : SmallN m) (q : Bool)
    (hq : withinG (k1, t1.data.toList, n) (k2, t2.data.toList, m) = q) (w : World) (h1 : Sl RRdn 1 w (Lt w.heap.size) n [.slice A n.length c]) (h2 : Sl RRdn 1 w (Lt w.heap.size) m [.slice B m.length d]) :
    Calls Tryz.prog 38 #[.agg #[.int .i64 k1, .string t1, .slice A n.length c], .agg #[.int .i64 k2, .string t2, .slice B m.length d]] w fun e w' => e = .returned (.bool q) ∧ Below w.heap.size w w' := by
  have K1 := hide h1
  have K2 := hide h2
  have HN := hide hn
  have HM := hide hm
  have HQ0 := hide hq
  clear h1 h2 hn hm hq
  by_cases hk : k1 = k2
  · subst hk
    have t0 : (k1 != k1) = false := by simp
    have HQ := hide (show (if k1 = 1 then mwB t1.data.toList t2.data.toList else if k1 = 2 then dnsWB t1.data.toList t2.data.toList else if k1 = 4 then withinN n m else if k1 = 7 then awB t1.data.toList t2.data.toList else false) = q by
      rw [← HQ0.out]
      exact (if_neg (fun h : ¬ k1 = k1 => h rfl)).symm)
    obtain ⟨wa, hwa⟩ : ∃ wa, wa = (w.alloc (.cells #[.int .i64 k1, .string t1, .slice A n.length c] 32)).alloc (.cells #[.int .i64 k1, .string t2, .slice B m.length d] 32) := ⟨_, rfl⟩
    have hba : Below w.heap.size w wa := by rw [hwa]; exact ((Below.refl _ _).alloc (Nat.le_refl _) _).alloc (by simp) _
    have HBA := hide hba
    have HWA := hide hwa
    clear hwa hba
    by_cases g1 : k1 = 1
    · subst g1
      have HQ1 := hide (show mwB t1.data.toList t2.data.toList = q by rw [← HQ.out, if_pos rfl])
      go_enter Tryz.func38, Tryz.ntmps38
      go_wp2_with fail
      rw [← HWA.out]
      refine (rmw_any t1 t2 (by omega) (by omega) q HQ1.out _).mono ?_
      rintro e w2 ⟨rfl, hb2⟩
      go_wp2_with fail
      go_ret
      exact ⟨rfl, HBA.out.trans (hb2.mono HBA.out.size)⟩
    · by_cases g2 : k1 = 2
      · subst g2
        have HQ1 := hide (show dnsWB t1.data.toList t2.data.toList = q by rw [← HQ.out, if_neg (by decide), if_pos rfl])
        go_enter Tryz.func38, Tryz.ntmps38
        go_wp2_with fail
        rw [← HWA.out]
        refine (rdnsW_any t1 t2 (by omega) (by omega) q HQ1.out _).mono ?_
        rintro e w2 ⟨rfl, hb2⟩
        go_wp2_with fail
        go_ret
        exact ⟨rfl, HBA.out.trans (hb2.mono HBA.out.size)⟩
      · by_cases g4 : k1 = 4
        · subst g4
          have HQ1 := hide (show withinN n m = q by rw [← HQ.out, if_neg (by decide), if_neg (by decide), if_pos rfl])
          go_enter Tryz.func38, Tryz.ntmps38
          go_wp2_with fail
          rw [← HWA.out]
          refine (HQ1.out ▸ rWithin_any n m A B c d _ ((Sl.ok RRdn.ok).below K1.out HBA.out) ((Sl.ok RRdn.ok).below K2.out HBA.out) HN.out HM.out).mono ?_
          rintro e w2 ⟨rfl, hb2⟩
          go_wp2_with fail
          go_ret
          exact ⟨rfl, HBA.out.trans (hb2.mono HBA.out.size)⟩
        · by_cases g7 : k1 = 7
          · subst g7
            have HQ1 := hide (show awB t1.data.toList t2.data.toList = q by rw [← HQ.out, if_neg (by decide), if_neg (by decide), if_neg (by decide), if_pos rfl])
            go_enter Tryz.func38, Tryz.ntmps38
            go_wp2_with fail
            rw [← HWA.out]
            refine (raw_any t1 t2 (by omega) (by omega) q HQ1.out _).mono ?_
            rintro e w2 ⟨rfl, hb2⟩
            go_wp2_with fail
            go_ret
            exact ⟨rfl, HBA.out.trans (hb2.mono HBA.out.size)⟩
          · have HQ1 := hide (show false = q by rw [← HQ.out, if_neg g1, if_neg g2, if_neg g4, if_neg g7])
            have e1 : (k1 == 1) = false := by simpa using g1
            have e2 : (k1 == 2) = false := by simpa using g2
            have e4 : (k1 == 4) = false := by simpa using g4
            have e7 : (k1 == 7) = false := by simpa using g7
            clear g1 g2 g4 g7
            go_enter Tryz.func38, Tryz.ntmps38
            go_wp2_with fail
            go_ret
            exact ⟨ret_bool HQ1.out, HWA.out ▸ HBA.out⟩
  · have t0 : (k1 != k2) = true := by rw [bne_iff_ne]; exact hk
    have HQ1 := hide (show false = q by rw [← HQ0.out, withinG, if_pos hk])
    clear hk
    go_enter Tryz.func38, Tryz.ntmps38
    go_wp2_with fail
    go_ret
    exact ⟨ret_bool HQ1.out, ((Below.refl _ _).alloc (Nat.le_refl _) _).alloc (by simp) _⟩

set_option maxRecDepth 100000 in
set_option maxHeartbeats 4000000 in
theorem rIn_any (g : Gen) (t : ByteArray) (A : Option Addr) (c : Nat) (l : List Gen) (B : Option Addr) (d : Nat) (ht : t.data.toList = g.2.1) (hg : SmallG g) (hl : SmallGs l) (q : Bool) (hq : insideG g l = q) (w : World) (hmx : Mx w)
    (h1 : Sl RRdn 1 w (Lt w.heap.size) g.2.2 [.slice A g.2.2.length c]) (h2 : Sl RGen 3 w (Lt w.heap.size) l [.slice B l.length d]) :
    Calls Tryz.prog 44 #[.agg #[.int .i64 g.1, .string t, .slice A g.2.2.length c], .slice B l.length d] w fun e w' => e = .returned (.bool q) ∧ Below w.heap.size w w' := by
  obtain ⟨-, hlc, hlm⟩ := h2.len_
  unfold maxLen at hlm
  have hts := size_of_list ht hg.1
  have HMX := hide hmx
  have K1 := hide h1
  have K2 := hide h2
  have HG := hide hg
  have HL := hide hl
  have H0 := hide (show (l.drop 0).any (fun b => withinG g b) = q from hq)
  have HT := hide ht
  obtain ⟨kg, hkg⟩ : ∃ k, g.1 = k := ⟨_, rfl⟩
  obtain ⟨ng, hng⟩ : ∃ n, g.2.2 = n := ⟨_, rfl⟩
  have HGE := hide (show (kg, t.data.toList, ng) = g by rw [← hkg, ← hng, ht])
  rw [hkg, hng]
  rw [hng] at K1
  have hsn : SmallN ng := hng ▸ hg.2
  have HSN := hide hsn
  clear hmx h1 h2 hg hl hq ht hkg hng hsn
  go_enter Tryz.func44, Tryz.ntmps44
  go_wp2_with fail
  obtain ⟨wa, hwa⟩ : ∃ wa, wa = w.alloc (.cells #[.int .i64 kg, .string t, .slice A ng.length c] 32) := ⟨_, rfl⟩
  have a0 : wa.cell? ⟨w.heap.size, 0, none⟩ = some (.int .i64 kg) := by rw [hwa, World.cell?_alloc_new]; rfl
  have a1 : wa.cell? ⟨w.heap.size, 1, none⟩ = some (.string t) := by rw [hwa, World.cell?_alloc_new]; rfl
  have a2 : wa.cell? ⟨w.heap.size, 2, none⟩ = some (.slice A ng.length c) := by rw [hwa, World.cell?_alloc_new]; rfl
  have hba : Below w.heap.size w wa := by rw [hwa]; exact (Below.refl _ _).alloc (Nat.le_refl _) _
  rw [← hwa]
  have A0 := hide a0
  have A1 := hide a1
  have A2 := hide a2
  have HBA := hide hba
  clear hwa a0 a1 a2 hba
  go_loopw [9] (fun i wr => ∃ k : Nat, k ≤ l.length ∧ i = .int .i64 k ∧ Below wa.heap.size wa wr ∧ Hid ((l.drop k).any (fun b => withinG g b) = q)) (fun i _ => l.length - (intOf i).toNat)
  case atStart => exact ⟨0, Nat.zero_le _, rfl, Below.refl _ _, H0⟩
  case round =>
    obtain ⟨k, hk, rfl, hb, H⟩ := hrel
    have hbw := HBA.out.trans (hb.mono HBA.out.size)
    have HBW := hide hbw
    by_cases hlt : k < l.length
    · obtain ⟨b2, o2, t2, A2', c2, hB, hbS, ht2, d0, d1, d2, hsl⟩ := K2.out.genAt hlt
      subst hB
      have hbS' : b2 < w.heap.size := hbS
      obtain ⟨hsb1, hsb2⟩ := HL.out l[k] (List.getElem_mem hlt)
      have hts2 := size_of_list ht2 hsb1
      have HX := hide (show (withinG g l[k] || (l.drop (k + 1)).any (fun b => withinG g b)) = q by rw [← H.out, List.drop_eq_getElem_cons hlt, List.any_cons])
      obtain ⟨kb, hkb⟩ : ∃ kb, l[k].1 = kb := ⟨_, rfl⟩
      obtain ⟨nb, hnb⟩ : ∃ nb, l[k].2.2 = nb := ⟨_, rfl⟩
      have hbe : l[k] = (kb, t2.data.toList, nb) := by rw [← hkb, ← hnb, ht2]
      obtain ⟨p, hp⟩ : ∃ p, withinG (kg, t.data.toList, ng) (kb, t2.data.toList, nb) = p := ⟨_, rfl⟩
      have HX2 := hide (show (p || (l.drop (k + 1)).any (fun b => withinG g b)) = q by rw [← HX.out, hbe, ← HGE.out, hp])
      have HP := hide hp
      rw [hkb] at d0
      rw [hnb] at d2 hsl hsb2
      have e0 := cell_grows hb _ _ A0.out
      have e1 := cell_grows hb _ _ A1.out
      have e2 := cell_grows hb _ _ A2.out
      have f0 := (hbw.cell (p := ⟨b2, o2 + k * 3, none⟩) hbS').trans d0
      have f1 := (hbw.cell (p := ⟨b2, o2 + k * 3 + 1, none⟩) hbS').trans d1
      have f2 := (hbw.cell (p := ⟨b2, o2 + k * 3 + 2, none⟩) hbS').trans d2
      have hgl : w.heap.size < wr.heap.size := World.block_lt_of_cell? wr ⟨w.heap.size, 0, none⟩ e0
      have q0 : ∀ ob, (wr.alloc ob).cell? ⟨w.heap.size, 0, none⟩ = some (.int .i64 kg) := fun ob => (World.cell?_alloc_lt wr ob ⟨w.heap.size, 0, none⟩ hgl).trans e0
      have q1 : ∀ ob, (wr.alloc ob).cell? ⟨w.heap.size, 1, none⟩ = some (.string t) := fun ob => (World.cell?_alloc_lt wr ob ⟨w.heap.size, 1, none⟩ hgl).trans e1
      have q2 : ∀ ob, (wr.alloc ob).cell? ⟨w.heap.size, 2, none⟩ = some (.slice A ng.length c) := fun ob => (World.cell?_alloc_lt wr ob ⟨w.heap.size, 2, none⟩ hgl).trans e2
      have hbc : Below wr.heap.size wr (wr.alloc (.cells #[.int .i64 kb, .string t2, .slice A2' nb.length c2] 32)) := (Below.refl _ _).alloc (Nat.le_refl _) _
      have hbwc := hbw.trans (hbc.mono hbw.size)
      have S1 := hide ((Sl.ok RRdn.ok).below K1.out hbwc)
      have S2 := hide ((Sl.ok RRdn.ok).below hsl hbwc)
      have HM := hide (HMX.out.below hbwc)
      have HSB := hide hsb2
      have HBC := hide (hb.trans (hbc.mono hb.size))
      clear hb hbw d0 d1 d2 hsl hsb2 hkb hnb hbe hp e0 e1 e2 ht2 hsb1 hbc hbwc
      go_wp2_with fail
      refine (rgWithin_any kg kb t t2 ng nb A A2' c c2 hts hts2 HSN.out HSB.out p HP.out _ S1.out S2.out).mono ?_
      rintro e w5 ⟨rfl, hb5⟩
      have HB5 := hide (HBC.out.trans (hb5.mono HBC.out.size))
      clear hb5 q0 q1 q2 f0 f1 f2
      cases p
      · have HY := hide (show (l.drop (k + 1)).any (fun b => withinG g b) = q by rw [← HX2.out]; rfl)
        go_wp2_with fail
        go_roundw
        case rel => exact ⟨k + 1, by omega, by go_num, HB5.out, HY⟩
        case measure => simp [intOf]; omega
      · have HY := hide (show true = q by rw [← HX2.out]; rfl)
        go_wp2_with fail
        go_ret
        exact ⟨ret_bool HY.out, HBA.out.trans (HB5.out.mono HBA.out.size)⟩
    · have HY := hide (show false = q by rw [← H.out, List.drop_of_length_le (by omega)]; rfl)
      clear hb hbw
      go_wp2_with fail
      go_ret
      exact ⟨ret_bool HY.out, HBW.out⟩

set_option maxRecDepth 100000 in
set_option maxHeartbeats 4000000 in
theorem rlimits_any (l : List Gen) (B : Option Addr) (d : Nat) (kg : Int) (q : Bool) (hq : limitsG l kg = q) (w : World) (h2 : Sl RGen 3 w (Lt w.heap.size) l [.slice B l.length d]) :
    Calls Tryz.prog 45 #[.slice B l.length d, .int .i64 kg] w fun e w' => e = .returned (.bool q) ∧ Below w.heap.size w w' := by
  obtain ⟨-, hlc, hlm⟩ := h2.len_
  unfold maxLen at hlm
  have K2 := hide h2
  have H0 := hide (show (l.drop 0).any (fun b => b.1 == kg) = q from hq)
  clear h2 hq
  go_enter Tryz.func45, Tryz.ntmps45
  go_wp2_with fail
  go_loopw [9] (fun i wr => ∃ k : Nat, k ≤ l.length ∧ i = .int .i64 k ∧ Below w.heap.size w wr ∧ Hid ((l.drop k).any (fun b => b.1 == kg) = q)) (fun i _ => l.length - (intOf i).toNat)
  case atStart => exact ⟨0, Nat.zero_le _, rfl, Below.refl _ _, H0⟩
  case round =>
    obtain ⟨k, hk, rfl, hb, H⟩ := hrel
    by_cases hlt : k < l.length
    · obtain ⟨b2, o2, t2, A2', c2, hB, hbS, ht2, d0, d1, d2, hsl⟩ := K2.out.genAt hlt
      subst hB
      have hbS' : b2 < w.heap.size := hbS
      have HX := hide (show (l[k].1 == kg || (l.drop (k + 1)).any (fun b => b.1 == kg)) = q by rw [← H.out, List.drop_eq_getElem_cons hlt, List.any_cons])
      obtain ⟨kb, hkb⟩ : ∃ kb, l[k].1 = kb := ⟨_, rfl⟩
      obtain ⟨p, hp⟩ : ∃ p, (kb == kg) = p := ⟨_, rfl⟩
      have HX2 := hide (show (p || (l.drop (k + 1)).any (fun b => b.1 == kg)) = q by rw [← HX.out, hkb, hp])
      rw [hkb] at d0
      obtain ⟨nn, hnn⟩ : ∃ nn, l[k].2.2.length = nn := ⟨_, rfl⟩
      rw [hnn] at d2
      have f0 := (hb.cell (p := ⟨b2, o2 + k * 3, none⟩) hbS').trans d0
      have f1 := (hb.cell (p := ⟨b2, o2 + k * 3 + 1, none⟩) hbS').trans d1
      have f2 := (hb.cell (p := ⟨b2, o2 + k * 3 + 2, none⟩) hbS').trans d2
      have HB := hide (hb.alloc hb.size (.cells #[.int .i64 kb, .string t2, .slice A2' nn c2] 32))
      clear hb d0 d1 d2 hsl hkb ht2 hnn
      cases p
      · have HY := hide (show (l.drop (k + 1)).any (fun b => b.1 == kg) = q by rw [← HX2.out]; rfl)
        go_wp2_with fail
        go_roundw
        case rel => exact ⟨k + 1, by omega, by go_num, HB.out, HY⟩
        case measure => simp [intOf]; omega
      · have HY := hide (show true = q by rw [← HX2.out]; rfl)
        go_wp2_with fail
        go_ret
        exact ⟨ret_bool HY.out, HB.out⟩
    · have HY := hide (show false = q by rw [← H.out, List.drop_of_length_le (by omega)]; rfl)
      have HB := hide hb
      clear hb
      go_wp2_with fail
      go_ret
      exact ⟨ret_bool HY.out, HB.out⟩
end Go.Proofs.YtodapmkdmkhhfaaGreatDoor

/- The reference's Permits. -/
namespace Go.Proofs.YtodapmkdmkhhfaaGreatDoor
open Go.RowKit

theorem permitsG_each (st : List Sub) (g : Gen) : permitsG st g = st.all fun s => !(insideG g s.2) && allowG g s := by
  unfold permitsG allowsG
  induction st with
  | nil => rfl
  | cons s st ih =>
    simp only [List.any_cons, List.all_cons]
    rw [← ih]
    cases insideG g s.2 <;> cases allowG g s <;> simp



set_option maxRecDepth 100000 in
set_option maxHeartbeats 8000000 in
theorem rPermits_any (g : Gen) (t : ByteArray) (A : Option Addr) (c : Nat) (st : List Sub) (B : Option Addr) (d : Nat) (ht : t.data.toList = g.2.1) (hg : SmallG g) (hl : SmallS st) (q : Bool) (hq : permitsG st g = q) (w : World) (hmx : Mx w)
    (h1 : Sl RRdn 1 w (Lt w.heap.size) g.2.2 [.slice A g.2.2.length c]) (h2 : Sl RSub 2 w (Lt w.heap.size) st [.slice B st.length d]) :
    Calls Tryz.prog 19 #[.agg #[.slice B st.length d], .agg #[.int .i64 g.1, .string t, .slice A g.2.2.length c]] w fun e w' => e = .returned (.bool q) ∧ Below w.heap.size w w' := by
  have H0 := hide (show ((st.drop 0).all fun s => !(insideG g s.2) && allowG g s) = q by rw [← hq, permitsG_each]; rfl)
  clear hq
  obtain ⟨-, hlc, hlm⟩ := h2.len_
  unfold maxLen at hlm
  have HMX := hide hmx
  have K1 := hide h1
  have K2 := hide h2
  have HG := hide hg
  have HL := hide hl
  have HT := hide ht
  clear hmx h1 h2 hg hl ht
  obtain ⟨wa, hwa⟩ : ∃ wa, wa = (w.alloc (.cells #[.slice B st.length d] 24)).alloc (.cells #[.int .i64 g.1, .string t, .slice A g.2.2.length c] 32) := ⟨_, rfl⟩
  have s0 : wa.cell? ⟨w.heap.size, 0, none⟩ = some (.slice B st.length d) := by rw [hwa, World.cell?_alloc_lt _ _ _ (by simp), World.cell?_alloc_new]; rfl
  have hz : (w.alloc (.cells #[.slice B st.length d] 24)).heap.size = w.heap.size + 1 := by simp
  have a0 : wa.cell? ⟨w.heap.size + 1, 0, none⟩ = some (.int .i64 g.1) := by rw [hwa, ← hz, World.cell?_alloc_new]; rfl
  have a1 : wa.cell? ⟨w.heap.size + 1, 1, none⟩ = some (.string t) := by rw [hwa, ← hz, World.cell?_alloc_new]; rfl
  have a2 : wa.cell? ⟨w.heap.size + 1, 2, none⟩ = some (.slice A g.2.2.length c) := by rw [hwa, ← hz, World.cell?_alloc_new]; rfl
  have hba : Below w.heap.size w wa := by rw [hwa]; exact ((Below.refl _ _).alloc (Nat.le_refl _) _).alloc (by simp) _
  obtain ⟨kg, hkg⟩ : ∃ k, g.1 = k := ⟨_, rfl⟩
  obtain ⟨ln, hln⟩ : ∃ n, g.2.2.length = n := ⟨_, rfl⟩
  rw [hkg] at a0
  rw [hln] at a2
  have S0 := hide s0
  have A0 := hide a0
  have A1 := hide a1
  have A2 := hide a2
  have HBA := hide hba
  have HWA := hide hwa
  have HKG := hide hkg
  have HLN := hide hln
  rw [hkg, hln]
  rw [hkg, hln] at HWA
  clear s0 hz a0 a1 a2 hba hwa hkg hln
  go_enter Tryz.func19, Tryz.ntmps19
  go_wp2_with fail
  rw [← HWA.out]
  obtain ⟨gg, hgg⟩ : ∃ gg, gg = w.heap.size + 1 := ⟨_, rfl⟩
  rw [← hgg] at A0 A1 A2 ⊢
  clear HWA hgg
  go_loopw [10] (fun i wr => ∃ k : Nat, k ≤ st.length ∧ i = .int .i64 k ∧ Below wa.heap.size wa wr ∧ Hid (((st.drop k).all fun s => !(insideG g s.2) && allowG g s) = q)) (fun i _ => st.length - (intOf i).toNat)
  case atStart => exact ⟨0, Nat.zero_le _, rfl, Below.refl _ _, H0⟩
  case round =>
    obtain ⟨k, hk, rfl, hb, H⟩ := hrel
    have hbw := HBA.out.trans (hb.mono HBA.out.size)
    have HBW := hide hbw
    by_cases hlt : k < st.length
    · obtain ⟨b2, o2, P1, c1, P2, c2, hB, hbS, d0, d1, hs1, hs2⟩ := K2.out.subAt hlt
      subst hB
      have hbS' : b2 < w.heap.size := hbS
      have e0 := cell_grows hb _ _ A0.out
      have e1 := cell_grows hb _ _ A1.out
      have e2 := cell_grows hb _ _ A2.out
      have f0 := (hbw.cell (p := ⟨b2, o2 + k * 2, none⟩) hbS').trans d0
      have f1 := (hbw.cell (p := ⟨b2, o2 + k * 2 + 1, none⟩) hbS').trans d1
      obtain ⟨wy, hwy⟩ : ∃ wy, wy = wr.alloc (.cells #[.slice P1 st[k].1.length c1, .slice P2 st[k].2.length c2] 27) := ⟨_, rfl⟩
      have hby : Below wr.heap.size wr wy := by rw [hwy]; exact (Below.refl _ _).alloc (Nat.le_refl _) _
      have y0 : wy.cell? ⟨wr.heap.size, 0, none⟩ = some (.slice P1 st[k].1.length c1) := by rw [hwy, World.cell?_alloc_new]; rfl
      have y1 : wy.cell? ⟨wr.heap.size, 1, none⟩ = some (.slice P2 st[k].2.length c2) := by rw [hwy, World.cell?_alloc_new]; rfl
      have x0 := cell_grows hby _ _ e0
      have x1 := cell_grows hby _ _ e1
      have x2 := cell_grows hby _ _ e2
      have hbwy := hbw.trans (hby.mono hbw.size)
      have HBY := hide (hb.trans (hby.mono hb.size))
      have SP1 := hide ((Sl.ok RGen.ok).below hs1 hbwy)
      have SP2 := hide ((Sl.ok RGen.ok).below hs2 hbwy)
      have SN := hide ((Sl.ok RRdn.ok).below K1.out hbwy)
      have HM := hide (HMX.out.below hbwy)
      obtain ⟨hsm1, hsm2⟩ := HL.out st[k] (List.getElem_mem hlt)
      obtain ⟨p0, hp0⟩ : ∃ p, insideG g st[k].2 = p := ⟨_, rfl⟩
      obtain ⟨p1, hp1⟩ : ∃ p, limitsG st[k].1 kg = p := ⟨_, rfl⟩
      obtain ⟨p2, hp2⟩ : ∃ p, insideG g st[k].1 = p := ⟨_, rfl⟩
      have HX := hide (show ((!p0 && (!p1 || p2)) && (st.drop (k + 1)).all fun s => !(insideG g s.2) && allowG g s) = q by rw [← H.out, List.drop_eq_getElem_cons hlt, List.all_cons, allowG, HKG.out, hp0, hp1, hp2])
      have HP0 := hide hp0
      have HP1 := hide hp1
      have HP2 := hide hp2
      have HSM := hide hsm1
      have HSM2 := hide hsm2
      obtain ⟨sk, hsk⟩ : ∃ sk, st[k].1 = sk := ⟨_, rfl⟩
      obtain ⟨sx, hsx⟩ : ∃ sx, st[k].2 = sx := ⟨_, rfl⟩
      rw [hsk] at f0 y0 SP1 HP1 HP2 HSM hwy
      rw [hsx] at f1 y1 SP2 HP0 HSM2 hwy
      have IX := hide (fun W hm hn hs => HKG.out ▸ HLN.out ▸ rIn_any g t A c sx P2 c2 HT.out HG.out HSM2.out p0 HP0.out W hm hn hs)
      have IN := hide (fun W hm hn hs => HKG.out ▸ HLN.out ▸ rIn_any g t A c sk P1 c1 HT.out HG.out HSM.out p2 HP2.out W hm hn hs)
      clear hb hbw d0 d1 hs1 hs2 hsm1 hsm2 hp0 hp1 hp2 hsk hsx hby hbwy e0 e1 e2
      go_upto_region 4 with (fail)
      rw [← hwy]
      clear hwy f0 f1
      go_wp2_with fail
      refine (IX.out _ HM.out (HLN.out ▸ SN.out) SP2.out).mono ?_
      rintro e w4 ⟨rfl, hb4⟩
      have HB4 := hide (HBY.out.trans (hb4.mono HBY.out.size))
      have HW4 := hide (HBA.out.trans (HB4.out.mono HBA.out.size))
      cases p0
      · have z0 := cell_grows hb4 _ _ x0
        have z1 := cell_grows hb4 _ _ x1
        have z2 := cell_grows hb4 _ _ x2
        have zy := cell_grows hb4 _ _ y0
        have SP4 := hide ((Sl.ok RGen.ok).below SP1.out hb4)
        have SN4 := hide ((Sl.ok RRdn.ok).below SN.out hb4)
        have HM4 := hide (HM.out.below hb4)
        clear hb4 x0 x1 x2 y0 y1
        go_wp2_with fail
        refine (rlimits_any sk P1 c1 kg p1 HP1.out _ SP4.out).mono ?_
        rintro e w5 ⟨rfl, hb5⟩
        have HB5 := hide (HB4.out.trans (hb5.mono HB4.out.size))
        cases p1
        · have HY := hide (show ((st.drop (k + 1)).all fun s => !(insideG g s.2) && allowG g s) = q by rw [← HX.out]; simp)
          clear hb5 z0 z1 z2 zy
          go_wp2_with fail
          go_roundw
          case rel => exact ⟨k + 1, by omega, by go_num, HB5.out, HY⟩
          case measure => simp [intOf]; omega
        · have v0 := cell_grows hb5 _ _ z0
          have v1 := cell_grows hb5 _ _ z1
          have v2 := cell_grows hb5 _ _ z2
          have vy := cell_grows hb5 _ _ zy
          have SP5 := hide ((Sl.ok RGen.ok).below SP4.out hb5)
          have SN5 := hide ((Sl.ok RRdn.ok).below SN4.out hb5)
          have HM5 := hide (HM4.out.below hb5)
          clear hb5 z0 z1 z2 zy
          go_wp2_with fail
          refine (IN.out _ HM5.out (HLN.out ▸ SN5.out) SP5.out).mono ?_
          rintro e w6 ⟨rfl, hb6⟩
          have HB6 := hide (HB5.out.trans (hb6.mono HB5.out.size))
          have HW6 := hide (HBA.out.trans (HB6.out.mono HBA.out.size))
          clear hb6 v0 v1 v2 vy
          cases p2
          · have HY := hide (show false = q by rw [← HX.out]; simp)
            go_wp2_with fail
            go_ret
            exact ⟨ret_bool HY.out, HW6.out⟩
          · have HY := hide (show ((st.drop (k + 1)).all fun s => !(insideG g s.2) && allowG g s) = q by rw [← HX.out]; simp)
            go_wp2_with fail
            go_roundw
            case rel => exact ⟨k + 1, by omega, by go_num, HB6.out, HY⟩
            case measure => simp [intOf]; omega
      · have HY := hide (show false = q by rw [← HX.out]; rfl)
        clear hb4 x0 x1 x2 y0 y1
        go_wp2_with fail
        go_ret
        exact ⟨ret_bool HY.out, HW4.out⟩
    · have HY := hide (show true = q by rw [← H.out, List.drop_of_length_le (by omega)]; rfl)
      clear hb hbw
      go_wp2_with fail
      go_ret
      exact ⟨ret_bool HY.out, HBW.out⟩
end Go.Proofs.YtodapmkdmkhhfaaGreatDoor
