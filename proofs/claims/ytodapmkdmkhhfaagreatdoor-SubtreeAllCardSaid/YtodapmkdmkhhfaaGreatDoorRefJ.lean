/- The reference's Permits. -/
import Derived.Test.YtodapmkdmkhhfaaGreatDoorRefI
namespace Go.Proofs.YtodapmkdmkhhfaaGreatDoor
open Go.RowKit

theorem permitsG_each (st : List Sub) (g : Gen) : permitsG st g = st.all fun s => !(insideG g s.2) && allowG g s := by
  unfold permitsG allowsG
  induction st with
  | nil => rfl
  | cons s st ih =>
    simp only [List.any_cons, List.all_cons]
    rw [← ih]
    cases insideG g s.2 <;> cases allowG g s <;> simp



set_option maxRecDepth 100000 in
set_option maxHeartbeats 8000000 in
theorem rPermits_any (g : Gen) (t : ByteArray) (A : Option Addr) (c : Nat) (st : List Sub) (B : Option Addr) (d : Nat) (ht : t.data.toList = g.2.1) (hg : SmallG g) (hl : SmallS st) (q : Bool) (hq : permitsG st g = q) (w : World) (hmx : Mx w)
    (h1 : Sl RRdn 1 w (Lt w.heap.size) g.2.2 [.slice A g.2.2.length c]) (h2 : Sl RSub 2 w (Lt w.heap.size) st [.slice B st.length d]) :
    Calls Tryz.prog 19 #[.agg #[.slice B st.length d], .agg #[.int .i64 g.1, .string t, .slice A g.2.2.length c]] w fun e w' => e = .returned (.bool q) ∧ Below w.heap.size w w' := by
  have H0 := hide (show ((st.drop 0).all fun s => !(insideG g s.2) && allowG g s) = q by rw [← hq, permitsG_each]; rfl)
  clear hq
  obtain ⟨-, hlc, hlm⟩ := h2.len_
  unfold maxLen at hlm
  have HMX := hide hmx
  have K1 := hide h1
  have K2 := hide h2
  have HG := hide hg
  have HL := hide hl
  have HT := hide ht
  clear hmx h1 h2 hg hl ht
  obtain ⟨wa, hwa⟩ : ∃ wa, wa = (w.alloc (.cells #[.slice B st.length d] 24)).alloc (.cells #[.int .i64 g.1, .string t, .slice A g.2.2.length c] 32) := ⟨_, rfl⟩
  have s0 : wa.cell? ⟨w.heap.size, 0, none⟩ = some (.slice B st.length d) := by rw [hwa, World.cell?_alloc_lt _ _ _ (by simp), World.cell?_alloc_new]; rfl
  have hz : (w.alloc (.cells #[.slice B st.length d] 24)).heap.size = w.heap.size + 1 := by simp
  have a0 : wa.cell? ⟨w.heap.size + 1, 0, none⟩ = some (.int .i64 g.1) := by rw [hwa, ← hz, World.cell?_alloc_new]; rfl
  have a1 : wa.cell? ⟨w.heap.size + 1, 1, none⟩ = some (.string t) := by rw [hwa, ← hz, World.cell?_alloc_new]; rfl
  have a2 : wa.cell? ⟨w.heap.size + 1, 2, none⟩ = some (.slice A g.2.2.length c) := by rw [hwa, ← hz, World.cell?_alloc_new]; rfl
  have hba : Below w.heap.size w wa := by rw [hwa]; exact ((Below.refl _ _).alloc (Nat.le_refl _) _).alloc (by simp) _
  obtain ⟨kg, hkg⟩ : ∃ k, g.1 = k := ⟨_, rfl⟩
  obtain ⟨ln, hln⟩ : ∃ n, g.2.2.length = n := ⟨_, rfl⟩
  rw [hkg] at a0
  rw [hln] at a2
  have S0 := hide s0
  have A0 := hide a0
  have A1 := hide a1
  have A2 := hide a2
  have HBA := hide hba
  have HWA := hide hwa
  have HKG := hide hkg
  have HLN := hide hln
  rw [hkg, hln]
  rw [hkg, hln] at HWA
  clear s0 hz a0 a1 a2 hba hwa hkg hln
  go_enter Tryz.func19, Tryz.ntmps19
  go_wp2_with fail
  rw [← HWA.out]
  obtain ⟨gg, hgg⟩ : ∃ gg, gg = w.heap.size + 1 := ⟨_, rfl⟩
  rw [← hgg] at A0 A1 A2 ⊢
  clear HWA hgg
  go_loopw [10] (fun i wr => ∃ k : Nat, k ≤ st.length ∧ i = .int .i64 k ∧ Below wa.heap.size wa wr ∧ Hid (((st.drop k).all fun s => !(insideG g s.2) && allowG g s) = q)) (fun i _ => st.length - (intOf i).toNat)
  case atStart => exact ⟨0, Nat.zero_le _, rfl, Below.refl _ _, H0⟩
  case round =>
    obtain ⟨k, hk, rfl, hb, H⟩ := hrel
    have hbw := HBA.out.trans (hb.mono HBA.out.size)
    have HBW := hide hbw
    by_cases hlt : k < st.length
    · obtain ⟨b2, o2, P1, c1, P2, c2, hB, hbS, d0, d1, hs1, hs2⟩ := K2.out.subAt hlt
      subst hB
      have hbS' : b2 < w.heap.size := hbS
      have e0 := cell_grows hb _ _ A0.out
      have e1 := cell_grows hb _ _ A1.out
      have e2 := cell_grows hb _ _ A2.out
      have f0 := (hbw.cell (p := ⟨b2, o2 + k * 2, none⟩) hbS').trans d0
      have f1 := (hbw.cell (p := ⟨b2, o2 + k * 2 + 1, none⟩) hbS').trans d1
      obtain ⟨wy, hwy⟩ : ∃ wy, wy = wr.alloc (.cells #[.slice P1 st[k].1.length c1, .slice P2 st[k].2.length c2] 27) := ⟨_, rfl⟩
      have hby : Below wr.heap.size wr wy := by rw [hwy]; exact (Below.refl _ _).alloc (Nat.le_refl _) _
      have y0 : wy.cell? ⟨wr.heap.size, 0, none⟩ = some (.slice P1 st[k].1.length c1) := by rw [hwy, World.cell?_alloc_new]; rfl
      have y1 : wy.cell? ⟨wr.heap.size, 1, none⟩ = some (.slice P2 st[k].2.length c2) := by rw [hwy, World.cell?_alloc_new]; rfl
      have x0 := cell_grows hby _ _ e0
      have x1 := cell_grows hby _ _ e1
      have x2 := cell_grows hby _ _ e2
      have hbwy := hbw.trans (hby.mono hbw.size)
      have HBY := hide (hb.trans (hby.mono hb.size))
      have SP1 := hide ((Sl.ok RGen.ok).below hs1 hbwy)
      have SP2 := hide ((Sl.ok RGen.ok).below hs2 hbwy)
      have SN := hide ((Sl.ok RRdn.ok).below K1.out hbwy)
      have HM := hide (HMX.out.below hbwy)
      obtain ⟨hsm1, hsm2⟩ := HL.out st[k] (List.getElem_mem hlt)
      obtain ⟨p0, hp0⟩ : ∃ p, insideG g st[k].2 = p := ⟨_, rfl⟩
      obtain ⟨p1, hp1⟩ : ∃ p, limitsG st[k].1 kg = p := ⟨_, rfl⟩
      obtain ⟨p2, hp2⟩ : ∃ p, insideG g st[k].1 = p := ⟨_, rfl⟩
      have HX := hide (show ((!p0 && (!p1 || p2)) && (st.drop (k + 1)).all fun s => !(insideG g s.2) && allowG g s) = q by rw [← H.out, List.drop_eq_getElem_cons hlt, List.all_cons, allowG, HKG.out, hp0, hp1, hp2])
      have HP0 := hide hp0
      have HP1 := hide hp1
      have HP2 := hide hp2
      have HSM := hide hsm1
      have HSM2 := hide hsm2
      obtain ⟨sk, hsk⟩ : ∃ sk, st[k].1 = sk := ⟨_, rfl⟩
      obtain ⟨sx, hsx⟩ : ∃ sx, st[k].2 = sx := ⟨_, rfl⟩
      rw [hsk] at f0 y0 SP1 HP1 HP2 HSM hwy
      rw [hsx] at f1 y1 SP2 HP0 HSM2 hwy
      have IX := hide (fun W hm hn hs => HKG.out ▸ HLN.out ▸ rIn_any g t A c sx P2 c2 HT.out HG.out HSM2.out p0 HP0.out W hm hn hs)
      have IN := hide (fun W hm hn hs => HKG.out ▸ HLN.out ▸ rIn_any g t A c sk P1 c1 HT.out HG.out HSM.out p2 HP2.out W hm hn hs)
      clear hb hbw d0 d1 hs1 hs2 hsm1 hsm2 hp0 hp1 hp2 hsk hsx hby hbwy e0 e1 e2
      go_upto_region 4 with (fail)
      rw [← hwy]
      clear hwy f0 f1
      go_wp2_with fail
      refine (IX.out _ HM.out (HLN.out ▸ SN.out) SP2.out).mono ?_
      rintro e w4 ⟨rfl, hb4⟩
      have HB4 := hide (HBY.out.trans (hb4.mono HBY.out.size))
      have HW4 := hide (HBA.out.trans (HB4.out.mono HBA.out.size))
      cases p0
      · have z0 := cell_grows hb4 _ _ x0
        have z1 := cell_grows hb4 _ _ x1
        have z2 := cell_grows hb4 _ _ x2
        have zy := cell_grows hb4 _ _ y0
        have SP4 := hide ((Sl.ok RGen.ok).below SP1.out hb4)
        have SN4 := hide ((Sl.ok RRdn.ok).below SN.out hb4)
        have HM4 := hide (HM.out.below hb4)
        clear hb4 x0 x1 x2 y0 y1
        go_wp2_with fail
        refine (rlimits_any sk P1 c1 kg p1 HP1.out _ SP4.out).mono ?_
        rintro e w5 ⟨rfl, hb5⟩
        have HB5 := hide (HB4.out.trans (hb5.mono HB4.out.size))
        cases p1
        · have HY := hide (show ((st.drop (k + 1)).all fun s => !(insideG g s.2) && allowG g s) = q by rw [← HX.out]; simp)
          clear hb5 z0 z1 z2 zy
          go_wp2_with fail
          go_roundw
          case rel => exact ⟨k + 1, by omega, by go_num, HB5.out, HY⟩
          case measure => simp [intOf]; omega
        · have v0 := cell_grows hb5 _ _ z0
          have v1 := cell_grows hb5 _ _ z1
          have v2 := cell_grows hb5 _ _ z2
          have vy := cell_grows hb5 _ _ zy
          have SP5 := hide ((Sl.ok RGen.ok).below SP4.out hb5)
          have SN5 := hide ((Sl.ok RRdn.ok).below SN4.out hb5)
          have HM5 := hide (HM4.out.below hb5)
          clear hb5 z0 z1 z2 zy
          go_wp2_with fail
          refine (IN.out _ HM5.out (HLN.out ▸ SN5.out) SP5.out).mono ?_
          rintro e w6 ⟨rfl, hb6⟩
          have HB6 := hide (HB5.out.trans (hb6.mono HB5.out.size))
          have HW6 := hide (HBA.out.trans (HB6.out.mono HBA.out.size))
          clear hb6 v0 v1 v2 vy
          cases p2
          · have HY := hide (show false = q by rw [← HX.out]; simp)
            go_wp2_with fail
            go_ret
            exact ⟨ret_bool HY.out, HW6.out⟩
          · have HY := hide (show ((st.drop (k + 1)).all fun s => !(insideG g s.2) && allowG g s) = q by rw [← HX.out]; simp)
            go_wp2_with fail
            go_roundw
            case rel => exact ⟨k + 1, by omega, by go_num, HB6.out, HY⟩
            case measure => simp [intOf]; omega
      · have HY := hide (show false = q by rw [← HX.out]; rfl)
        clear hb4 x0 x1 x2 y0 y1
        go_wp2_with fail
        go_ret
        exact ⟨ret_bool HY.out, HW4.out⟩
    · have HY := hide (show true = q by rw [← H.out, List.drop_of_length_le (by omega)]; rfl)
      clear hb hbw
      go_wp2_with fail
      go_ret
      exact ⟨ret_bool HY.out, HBW.out⟩
end Go.Proofs.YtodapmkdmkhhfaaGreatDoor
