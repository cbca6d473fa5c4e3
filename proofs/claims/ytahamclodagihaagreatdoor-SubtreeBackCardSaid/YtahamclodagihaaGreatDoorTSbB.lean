/- Check of name constraints, the program. -/
import Derived.Test.YtahamclodagihaaGreatDoorTSbA
namespace Go.Proofs.YtahamclodagihaaGreatDoor
open Go.RowKit
theorem chkGs_goA {c : Bool} {l tl : List Gen} {k : Nat} (h : k < l.length) {q : Int} (hq : chkG l[k] c = q) (h0 : q = 0) : chkGs c (l.drop k ++ tl) = chkGs c (l.drop (k + 1) ++ tl) := by
 rw [List.drop_eq_getElem_cons h, List.cons_append, chkGs, if_pos (hq.trans h0)]
theorem chkGs_noA {c : Bool} {l tl : List Gen} {k : Nat} (h : k < l.length) {q : Int} (hq : chkG l[k] c = q) (h0 : q ≠ 0) : chkGs c (l.drop k ++ tl) = q := by
 rw [List.drop_eq_getElem_cons h, List.cons_append, chkGs, if_neg (by rw [hq]; exact h0), hq]
theorem two_cells {w W : World} {u v : Value} {T : TypeId} (h : W = w.alloc (.cells #[u, v] T)) : W.cell? ⟨w.heap.size, 0, none⟩ = some u ∧ W.cell? ⟨w.heap.size, 1, none⟩ = some v := by
 subst h
 refine ⟨?_, ?_⟩ <;> (rw [World.cell?_alloc_new]; rfl)
set_option maxRecDepth 100000 in
set_option maxHeartbeats 16000000 in
theorem SCheck_any (p x : List Gen) (A B : Option Addr) (c d : Nat) (hs : MedGs (p ++ x)) (q : Int) (hq : chkS (p, x) = q) (w : World) (hmx : Mx w)
    (h1 : Sl RGen 3 w (Lt w.heap.size) p [.slice A p.length c]) (h2 : Sl RGen 3 w (Lt w.heap.size) x [.slice B x.length d]) :
    Calls Tryz.prog 86 #[.agg #[.slice A p.length c, .slice B x.length d]] w fun e w' => e = .returned (.int .i64 q) ∧ Below w.heap.size w w' := by
  obtain ⟨-, hnc, hcm⟩ := h1.len_
  obtain ⟨-, hnc2, hcm2⟩ := h2.len_
  unfold maxLen at hcm hcm2
  have K1 := hide h1
  have K2 := hide h2
  have HSS := hide hs
  have HMX := hide hmx
  have HQ0 := hide hq
  obtain ⟨wa, hwa⟩ : ∃ W, W = w.alloc (.cells #[.slice A p.length c, .slice B x.length d] 52) := ⟨_, rfl⟩
  obtain ⟨c0, c1⟩ := two_cells hwa
  have HBA := hide (show Below w.heap.size w wa by rw [hwa]; exact (Below.refl _ _).alloc (Nat.le_refl _) _)
  clear h1 h2 hs hmx hq
  go_enter Tryz.func86, Tryz.ntmps86
  go_upto_region 1 with fail
  rw [← hwa]
  clear hwa
  by_cases hp0 : p.length = 0
  · have tp : ((p.length : Int) == 0) = true := by rw [hp0]; rfl
    by_cases hx0 : x.length = 0
    · have tx : ((x.length : Int) == 0) = true := by rw [hx0]; rfl
      have HN0 := hide (show 7 = q by rw [← HQ0.out, chkS, if_pos ⟨hp0, hx0⟩])
      clear hp0 hx0
      have HN := hide (show 7 = q from HN0.out)
      go_wp2_with fail
      go_ret
      exact ⟨ret_int HN.out, HBA.out⟩
    · have tx : ((x.length : Int) == 0) = false := beq_false_of_ne (by omega)
      have tp2 : ¬ (16 : Int) < (p.length : Int) := by omega
      by_cases hx1 : 16 < x.length
      · have tx2 : (16 : Int) < (x.length : Int) := by omega
        have HN0 := hide (show 2 = q by rw [← HQ0.out, chkS, if_neg (fun h => hx0 h.2), if_pos (.inr hx1)])
        clear hp0 hx0 hx1
        have HN := hide (show 2 = q from HN0.out)
        go_wp2_with fail
        go_ret
        exact ⟨ret_int HN.out, HBA.out⟩
      · have tx2 : ¬ (16 : Int) < (x.length : Int) := by omega
        have HQS := hide (show chkGs true (p ++ x) = q by rw [← HQ0.out, chkS, if_neg (fun h => hx0 h.2), if_neg (fun h => by rcases h with h | h <;> simp only at h <;> omega)])
        clear hp0 hx0 hx1
        obtain ⟨wL, hwL⟩ : ∃ W, W = wa.alloc (.cells #[.slice A p.length c, .slice B x.length d] 50) := ⟨_, rfl⟩
        obtain ⟨l0, l1⟩ := two_cells hwL
        have hbL : Below wa.heap.size wa wL := by rw [hwL]; exact (Below.refl _ _).alloc (Nat.le_refl _) _
        have HBWL := hide (HBA.out.trans (hbL.mono HBA.out.size))
        have hzL : wa.heap.size < wL.heap.size := by rw [hwL]; simp
        obtain ⟨gL, hgL⟩ : ∃ g, g = wa.heap.size := ⟨_, rfl⟩
        rw [← hgL] at l0 l1 hzL
        have L0 := hide l0
        have L1 := hide l1
        have HGL := hide hgL
        have HWL := hide hwL
        clear hwL hbL l0 l1 hgL
        go_upto_region 6 with fail
        rw [← HWL.out, ← HGL.out]
        clear c0 c1 HWL HGL
        go_wp2_with fail
        go_loopw [34] (fun i wr => ∃ m : Nat, m ≤ 2 ∧ i = .int .i64 m ∧ Below w.heap.size w wr ∧ Below wL.heap.size wL wr ∧ Hid (chkGs true (p ++ x) = chkGs true (if m = 0 then p ++ x else if m = 1 then x else []))) (fun i _ => 2 - (intOf i).toNat)
        case atStart => exact ⟨0, by omega, rfl, HBWL.out, Below.refl _ _, hide rfl⟩
        case round =>
          obtain ⟨m, hm, rfl, hbw, hbl, HM⟩ := hrel
          have HBw := hide hbw
          have HBL := hide hbl
          match m, hm with
          | 0, _ =>
            have m0 := (hbl.cell (p := ⟨gL, 0, none⟩) hzL).trans L0.out
            clear hbw hbl
            have hbwr := HBw.out
            obtain ⟨wo, hwo⟩ : ∃ wo : World, wo = wr := ⟨_, rfl⟩
            have HWO := hide hwo
            clear hwo
            go_wp2_with fail
            go_loopw [40] (fun i wi => ∃ k : Nat, k ≤ p.length ∧ i = .int .i64 k ∧ Below w.heap.size w wi ∧ Below wo.heap.size wo wi ∧ Hid (chkGs true (p ++ x) = chkGs true (p.drop k ++ x))) (fun i _ => p.length - (intOf i).toNat)
            case atStart => exact ⟨0, Nat.zero_le _, rfl, hbwr, by rw [HWO.out]; exact Below.refl _ _, hide rfl⟩
            case round =>
              obtain ⟨k, hk, rfl, hb, hbo, HCK⟩ := hrel
              have HB := hide hb
              have HBO := hide hbo
              obtain ⟨wi, rfl⟩ : ∃ wi : World, wi = wr := ⟨_, rfl⟩
              by_cases hlt : k < p.length
              · obtain ⟨b2, o2, t, A2, c2, hB, hbS, ht2, d0, d1, d2, hsl⟩ := K1.out.genAt hlt
                subst hB
                have hbS' : b2 < w.heap.size := hbS
                have hsg := HSS.out p[k] (by simp [List.getElem_mem])
                have hgo := fun (q : Int) => chkGs_goA (c := true) (tl := x) (q := q) hlt
                have hno := fun (q : Int) => chkGs_noA (c := true) (tl := x) (q := q) hlt
                obtain ⟨g, hg⟩ : ∃ g, p[k] = g := ⟨_, rfl⟩
                rw [hg] at d0 d2 hsl ht2 hsg hgo hno
                obtain ⟨kb, t', nb⟩ := g
                simp only at d0 d2 hsl ht2
                subst ht2
                have f0 := (hb.cell (p := ⟨b2, o2 + k * 3, none⟩) hbS').trans d0
                have f1 := (hb.cell (p := ⟨b2, o2 + k * 3 + 1, none⟩) hbS').trans d1
                have f2 := (hb.cell (p := ⟨b2, o2 + k * 3 + 2, none⟩) hbS').trans d2
                have hts : t.size ≤ 1000000 := by rw [← size_string]; exact hsg.1
                have HSN := hide hsg.2
                have HGO := hide hgo
                have HNO := hide hno
                obtain ⟨wj, hwj⟩ : ∃ W, W = wi.alloc (.cells #[.int .i64 kb, .string t, .slice A2 nb.length c2] 62) := ⟨_, rfl⟩
                obtain ⟨e0, e1, e2⟩ := gen_cells9 hwj
                have hbj : Below wi.heap.size wi wj := by rw [hwj]; exact (Below.refl _ _).alloc (Nat.le_refl _) _
                have HBJ := hide (hb.trans (hbj.mono hb.size))
                have HBJO := hide (hbo.trans (hbj.mono hbo.size))
                have HSL := hide ((Sl.ok RRdn.ok).below hsl (hb.trans (hbj.mono hb.size)))
                obtain ⟨gx, hgx⟩ : ∃ g, wi.heap.size = g := ⟨_, rfl⟩
                rw [hgx] at e0 e1 e2
                clear hb hbo hbj d0 d1 d2 hsl hsg hgo hno hbS hbS' hg
                go_upto_region 11 with fail
                rw [← hwj]
                try rw [hgx]
                clear hwj hgx f0 f1 f2
                obtain ⟨q0, hq0⟩ : ∃ q, chkG (kb, t.data.toList, nb) true = q := ⟨_, rfl⟩
                have HQ := hide hq0
                have HC := hide (gCheck_any kb t nb true A2 c2 hts HSN.out q0 hq0 wj (HMX.out.below HBJ.out) HSL.out)
                clear hq0
                go_wp2_with fail
                refine HC.out.mono ?_
                rintro e w2 ⟨rfl, hb2⟩
                have HB2 := hide (HBJ.out.trans (hb2.mono HBJ.out.size))
                have HB2O := hide (HBJO.out.trans (hb2.mono HBJO.out.size))
                clear hb2 e0 e1 e2
                by_cases hq0 : q0 = 0
                · have HCK2 := hide (HCK.out.trans (HGO.out q0 HQ.out hq0))
                  have htq : (q0 != 0) = false := by simp [hq0]
                  clear hq0
                  go_wp2_with fail
                  go_roundw
                  case rel => exact ⟨k + 1, by omega, by go_num, HB2.out, HB2O.out, HCK2⟩
                  case measure => simp [intOf]; omega
                · have htq : (q0 != 0) = true := by simp [hq0]
                  have HN := hide (show q0 = q by rw [← HQS.out, HCK.out, HNO.out q0 HQ.out hq0])
                  clear hq0
                  go_wp2_with fail
                  go_ret
                  exact ⟨ret_int HN.out, HB2.out⟩
              · have HCK9 := hide (show chkGs true (p ++ x) = chkGs true (x) by rw [HCK.out, List.drop_of_length_le (by omega), List.nil_append])
                have hbo2 := hbo
                clear hb hbo
                go_wp2_with fail
                go_roundw
                case rel => exact ⟨0 + 1, by omega, by go_num, HB.out, (HBL.out.trans ((HWO.out ▸ hbo2).mono HBL.out.size)), HCK9⟩
                case measure => simp [intOf]
          | 1, _ =>
            have m1 := (hbl.cell (p := ⟨gL, 1, none⟩) hzL).trans L1.out
            clear hbw hbl
            have hbwr := HBw.out
            obtain ⟨wo, hwo⟩ : ∃ wo : World, wo = wr := ⟨_, rfl⟩
            have HWO := hide hwo
            clear hwo
            go_wp2_with fail
            go_loopw [40] (fun i wi => ∃ k : Nat, k ≤ x.length ∧ i = .int .i64 k ∧ Below w.heap.size w wi ∧ Below wo.heap.size wo wi ∧ Hid (chkGs true (p ++ x) = chkGs true (x.drop k ++ []))) (fun i _ => x.length - (intOf i).toNat)
            case atStart => exact ⟨0, Nat.zero_le _, rfl, hbwr, by rw [HWO.out]; exact Below.refl _ _, hide (by rw [List.drop_zero, List.append_nil]; exact HM.out)⟩
            case round =>
              obtain ⟨k, hk, rfl, hb, hbo, HCK⟩ := hrel
              have HB := hide hb
              have HBO := hide hbo
              obtain ⟨wi, rfl⟩ : ∃ wi : World, wi = wr := ⟨_, rfl⟩
              by_cases hlt : k < x.length
              · obtain ⟨b2, o2, t, A2, c2, hB, hbS, ht2, d0, d1, d2, hsl⟩ := K2.out.genAt hlt
                subst hB
                have hbS' : b2 < w.heap.size := hbS
                have hsg := HSS.out x[k] (by simp [List.getElem_mem])
                have hgo := fun (q : Int) => chkGs_goA (c := true) (tl := []) (q := q) hlt
                have hno := fun (q : Int) => chkGs_noA (c := true) (tl := []) (q := q) hlt
                obtain ⟨g, hg⟩ : ∃ g, x[k] = g := ⟨_, rfl⟩
                rw [hg] at d0 d2 hsl ht2 hsg hgo hno
                obtain ⟨kb, t', nb⟩ := g
                simp only at d0 d2 hsl ht2
                subst ht2
                have f0 := (hb.cell (p := ⟨b2, o2 + k * 3, none⟩) hbS').trans d0
                have f1 := (hb.cell (p := ⟨b2, o2 + k * 3 + 1, none⟩) hbS').trans d1
                have f2 := (hb.cell (p := ⟨b2, o2 + k * 3 + 2, none⟩) hbS').trans d2
                have hts : t.size ≤ 1000000 := by rw [← size_string]; exact hsg.1
                have HSN := hide hsg.2
                have HGO := hide hgo
                have HNO := hide hno
                obtain ⟨wj, hwj⟩ : ∃ W, W = wi.alloc (.cells #[.int .i64 kb, .string t, .slice A2 nb.length c2] 62) := ⟨_, rfl⟩
                obtain ⟨e0, e1, e2⟩ := gen_cells9 hwj
                have hbj : Below wi.heap.size wi wj := by rw [hwj]; exact (Below.refl _ _).alloc (Nat.le_refl _) _
                have HBJ := hide (hb.trans (hbj.mono hb.size))
                have HBJO := hide (hbo.trans (hbj.mono hbo.size))
                have HSL := hide ((Sl.ok RRdn.ok).below hsl (hb.trans (hbj.mono hb.size)))
                obtain ⟨gx, hgx⟩ : ∃ g, wi.heap.size = g := ⟨_, rfl⟩
                rw [hgx] at e0 e1 e2
                clear hb hbo hbj d0 d1 d2 hsl hsg hgo hno hbS hbS' hg
                go_upto_region 11 with fail
                rw [← hwj]
                try rw [hgx]
                clear hwj hgx f0 f1 f2
                obtain ⟨q0, hq0⟩ : ∃ q, chkG (kb, t.data.toList, nb) true = q := ⟨_, rfl⟩
                have HQ := hide hq0
                have HC := hide (gCheck_any kb t nb true A2 c2 hts HSN.out q0 hq0 wj (HMX.out.below HBJ.out) HSL.out)
                clear hq0
                go_wp2_with fail
                refine HC.out.mono ?_
                rintro e w2 ⟨rfl, hb2⟩
                have HB2 := hide (HBJ.out.trans (hb2.mono HBJ.out.size))
                have HB2O := hide (HBJO.out.trans (hb2.mono HBJO.out.size))
                clear hb2 e0 e1 e2
                by_cases hq0 : q0 = 0
                · have HCK2 := hide (HCK.out.trans (HGO.out q0 HQ.out hq0))
                  have htq : (q0 != 0) = false := by simp [hq0]
                  clear hq0
                  go_wp2_with fail
                  go_roundw
                  case rel => exact ⟨k + 1, by omega, by go_num, HB2.out, HB2O.out, HCK2⟩
                  case measure => simp [intOf]; omega
                · have htq : (q0 != 0) = true := by simp [hq0]
                  have HN := hide (show q0 = q by rw [← HQS.out, HCK.out, HNO.out q0 HQ.out hq0])
                  clear hq0
                  go_wp2_with fail
                  go_ret
                  exact ⟨ret_int HN.out, HB2.out⟩
              · have HCK9 := hide (show chkGs true (p ++ x) = chkGs true ([]) by rw [HCK.out, List.drop_of_length_le (by omega), List.nil_append])
                have hbo2 := hbo
                clear hb hbo
                go_wp2_with fail
                go_roundw
                case rel => exact ⟨1 + 1, by omega, by go_num, HB.out, (HBL.out.trans ((HWO.out ▸ hbo2).mono HBL.out.size)), HCK9⟩
                case measure => simp [intOf]
          | 2, _ =>
            have HN := hide (show 0 = q by rw [← HQS.out, HM.out]; rfl)
            clear hbw hbl
            go_wp2_with fail
            go_ret
            exact ⟨ret_int HN.out, HBw.out⟩
  · have tp : ((p.length : Int) == 0) = false := beq_false_of_ne (by omega)
    by_cases hp1 : 16 < p.length
    · have tp2 : (16 : Int) < (p.length : Int) := by omega
      have HN0 := hide (show 2 = q by rw [← HQ0.out, chkS, if_neg (fun h => hp0 h.1), if_pos (.inl hp1)])
      clear hp0 hp1
      have HN := hide (show 2 = q from HN0.out)
      go_wp2_with fail
      go_ret
      exact ⟨ret_int HN.out, HBA.out⟩
    · have tp2 : ¬ (16 : Int) < (p.length : Int) := by omega
      by_cases hx1 : 16 < x.length
      · have tx2 : (16 : Int) < (x.length : Int) := by omega
        have HN0 := hide (show 2 = q by rw [← HQ0.out, chkS, if_neg (fun h => hp0 h.1), if_pos (.inr hx1)])
        clear hp0 hp1 hx1
        have HN := hide (show 2 = q from HN0.out)
        go_wp2_with fail
        go_ret
        exact ⟨ret_int HN.out, HBA.out⟩
      · have tx2 : ¬ (16 : Int) < (x.length : Int) := by omega
        have HQS := hide (show chkGs true (p ++ x) = q by rw [← HQ0.out, chkS, if_neg (fun h => hp0 h.1), if_neg (fun h => by rcases h with h | h <;> simp only at h <;> omega)])
        clear hp0 hp1 hx1
        obtain ⟨wL, hwL⟩ : ∃ W, W = wa.alloc (.cells #[.slice A p.length c, .slice B x.length d] 50) := ⟨_, rfl⟩
        obtain ⟨l0, l1⟩ := two_cells hwL
        have hbL : Below wa.heap.size wa wL := by rw [hwL]; exact (Below.refl _ _).alloc (Nat.le_refl _) _
        have HBWL := hide (HBA.out.trans (hbL.mono HBA.out.size))
        have hzL : wa.heap.size < wL.heap.size := by rw [hwL]; simp
        obtain ⟨gL, hgL⟩ : ∃ g, g = wa.heap.size := ⟨_, rfl⟩
        rw [← hgL] at l0 l1 hzL
        have L0 := hide l0
        have L1 := hide l1
        have HGL := hide hgL
        have HWL := hide hwL
        clear hwL hbL l0 l1 hgL
        go_upto_region 6 with fail
        rw [← HWL.out, ← HGL.out]
        clear c0 c1 HWL HGL
        go_wp2_with fail
        go_loopw [34] (fun i wr => ∃ m : Nat, m ≤ 2 ∧ i = .int .i64 m ∧ Below w.heap.size w wr ∧ Below wL.heap.size wL wr ∧ Hid (chkGs true (p ++ x) = chkGs true (if m = 0 then p ++ x else if m = 1 then x else []))) (fun i _ => 2 - (intOf i).toNat)
        case atStart => exact ⟨0, by omega, rfl, HBWL.out, Below.refl _ _, hide rfl⟩
        case round =>
          obtain ⟨m, hm, rfl, hbw, hbl, HM⟩ := hrel
          have HBw := hide hbw
          have HBL := hide hbl
          match m, hm with
          | 0, _ =>
            have m0 := (hbl.cell (p := ⟨gL, 0, none⟩) hzL).trans L0.out
            clear hbw hbl
            have hbwr := HBw.out
            obtain ⟨wo, hwo⟩ : ∃ wo : World, wo = wr := ⟨_, rfl⟩
            have HWO := hide hwo
            clear hwo
            go_wp2_with fail
            go_loopw [40] (fun i wi => ∃ k : Nat, k ≤ p.length ∧ i = .int .i64 k ∧ Below w.heap.size w wi ∧ Below wo.heap.size wo wi ∧ Hid (chkGs true (p ++ x) = chkGs true (p.drop k ++ x))) (fun i _ => p.length - (intOf i).toNat)
            case atStart => exact ⟨0, Nat.zero_le _, rfl, hbwr, by rw [HWO.out]; exact Below.refl _ _, hide rfl⟩
            case round =>
              obtain ⟨k, hk, rfl, hb, hbo, HCK⟩ := hrel
              have HB := hide hb
              have HBO := hide hbo
              obtain ⟨wi, rfl⟩ : ∃ wi : World, wi = wr := ⟨_, rfl⟩
              by_cases hlt : k < p.length
              · obtain ⟨b2, o2, t, A2, c2, hB, hbS, ht2, d0, d1, d2, hsl⟩ := K1.out.genAt hlt
                subst hB
                have hbS' : b2 < w.heap.size := hbS
                have hsg := HSS.out p[k] (by simp [List.getElem_mem])
                have hgo := fun (q : Int) => chkGs_goA (c := true) (tl := x) (q := q) hlt
                have hno := fun (q : Int) => chkGs_noA (c := true) (tl := x) (q := q) hlt
                obtain ⟨g, hg⟩ : ∃ g, p[k] = g := ⟨_, rfl⟩
                rw [hg] at d0 d2 hsl ht2 hsg hgo hno
                obtain ⟨kb, t', nb⟩ := g
                simp only at d0 d2 hsl ht2
                subst ht2
                have f0 := (hb.cell (p := ⟨b2, o2 + k * 3, none⟩) hbS').trans d0
                have f1 := (hb.cell (p := ⟨b2, o2 + k * 3 + 1, none⟩) hbS').trans d1
                have f2 := (hb.cell (p := ⟨b2, o2 + k * 3 + 2, none⟩) hbS').trans d2
                have hts : t.size ≤ 1000000 := by rw [← size_string]; exact hsg.1
                have HSN := hide hsg.2
                have HGO := hide hgo
                have HNO := hide hno
                obtain ⟨wj, hwj⟩ : ∃ W, W = wi.alloc (.cells #[.int .i64 kb, .string t, .slice A2 nb.length c2] 62) := ⟨_, rfl⟩
                obtain ⟨e0, e1, e2⟩ := gen_cells9 hwj
                have hbj : Below wi.heap.size wi wj := by rw [hwj]; exact (Below.refl _ _).alloc (Nat.le_refl _) _
                have HBJ := hide (hb.trans (hbj.mono hb.size))
                have HBJO := hide (hbo.trans (hbj.mono hbo.size))
                have HSL := hide ((Sl.ok RRdn.ok).below hsl (hb.trans (hbj.mono hb.size)))
                obtain ⟨gx, hgx⟩ : ∃ g, wi.heap.size = g := ⟨_, rfl⟩
                rw [hgx] at e0 e1 e2
                clear hb hbo hbj d0 d1 d2 hsl hsg hgo hno hbS hbS' hg
                go_upto_region 11 with fail
                rw [← hwj]
                try rw [hgx]
                clear hwj hgx f0 f1 f2
                obtain ⟨q0, hq0⟩ : ∃ q, chkG (kb, t.data.toList, nb) true = q := ⟨_, rfl⟩
                have HQ := hide hq0
                have HC := hide (gCheck_any kb t nb true A2 c2 hts HSN.out q0 hq0 wj (HMX.out.below HBJ.out) HSL.out)
                clear hq0
                go_wp2_with fail
                refine HC.out.mono ?_
                rintro e w2 ⟨rfl, hb2⟩
                have HB2 := hide (HBJ.out.trans (hb2.mono HBJ.out.size))
                have HB2O := hide (HBJO.out.trans (hb2.mono HBJO.out.size))
                clear hb2 e0 e1 e2
                by_cases hq0 : q0 = 0
                · have HCK2 := hide (HCK.out.trans (HGO.out q0 HQ.out hq0))
                  have htq : (q0 != 0) = false := by simp [hq0]
                  clear hq0
                  go_wp2_with fail
                  go_roundw
                  case rel => exact ⟨k + 1, by omega, by go_num, HB2.out, HB2O.out, HCK2⟩
                  case measure => simp [intOf]; omega
                · have htq : (q0 != 0) = true := by simp [hq0]
                  have HN := hide (show q0 = q by rw [← HQS.out, HCK.out, HNO.out q0 HQ.out hq0])
                  clear hq0
                  go_wp2_with fail
                  go_ret
                  exact ⟨ret_int HN.out, HB2.out⟩
              · have HCK9 := hide (show chkGs true (p ++ x) = chkGs true (x) by rw [HCK.out, List.drop_of_length_le (by omega), List.nil_append])
                have hbo2 := hbo
                clear hb hbo
                go_wp2_with fail
                go_roundw
                case rel => exact ⟨0 + 1, by omega, by go_num, HB.out, (HBL.out.trans ((HWO.out ▸ hbo2).mono HBL.out.size)), HCK9⟩
                case measure => simp [intOf]
          | 1, _ =>
            have m1 := (hbl.cell (p := ⟨gL, 1, none⟩) hzL).trans L1.out
            clear hbw hbl
            have hbwr := HBw.out
            obtain ⟨wo, hwo⟩ : ∃ wo : World, wo = wr := ⟨_, rfl⟩
            have HWO := hide hwo
            clear hwo
            go_wp2_with fail
            go_loopw [40] (fun i wi => ∃ k : Nat, k ≤ x.length ∧ i = .int .i64 k ∧ Below w.heap.size w wi ∧ Below wo.heap.size wo wi ∧ Hid (chkGs true (p ++ x) = chkGs true (x.drop k ++ []))) (fun i _ => x.length - (intOf i).toNat)
            case atStart => exact ⟨0, Nat.zero_le _, rfl, hbwr, by rw [HWO.out]; exact Below.refl _ _, hide (by rw [List.drop_zero, List.append_nil]; exact HM.out)⟩
            case round =>
              obtain ⟨k, hk, rfl, hb, hbo, HCK⟩ := hrel
              have HB := hide hb
              have HBO := hide hbo
              obtain ⟨wi, rfl⟩ : ∃ wi : World, wi = wr := ⟨_, rfl⟩
              by_cases hlt : k < x.length
              · obtain ⟨b2, o2, t, A2, c2, hB, hbS, ht2, d0, d1, d2, hsl⟩ := K2.out.genAt hlt
                subst hB
                have hbS' : b2 < w.heap.size := hbS
                have hsg := HSS.out x[k] (by simp [List.getElem_mem])
                have hgo := fun (q : Int) => chkGs_goA (c := true) (tl := []) (q := q) hlt
                have hno := fun (q : Int) => chkGs_noA (c := true) (tl := []) (q := q) hlt
                obtain ⟨g, hg⟩ : ∃ g, x[k] = g := ⟨_, rfl⟩
                rw [hg] at d0 d2 hsl ht2 hsg hgo hno
                obtain ⟨kb, t', nb⟩ := g
                simp only at d0 d2 hsl ht2
                subst ht2
                have f0 := (hb.cell (p := ⟨b2, o2 + k * 3, none⟩) hbS').trans d0
                have f1 := (hb.cell (p := ⟨b2, o2 + k * 3 + 1, none⟩) hbS').trans d1
                have f2 := (hb.cell (p := ⟨b2, o2 + k * 3 + 2, none⟩) hbS').trans d2
                have hts : t.size ≤ 1000000 := by rw [← size_string]; exact hsg.1
                have HSN := hide hsg.2
                have HGO := hide hgo
                have HNO := hide hno
                obtain ⟨wj, hwj⟩ : ∃ W, W = wi.alloc (.cells #[.int .i64 kb, .string t, .slice A2 nb.length c2] 62) := ⟨_, rfl⟩
                obtain ⟨e0, e1, e2⟩ := gen_cells9 hwj
                have hbj : Below wi.heap.size wi wj := by rw [hwj]; exact (Below.refl _ _).alloc (Nat.le_refl _) _
                have HBJ := hide (hb.trans (hbj.mono hb.size))
                have HBJO := hide (hbo.trans (hbj.mono hbo.size))
                have HSL := hide ((Sl.ok RRdn.ok).below hsl (hb.trans (hbj.mono hb.size)))
                obtain ⟨gx, hgx⟩ : ∃ g, wi.heap.size = g := ⟨_, rfl⟩
                rw [hgx] at e0 e1 e2
                clear hb hbo hbj d0 d1 d2 hsl hsg hgo hno hbS hbS' hg
                go_upto_region 11 with fail
                rw [← hwj]
                try rw [hgx]
                clear hwj hgx f0 f1 f2
                obtain ⟨q0, hq0⟩ : ∃ q, chkG (kb, t.data.toList, nb) true = q := ⟨_, rfl⟩
                have HQ := hide hq0
                have HC := hide (gCheck_any kb t nb true A2 c2 hts HSN.out q0 hq0 wj (HMX.out.below HBJ.out) HSL.out)
                clear hq0
                go_wp2_with fail
                refine HC.out.mono ?_
                rintro e w2 ⟨rfl, hb2⟩
                have HB2 := hide (HBJ.out.trans (hb2.mono HBJ.out.size))
                have HB2O := hide (HBJO.out.trans (hb2.mono HBJO.out.size))
                clear hb2 e0 e1 e2
                by_cases hq0 : q0 = 0
                · have HCK2 := hide (HCK.out.trans (HGO.out q0 HQ.out hq0))
                  have htq : (q0 != 0) = false := by simp [hq0]
                  clear hq0
                  go_wp2_with fail
                  go_roundw
                  case rel => exact ⟨k + 1, by omega, by go_num, HB2.out, HB2O.out, HCK2⟩
                  case measure => simp [intOf]; omega
                · have htq : (q0 != 0) = true := by simp [hq0]
                  have HN := hide (show q0 = q by rw [← HQS.out, HCK.out, HNO.out q0 HQ.out hq0])
                  clear hq0
                  go_wp2_with fail
                  go_ret
                  exact ⟨ret_int HN.out, HB2.out⟩
              · have HCK9 := hide (show chkGs true (p ++ x) = chkGs true ([]) by rw [HCK.out, List.drop_of_length_le (by omega), List.nil_append])
                have hbo2 := hbo
                clear hb hbo
                go_wp2_with fail
                go_roundw
                case rel => exact ⟨1 + 1, by omega, by go_num, HB.out, (HBL.out.trans ((HWO.out ▸ hbo2).mono HBL.out.size)), HCK9⟩
                case measure => simp [intOf]
          | 2, _ =>
            have HN := hide (show 0 = q by rw [← HQS.out, HM.out]; rfl)
            clear hbw hbl
            go_wp2_with fail
            go_ret
            exact ⟨ret_int HN.out, HBw.out⟩
end Go.Proofs.YtahamclodagihaaGreatDoor
