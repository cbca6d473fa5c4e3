/- The reference's ParseName, its walk. -/
import Derived.Test.YtmgnihmjjijdoaaGreatDoorGNamR
namespace Go.Proofs.YtmgnihmjjijdoaaGreatDoor
open Go.RowKit
def ABp (g : Nat) (ta : ByteArray) (k : Int) (va : ByteArray) (W : World) : Prop := W.heap[g]? = some (.cells #[.string ta, .int .i64 k, .string va] 84 (0, 0))
theorem ABp.all {g : Nat} {ta va : ByteArray} {k : Int} {W : World} (h : ABp g ta k va W) : W.cell? ⟨g, 0, none⟩ = some (.string ta) ∧ W.cell? ⟨g, 1, none⟩ = some (.int .i64 k) ∧ W.cell? ⟨g, 2, none⟩ = some (.string va) ∧
  W.frozen? ⟨g, 0, none⟩ = false ∧ W.frozen? ⟨g, 1, none⟩ = false ∧ W.frozen? ⟨g, 2, none⟩ = false := by
 unfold ABp at h
 simp [World.cell?, World.frozen?, h]
theorem ABp.lt {g : Nat} {ta va : ByteArray} {k : Int} {W : World} (h : ABp g ta k va W) : g < W.heap.size := (Array.getElem?_eq_some_iff.1 h).1
theorem ABp.below {g : Nat} {ta va : ByteArray} {k : Int} {W W' : World} (h : ABp g ta k va W) (hx : Below W.heap.size W W') : ABp g ta k va W' := (hx.block g h.lt).trans h
theorem ABp.drewN {g : Nat} {ta va : ByteArray} {k : Int} {W : World} (h : ABp g ta k va W) (n : Nat) : ABp g ta k va (W.drewN n) := h
theorem ABp.store0 {g : Nat} {ta va : ByteArray} {k : Int} {W : World} (h : ABp g ta k va W) (u : ByteArray) : ABp g u k va (W.setCell ⟨g, 0, none⟩ (.string u)) := by
 unfold ABp at *
 simp [World.setCell, Array.getElem?_modify, h]
theorem ABp.store1 {g : Nat} {ta va : ByteArray} {k : Int} {W : World} (h : ABp g ta k va W) (u : Int) : ABp g ta u va (W.setCell ⟨g, 1, none⟩ (.int .i64 u)) := by
 unfold ABp at *
 simp [World.setCell, Array.getElem?_modify, h]
theorem ABp.store2 {g : Nat} {ta va : ByteArray} {k : Int} {W : World} (h : ABp g ta k va W) (u : ByteArray) : ABp g ta k u (W.setCell ⟨g, 2, none⟩ (.string u)) := by
 unfold ABp at *
 simp [World.setCell, Array.getElem?_modify, h]
theorem short_cells {gs g11 J : Nat} {w6 wj : World} {ma mb : ByteArray} (h : Sl RStr 1 w6 (Lt w6.heap.size) shortF [.slice (some ⟨gs, 0, none⟩) 14 14]) (hx : Ex g11 w6 wj) (hg : gs ≠ g11) (hz : gs < w6.heap.size)
  (h1 : shortF[J]? = some ma.data.toList) (h2 : shortF[J + 1]? = some mb.data.toList) : wj.cell? ⟨gs, J, none⟩ = some (.string ma) ∧ wj.cell? ⟨gs, J + 1, none⟩ = some (.string mb) := by
 have key : ∀ (i : Nat) (m : ByteArray), shortF[i]? = some m.data.toList → wj.cell? ⟨gs, i, none⟩ = some (.string m) := fun i m hm => by
  obtain ⟨hi, hm⟩ := List.getElem?_eq_some_iff.1 hm
  obtain ⟨b, off, xs, hA, _, hr, hc⟩ := h.at_ hi
  cases hA
  have hxs : xs = strC shortF[i] := hr
  subst hxs
  have := hc 0 (.string m) (by rw [hm]; rfl)
  rw [Nat.mul_one, Nat.add_zero, Nat.zero_add] at this
  exact (hx.cell (p := ⟨gs, i, none⟩) hz hg).trans this
 exact ⟨key _ _ h1, key _ _ h2⟩
theorem news_att5 (w : World) (S : Nat → Prop) (t : TypeId) (X V : ByteArray) (k : Int) :
  ∀ i y, [(X.data.toList, k, V.data.toList)][i]? = some y → ∃ cs, RAttr (w.alloc (.cells #[.string X, .int .i64 k, .string V] t)) S y cs ∧ ∀ j u, cs[j]? = some u → (w.alloc (.cells #[.string X, .int .i64 k, .string V] t)).cell? ((⟨w.heap.size, 0, none⟩ : Addr).add (i * 3 + j)) = some u :=
 news_att w S t (X.data.toList, k, V.data.toList)
set_option maxRecDepth 100000 in
set_option maxHeartbeats 16000000 in
theorem rParseB_any (s : ByteArray) (hs : s.size ≤ 100000) (w : World) (hmx : Mx w) :
    Calls Tryz.prog 43 #[.string s] w (ParsePostB w (parseP s.data.toList)) := by
  have HMX := hide hmx
  obtain ⟨r, hr⟩ : ∃ r, parseP s.data.toList = r := ⟨_, rfl⟩
  rw [hr]
  clear hmx
  by_cases h0 : s.data.toList = []
  · have HR := hide (show r = (0, []) by rw [← hr, parseP, if_pos h0])
    have HK := hide (show r.1 = 0 by rw [HR.out])
    have t1 : s.toList = [] := by rw [ByteArray.toList_eq]; exact h0
    have t2 : (s.toList == []) = true := by simpa using t1
    clear h0 hr
    go_enter Tryz.func43, Tryz.ntmps43
    go_wp2_with fail
    obtain ⟨wa, hwa⟩ : ∃ wa, wa = (w.alloc (.cells #[.slice none 0 0] 24)).alloc (.cells #[.slice none 0 0] 24) := ⟨_, rfl⟩
    have hnb : NB w.heap.size (.slice none 0 0) wa := by
      unfold NB
      rw [hwa, Below.heap_alloc _ _ _ (by simp)]
      exact heap_alloc_new w _
    have hba : Below w.heap.size w wa := by rw [hwa]; exact ((Below.refl _ _).alloc (Nat.le_refl _) _).alloc (by simp) _
    try rw [← hwa]
    have hNB := hnb.facts.1
    clear hwa
    exact bodyPost_ret (v := .tuple #[.agg #[.slice none 0 0], .int .i64 0]) (by simp [results, Tryz.results43, go_sem, hNB]) rfl ⟨_, by rw [HR.out], by rw [HR.out]; exact Sl.nil _ _ _ _, hba, by rw [HR.out]; intro x hx; cases hx⟩
  · obtain ⟨ps, hps⟩ : ∃ ps, splitC 44 s.data.toList = ps := ⟨_, rfl⟩
    have HR := hide (show r = parseF (parseNs ps) by rw [← hr, parseP, if_neg h0, hps])
    have HPL := hide (show ∀ p ∈ ps, p.length ≤ 100000 from fun p hp => by
      have := splitC_mem_len 44 s.data.toList p (hps ▸ hp)
      rw [size_string] at this
      omega)
    have hpl : ps.length ≤ 100001 := by
      have := splitC_len 44 s.data.toList
      rw [hps, size_string] at this
      omega
    have t1 : ¬ s.toList = [] := by rw [ByteArray.toList_eq]; exact h0
    have t2 : (s.toList == []) = false := by simpa using t1
    have t3 : s.toList.isEmpty = false := by simpa using t1
    have SP := hide (fun W => hps ▸ rSplit_any s (by omega) 44 W)
    clear h0 hr hps
    go_enter Tryz.func43, Tryz.ntmps43
    go_wp2_with fail
    clear t1 t2 t3
    obtain ⟨wa, hwa⟩ : ∃ wa, wa = (w.alloc (.cells #[.slice none 0 0] 24)).alloc (.cells #[.slice none 0 0] 24) := ⟨_, rfl⟩
    have hnb2 : NB w.heap.size (.slice none 0 0) wa := by
      unfold NB
      rw [hwa, Below.heap_alloc _ _ _ (by simp)]
      exact heap_alloc_new w _
    have hnb4 : NB (w.heap.size + 1) (.slice none 0 0) wa := by
      unfold NB
      rw [hwa, show w.heap.size + 1 = (w.alloc (.cells #[.slice none 0 0] 24)).heap.size by simp]
      exact heap_alloc_new _ _
    have hba : Below w.heap.size w wa := by rw [hwa]; exact ((Below.refl _ _).alloc (Nat.le_refl _) _).alloc (by simp) _
    have hza : wa.heap.size = w.heap.size + 2 := by rw [hwa]; simp
    rw [← hwa]
    refine (SP.out _).mono ?_
    rintro e w1 ⟨vsp, rfl, hb1, hsl⟩
    obtain ⟨Asp, csp, hvsp⟩ := hsl.shape
    subst hvsp
    have HNB2 := hide (hnb2.below hb1)
    have HNB4 := hide (hnb4.below hb1)
    have HB1 := hide (hba.trans (hb1.mono hba.size))
    have HSL := hide hsl
    have hz1' : w.heap.size + 2 ≤ w1.heap.size := by have := hb1.size; omega
    obtain ⟨g4, hg4⟩ : ∃ g4, g4 = w.heap.size + 1 := ⟨_, rfl⟩
    rw [hza] at HSL
    rw [← hg4] at HNB4 ⊢
    obtain ⟨base, hbase⟩ : ∃ base, base = w1.heap.size := ⟨_, rfl⟩
    have hg4b : g4 < base := by omega
    have hg2b : w.heap.size < base := by omega
    have hwg : w.heap.size ≤ g4 := by omega
    have h24 : w.heap.size ≠ g4 := by omega
    have HW3 := hide (show w.heap.size + 2 > g4 by omega)
    have HBASE := hide hbase
    clear hwa hnb2 hnb4 hba hb1 hsl hz1' hza hg4 hbase
    go_wp2_with fail
    go_loopw [24] (fun i wr => ∃ (k : Nat) (l : Name) (v : Value) (S : Nat → Prop), k ≤ ps.length ∧ l.length = k ∧ i = .int .i64 k ∧ Below w.heap.size w wr ∧ Ex g4 w1 wr ∧ base ≤ wr.heap.size ∧ NB g4 v wr ∧ NB w.heap.size (.slice none 0 0) wr ∧ Own RRdn 1 82 wr base S v l ∧
      (∀ j, S j → base ≤ j ∧ j < wr.heap.size) ∧ SmallN l ∧ Hid (parseNs ps = (parseNs (ps.drop k)).map (l ++ ·))) (fun i _ => ps.length - (intOf i).toNat)
    case atStart => exact ⟨0, [], _, No, by omega, rfl, rfl, HB1.out, Ex.refl _ _, by rw [HBASE.out]; exact Nat.le_refl _, HNB4.out, HNB2.out, Own.nil _ _ _ _ _ _, fun j h => h.elim, (fun x hx => by cases hx), hide (by simp)⟩
    case round =>
      obtain ⟨k, l, v, S, hk, hlk, rfl, hb, hex, hgs, hnb4, hnb2, hown, hS, hsm, H⟩ := hrel
      have HLK := hide hlk
      have hlk2 : l.length ≤ k := by omega
      have HNB4 := hide hnb4
      have HNB2 := hide hnb2
      have HB := hide hb
      have HEX := hide hex
      have HOWN := hide hown
      have HS := hide hS
      have HSM := hide hsm
      have hsb := hb.size
      clear hlk hnb4 hnb2 hb hex hown hS hsm
      obtain ⟨c0, f0⟩ := HNB4.out.facts
      obtain ⟨c2, f2⟩ := HNB2.out.facts
      by_cases hlt : k < ps.length
      · obtain ⟨bk, off, xs, hA, hbS, hx, hcell⟩ := HSL.out.at_ hlt
        cases hA
        have hpp := HPL.out ps[k] (List.getElem_mem hlt)
        have HX := hide (show parseNs ps = ((parseRs (splitC 43 ps[k])).bind fun r => (parseNs (ps.drop (k + 1))).map (r :: ·)).map (l ++ ·) by rw [H.out, List.drop_eq_getElem_cons hlt, parseNs])
        obtain ⟨p, hp⟩ : ∃ p : ByteArray, p = ⟨ps[k].toArray⟩ := ⟨_, rfl⟩
        have hp2 : ps[k] = p.data.toList := by rw [hp]
        have hxs : xs = strC ps[k] := hx
        rw [hxs] at hcell
        have e0 := hcell 0 (.string p) (by rw [hp]; rfl)
        have d0 : wr.cell? ⟨bk, off + k, none⟩ = some (.string p) := (HEX.out.cell (p := ⟨bk, off + k, none⟩) hbS.2 (by have := hbS.1; have := HW3.out; show bk ≠ g4; omega)).trans (by simpa using e0)
        rw [hp2] at HX hpp
        rw [size_string] at hpp
        obtain ⟨qs, hqs⟩ : ∃ qs, splitC 43 p.data.toList = qs := ⟨_, rfl⟩
        rw [hqs] at HX
        have HQL := hide (show ∀ q ∈ qs, q.length ≤ 100000 from fun q hq => by
          have := splitC_mem_len 43 p.data.toList q (hqs ▸ hq)
          rw [size_string] at this
          omega)
        have hql : qs.length ≤ 100001 := by
          have := splitC_len 43 p.data.toList
          rw [hqs, size_string] at this
          omega
        have SP2 := hide (fun W => hqs ▸ rSplit_any p (by omega) 43 W)
        clear hx hcell hp hp2 hxs e0 hqs
        obtain ⟨wo, rfl⟩ : ∃ wo : World, wo = wr := ⟨_, rfl⟩
        go_wp2_with fail
        refine (SP2.out _).mono ?_
        rintro e w5 ⟨vsq, rfl, hb5, hsl5⟩
        obtain ⟨Asq, csq, hvsq⟩ := hsl5.shape
        subst hvsq
        have HB5 := hide hb5
        have HSL5 := hide hsl5
        clear hb5 hsl5 d0
        go_wp2_with fail
        go_loopw [7, 31] (fun x7 i wi => ∃ (j : Nat) (rr : List Attr) (vv : Value), j ≤ qs.length ∧ rr.length = j ∧ vv = x7 ∧ i = .int .i64 j ∧ Own RAttr 3 84 wi w5.heap.size No vv rr ∧ Below w5.heap.size w5 wi ∧ w5.heap.size ≤ wi.heap.size ∧ SmallR rr ∧ Hid (parseRs qs = (parseRs (qs.drop j)).map (rr ++ ·))) (fun _ i _ => qs.length - (intOf i).toNat)
        case atStart => exact ⟨0, [], _, by omega, rfl, rfl, rfl, Own.nil _ _ _ _ _ _, Below.refl _ _, Nat.le_refl _, (fun x hx => by cases hx), hide (by simp)⟩
        case round =>
          obtain ⟨j, rr, vv, hj, hrj, rfl, rfl, hown5, hbi, hgi, hsmr, HI⟩ := hrel
          have hrl2 : rr.length ≤ j := by omega
          have HRJ := hide hrj
          have HSMR := hide hsmr
          have hbwi := HB5.out.trans (hbi.mono HB5.out.size)
          have hsz5 := HB5.out.size
          have hszi := hbi.size
          clear hrj hsmr
          by_cases hjl : j < qs.length
          · obtain ⟨bk, off, xs, hA, hbS2, hx, hcell⟩ := HSL5.out.at_ hjl
            cases hA
            have hqq := HQL.out qs[j] (List.getElem_mem hjl)
            have HX2 := hide (show parseRs qs = ((parseA qs[j]).bind fun a => (parseRs (qs.drop (j + 1))).map (a :: ·)).map (rr ++ ·) by rw [HI.out, List.drop_eq_getElem_cons hjl, parseRs])
            obtain ⟨q, hq⟩ : ∃ q : ByteArray, q = ⟨qs[j].toArray⟩ := ⟨_, rfl⟩
            have hq2 : qs[j] = q.data.toList := by rw [hq]
            have hxs : xs = strC qs[j] := hx
            rw [hxs] at hcell
            have e0 := hcell 0 (.string q) (by rw [hq]; rfl)
            have d0 : wr.cell? ⟨bk, off + j, none⟩ = some (.string q) := (hbi.cell (p := ⟨bk, off + j, none⟩) hbS2.2).trans (by simpa using e0)
            rw [hq2] at HX2 hqq
            rw [size_string] at hqq
            obtain ⟨o, ho⟩ : ∃ o, parseA q.data.toList = o := ⟨_, rfl⟩
            rw [ho] at HX2
            have HO := hide ho
            have HMr := hide (HMX.out.below (HB.out.trans (hbwi.mono HB.out.size)))
            have HBI := hide hbi
            have HBWI := hide hbwi
            have HOWN5 := hide hown5
            clear hx hcell hq hq2 hxs e0 ho hbi hbwi hown5
            obtain ⟨wi, rfl⟩ : ∃ wi : World, wi = wr := ⟨_, rfl⟩
            go_wp2_with fail
            clear d0
            go_loop [10] (fun x => ∃ k2 : Nat, k2 ≤ q.size ∧ x = .int .i64 k2 ∧ Hid (∀ y ∈ q.data.toList.take k2, y ≠ 61)) (fun x => q.size - (intOf x).toNat)
            case atStart => exact ⟨0, by omega, rfl, hide (by simp)⟩
            case round =>
              obtain ⟨k2, hk2, rfl, HK2⟩ := hrel
              by_cases hlt2 : k2 < q.size
              · by_cases hc : q[k2] = 61
                · have t1 : ((q[k2].toNat : Int) != 61) = false := by rw [hc]; rfl
                  have t1' : ((q[k2].toNat : Int) == 61) = true := by rw [hc]; rfl
                  have t2 : ((k2 : Int) == (q.size : Int)) = false := by rw [beq_eq_false_iff_ne]; omega
                  have hpq : q.data.toList = q.data.toList.take k2 ++ 61 :: q.data.toList.drop (k2 + 1) := by
                    conv => lhs; rw [← List.take_append_drop k2 q.data.toList]
                    rw [drop_string q k2 hlt2, hc]
                  obtain ⟨p1, hp1⟩ : ∃ p1, p1 = q.extract 0 k2 := ⟨_, rfl⟩
                  obtain ⟨rs, hrs⟩ : ∃ rs, rs = q.extract (k2 + 1) q.size := ⟨_, rfl⟩
                  have hp2 : p1.data.toList = q.data.toList.take k2 := by rw [hp1, Lib.extract_data]; simp
                  have hr2 : rs.data.toList = q.data.toList.drop (k2 + 1) := by
                    rw [hrs, Lib.extract_data, List.take_of_length_le]
                    rw [List.length_drop, size_string]; omega
                  have hps1 : p1.size ≤ 100000 := by rw [← size_string, hp2, List.length_take, size_string]; omega
                  have hrs1 : rs.size ≤ 100000 := by rw [← size_string, hr2, List.length_drop, size_string]; omega
                  have HOP := hide (show o = (unesc rs.data.toList).bind fun v => if validB (rshL shortTab p1.data.toList) = true then some (rshL shortTab p1.data.toList, kindA (rshL shortTab p1.data.toList) v, v) else none by
                    rw [← HO.out, hpq, hp2, hr2]; exact rparse_hit HK2.out)
                  have sl1 : ∀ W : World, (Instr.slice 9 (.string q) none (some (.int .i64 (k2 : Int))) none).run Tryz.prog W = .ok (.string p1) W := fun W => by
                    have h9 := run_slice_string_h (P := Tryz.prog) W 9 q Tryz.underlying9 .i64 (k2 : Int) (by omega) (by omega)
                    rw [h9, hp1, Int.toNat_natCast]
                  have sl2 : ∀ W : World, (Instr.slice 9 (.string q) (some (.int .i64 ((k2 : Int) + 1))) none none).run Tryz.prog W = .ok (.string rs) W := fun W => by
                    have h9 := run_slice_string_l (P := Tryz.prog) W 9 q Tryz.underlying9 .i64 ((k2 : Int) + 1) (by omega) (by omega)
                    rw [h9, hrs, show ((k2 : Int) + 1).toNat = k2 + 1 by omega]
                  have SL2 := hide sl2
                  clear hpq hp1 hrs hp2 hr2 hc c0 f0 c2 f2 sl2
                  go_wp2_with fail
                  refine (rshort_any _).mono ?_
                  rintro e w6 ⟨gs, rfl, hgs, hb6, hz6, hsh⟩
                  obtain ⟨g11, hg11⟩ : ∃ g11, g11 = wi.heap.size := ⟨_, rfl⟩
                  have hab6 : ABp g11 p1 12 ⟨#[]⟩ w6 := ABp.below (by rw [hg11]; exact heap_alloc_new wi _) hb6
                  have HB6 := hide (below_new hb6)
                  have hgs2 : gs = g11 + 1 := by rw [hgs, hg11]; simp
                  have hz62 : w6.heap.size = g11 + 2 := by rw [hz6, hg11]; simp
                  rw [← hg11]
                  have HSH := hide hsh
                  have HAB6 := hide hab6
                  have hsz6 : w5.heap.size ≤ g11 := by omega
                  have HG11 := hide hg11
                  have HZ62 := hide hz62
                  clear hgs hb6 hz6 hsh hab6 t1 t1' t2 sl1 hg11 hz62
                  subst hgs2
                  go_wp2_with fail
                  go_loopw [13] (fun x wj => ∃ (J : Nat) (tc : ByteArray), J ≤ 14 ∧ x = .int .i64 J ∧ Ex g11 w6 wj ∧ ABp g11 tc 12 ⟨#[]⟩ wj ∧ tc.size ≤ 100000 ∧ Hid (∃ i, J = 2 * i ∧ rshL (shortTab.drop i) tc.data.toList = rshL shortTab p1.data.toList)) (fun x _ => 14 - (intOf x).toNat)
                  case atStart => exact ⟨0, p1, by omega, rfl, Ex.refl _ _, HAB6.out, hps1, hide ⟨0, rfl, rfl⟩⟩
                  case round =>
                    obtain ⟨J, tc, hJ, rfl, hexj, habj, htc, HJ⟩ := hrel
                    have HEXJ := hide hexj
                    have HABJ := hide habj
                    obtain ⟨a0, a1, a2, b0, b1, b2⟩ := ABp.all habj
                    clear hexj habj
                    by_cases hJ14 : J < 14
                    · obtain ⟨i, HJi, HJr⟩ : ∃ i, Hid (J = 2 * i) ∧ Hid (rshL (shortTab.drop i) tc.data.toList = rshL shortTab p1.data.toList) := by
                        obtain ⟨i, h1, h2⟩ := HJ.out
                        exact ⟨i, h1, h2⟩
                      have hi7 : i < 7 := by have := HJi.out; omega
                      obtain ⟨hf1, hf2⟩ := shortF_at i hi7
                      obtain ⟨hl1, hl2⟩ := shortTab_len i hi7
                      have HD := hide (HJr.out.symm.trans (by rw [shortTab_drop i hi7, rshL]))
                      obtain ⟨pr, hpr⟩ : ∃ pr, shortTab.getD i ([], []) = pr := ⟨_, rfl⟩
                      rw [hpr] at hf1 hf2 hl1 hl2 HD
                      obtain ⟨ma, hma⟩ : ∃ ma : ByteArray, ma = ⟨pr.1.toArray⟩ := ⟨_, rfl⟩
                      obtain ⟨mb, hmb⟩ : ∃ mb : ByteArray, mb = ⟨pr.2.toArray⟩ := ⟨_, rfl⟩
                      have hma2 : pr.1 = ma.data.toList := by rw [hma]
                      have hmb2 : pr.2 = mb.data.toList := by rw [hmb]
                      rw [hma2, hmb2] at HD
                      rw [hma2] at hf1
                      rw [hmb2] at hf2
                      rw [hmb2, size_string] at hl2
                      rw [← HJi.out] at hf1 hf2
                      obtain ⟨m0, m1⟩ := short_cells HSH.out HEXJ.out (by omega) (by have := HZ62.out; omega) hf1 hf2
                      have hJ0 : (0 : Int) ≤ (J : Int) := by omega
                      have hJ1 : (J : Int) + 1 < 14 := by have := HJi.out; omega
                      have hJ2 : (J : Int) < 14 := by omega
                      have hJ3 : (0 : Int) ≤ (J : Int) + 1 := by omega
                      clear hf1 hf2 hl1 hpr hma hmb hma2 hmb2
                      by_cases heq : ma.toList = tc.toList
                      · have u1 : (ma.toList == tc.toList) = true := by simpa using heq
                        have HN := hide (show rshL (shortTab.drop (i + 1)) mb.data.toList = rshL shortTab p1.data.toList by
                          rw [HD.out, if_pos ((str_eq ma tc).1 heq)])
                        clear heq
                        go_wp2_with fail
                        go_quiet (fail)
                        go_wp2_with fail
                        go_roundw
                        case rel => exact ⟨J + 2, mb, by omega, by go_num, (HEXJ.out.drewN nq).trans (Ex.set _ _ _ _), ABp.store0 (ABp.drewN HABJ.out nq) mb, by omega, hide ⟨i + 1, by have := HJi.out; omega, HN.out⟩⟩
                        case measure => simp [intOf]; omega
                      · have u1 : (ma.toList == tc.toList) = false := by simpa using heq
                        have HN := hide (show rshL (shortTab.drop (i + 1)) tc.data.toList = rshL shortTab p1.data.toList by
                          rw [HD.out, if_neg (fun e => heq ((str_eq ma tc).2 e))])
                        go_wp2_with fail
                        go_quiet (fail)
                        go_wp2_with fail
                        go_roundw
                        case rel => exact ⟨J + 2, tc, by omega, by go_num, HEXJ.out.drewN nq, ABp.drewN HABJ.out nq, htc, hide ⟨i + 1, by have := HJi.out; omega, HN.out⟩⟩
                        case measure => simp [intOf]; omega
                    · have HTC := hide (show rshL shortTab p1.data.toList = tc.data.toList by
                        obtain ⟨i, h1, h2⟩ := HJ.out
                        rw [← h2, List.drop_of_length_le (by show 7 ≤ i; omega)]; rfl)
                      have HBJ := hide (Ex.below HB6.out HB6.out.size (by rw [HG11.out]; exact Nat.le_refl _) HEXJ.out)
                      have HO2 := hide (show o = (unesc rs.data.toList).bind fun v => if validB tc.data.toList = true then some (tc.data.toList, kindA tc.data.toList v, v) else none by rw [HOP.out, HTC.out])
                      have sl2 := SL2.out
                      clear a0 a1 a2 b0 b1 b2
                      go_wp2_with fail
                      refine (runesc_v rs (by omega) _).mono ?_
                      rintro e w7 ⟨rfl, hb7⟩
                      have HB7 := hide (HBJ.out.trans (hb7.mono HBJ.out.size))
                      have HAB7 := hide (HABJ.out.below hb7)
                      clear hb7 sl2
                      obtain ⟨uo, huo⟩ : ∃ uo, unesc rs.data.toList = uo := ⟨_, rfl⟩
                      rw [huo]
                      have HU := hide huo
                      have hgi : wi.heap.size ≤ g11 := by rw [HG11.out]; exact Nat.le_refl _
                      clear huo
                      cases uo with
                      | none =>
                        rw [show optR none = .tuple #[.string ⟨#[]⟩, .bool false] from rfl]
                        have HN := hide (show r = (32, []) by rw [HR.out, HX.out, HX2.out, HO2.out, HU.out]; rfl)
                        have HK := hide (show r.1 = 32 by rw [HN.out])
                        have HBx := hide (HBWI.out.trans (HB7.out.mono HBWI.out.size))
                        have HNBx := hide (HNB2.out.below HBx.out)
                        have HBy := hide (HB.out.trans (HBx.out.mono HB.out.size))
                        obtain ⟨c7, f7⟩ := HNBx.out.facts
                        go_wp2_with fail
                        have hNB := (HNBx.out.store (.slice none 0 0)).facts.1
                        obtain ⟨W3, hW3⟩ : ∃ W3, W3 = w7.setCell ⟨w.heap.size, 0, none⟩ (.slice none 0 0) := ⟨_, rfl⟩
                        have hbz : Below w.heap.size w W3 := by rw [hW3]; exact HBy.out.setCell (p := ⟨w.heap.size, 0, none⟩) (Nat.le_refl _) _
                        have HSL := hide (show Sl RRdn 1 W3 (Btw w.heap.size W3.heap.size) r.2 [(.slice none 0 0)] by rw [hW3]; (rw [HN.out]; exact Sl.nil _ _ _ _))
                        rw [← hW3] at hNB ⊢
                        clear hW3
                        exact bodyPost_ret (v := .tuple #[.agg #[(.slice none 0 0)], .int .i64 32]) (by simp [results, Tryz.results43, go_sem, hNB]) rfl ⟨(.slice none 0 0), by rw [HK.out], HSL.out, hbz, (by rw [HN.out]; intro x hx; cases hx)⟩
                      | some v2 =>
                        have hvl := unesc_len HU.out
                        rw [show optR (some v2) = .tuple #[.string ⟨v2.toArray⟩, .bool true] from rfl]
                        obtain ⟨va, hva⟩ : ∃ va : ByteArray, va = ⟨v2.toArray⟩ := ⟨_, rfl⟩
                        have hva2 : v2 = va.data.toList := by rw [hva]
                        rw [hva2, size_string, size_string] at hvl
                        rw [← hva]
                        have HO3 := hide (show o = if validB tc.data.toList = true then some (tc.data.toList, kindA tc.data.toList va.data.toList, va.data.toList) else none by rw [HO2.out, HU.out, Option.bind_some, hva2])
                        obtain ⟨pv, hpv⟩ : ∃ pv, validB tc.data.toList = pv := ⟨_, rfl⟩
                        have HPV := hide hpv
                        have HM7 := hide (HMX.out.below (HB.out.trans ((HBWI.out.trans (HB7.out.mono HBWI.out.size)).mono HB.out.size)))
                        obtain ⟨a0, a1, a2, b0, b1, b2⟩ := ABp.all HAB7.out
                        clear hva hva2 hpv
                        go_wp2_with fail
                        refine (roid_v tc (by omega) pv HPV.out _ HM7.out).mono ?_
                        rintro e w8 ⟨rfl, hb8⟩
                        have HB8 := hide (HB7.out.trans (hb8.mono HB7.out.size))
                        have HAB8 := hide (HAB7.out.below hb8)
                        clear hb8 a0 a1 a2 b0 b1 b2
                        cases pv
                        · have HO4 := hide (show o = none by rw [HO3.out, HPV.out]; rfl)
                          have HN := hide (show r = (32, []) by rw [HR.out, HX.out, HX2.out, HO4.out]; rfl)
                          have HK := hide (show r.1 = 32 by rw [HN.out])
                          have HBx := hide (HBWI.out.trans (HB8.out.mono HBWI.out.size))
                          have HNBx := hide (HNB2.out.below HBx.out)
                          have HBy := hide (HB.out.trans (HBx.out.mono HB.out.size))
                          obtain ⟨c7, f7⟩ := HNBx.out.facts
                          go_wp2_with fail
                          have hNB := (HNBx.out.store (.slice none 0 0)).facts.1
                          obtain ⟨W3, hW3⟩ : ∃ W3, W3 = w8.setCell ⟨w.heap.size, 0, none⟩ (.slice none 0 0) := ⟨_, rfl⟩
                          have hbz : Below w.heap.size w W3 := by rw [hW3]; exact HBy.out.setCell (p := ⟨w.heap.size, 0, none⟩) (Nat.le_refl _) _
                          have HSL := hide (show Sl RRdn 1 W3 (Btw w.heap.size W3.heap.size) r.2 [(.slice none 0 0)] by rw [hW3]; (rw [HN.out]; exact Sl.nil _ _ _ _))
                          rw [← hW3] at hNB ⊢
                          clear hW3
                          exact bodyPost_ret (v := .tuple #[.agg #[(.slice none 0 0)], .int .i64 32]) (by simp [results, Tryz.results43, go_sem, hNB]) rfl ⟨(.slice none 0 0), by rw [HK.out], HSL.out, hbz, (by rw [HN.out]; intro x hx; cases hx)⟩
                        · have HO4 := hide (show o = some (tc.data.toList, kindA tc.data.toList va.data.toList, va.data.toList) by rw [HO3.out, if_pos HPV.out])
                          obtain ⟨a0, a1, a2, b0, b1, b2⟩ := ABp.all HAB8.out
                          go_upto_region 27 with (fail)
                          obtain ⟨w9, hw9⟩ : ∃ w9, w9 = w8.setCell ⟨g11, 2, none⟩ (.string va) := ⟨_, rfl⟩
                          have HAB9 := hide (hw9 ▸ HAB8.out.store2 va)
                          have HB9 := hide (show Below wi.heap.size wi w9 by rw [hw9]; exact HB8.out.setCell (p := ⟨g11, 2, none⟩) hgi _)
                          rw [← hw9]
                          clear hw9 a0 a1 a2 b0 b1 b2
                          obtain ⟨qv, hqv⟩ : ∃ qv, validT 19 va.data.toList = qv := ⟨_, rfl⟩
                          have HQV := hide hqv
                          clear hqv
                          go_wp2_with fail
                          refine (rtext_v 19 va (by omega) qv HQV.out _).mono ?_
                          rintro e w10 ⟨rfl, hb10⟩
                          have HB10 := hide (HB9.out.trans (hb10.mono HB9.out.size))
                          have HAB10 := hide (HAB9.out.below hb10)
                          clear hb10
                          cases qv
                          · go_upto_region 29 with (fail)
                            obtain ⟨w11, hw11⟩ : ∃ w11 : World, w11 = w10 := ⟨_, rfl⟩
                            have HAB11 := hide (hw11 ▸ HAB10.out)
                            have HB11 := hide (show Below wi.heap.size wi w11 by rw [hw11]; exact HB10.out)
                            rw [← hw11]
                            clear hw11
                            obtain ⟨a0, a1, a2, b0, b1, b2⟩ := ABp.all HAB11.out
                            by_cases h1 : tc.data.toList = oidDC
                            · have t1 : (tc.toList == oidDC) = true := by rw [ByteArray.toList_eq, h1]; rfl
                              have t2 : tc.toList = oidDC := by rw [ByteArray.toList_eq, h1]
                              have HKA := hide (show kindA tc.data.toList va.data.toList = 22 by rw [kindA, if_pos (.inl h1)])
                              clear h1
                              unfold oidDC at t1 t2
                              go_upto_region 31 with (fail)
                              obtain ⟨w12, hw12⟩ : ∃ w12, w12 = w11.setCell ⟨g11, 1, none⟩ (.int .i64 22) := ⟨_, rfl⟩
                              have HAB12 := hide (hw12 ▸ HAB11.out.store1 22)
                              have HB12 := hide (show Below wi.heap.size wi w12 by rw [hw12]; exact HB11.out.setCell (p := ⟨g11, 1, none⟩) hgi _)
                              rw [← hw12]
                              clear hw12 a0 a1 a2 b0 b1 b2
                              obtain ⟨a0, a1, a2, b0, b1, b2⟩ := ABp.all HAB12.out
                              have HOW := hide (HOWN5.out.below RAttr.ok (no_lt _) HB12.out)
                              have HY := hide (show parseRs qs = (parseRs (qs.drop (j + 1))).map ((rr ++ [(tc.data.toList, 22, va.data.toList)]) ++ ·) by
                                rw [HX2.out, HO4.out, HKA.out, Option.bind_some, Option.map_map]; congr 1; funext z; simp)
                              have HSA := hide (show SmallA (tc.data.toList, 22, va.data.toList) from ⟨by show tc.data.toList.length ≤ _; rw [size_string]; omega, by show va.data.toList.length ≤ _; rw [size_string]; omega⟩)
                              have hs12 := HB12.out.size
                              have hs12' : w5.heap.size ≤ w12.heap.size := by omega
                              go_wp2_with (at_builtin; refine wpList_app RAttr.ok _ rfl (.tmp 107) (.tmp 109) 82 rfl w5.heap.size 84 (.agg #[.string ⟨#[]⟩, .int .i64 0, .string ⟨#[]⟩]) 40 Tryz.underlying82 info_att rfl (by decide) No _ rr rfl (HOW.out.alloc RAttr.ok (no_lt _) _) ⟨_, 0, none⟩ 1 1 [(tc.data.toList, 22, va.data.toList)] rfl rfl (news_att5 _ _ _ tc va 22) (no_lt _) (by simp; omega) (by simp [maxLen]; omega) (by simp; omega) ?_; intro v7 w13 hown7 hg7 hb7 hat7; have hsz7 := hb7.size; simp at hsz7)
                              go_roundw
                              case rel => exact ⟨j + 1, rr ++ [(tc.data.toList, 22, va.data.toList)], _, by omega, by simp [HRJ.out], rfl, by go_num, hown7, ((HBI.out.trans (HB12.out.mono hszi)).alloc hs12' _).trans hb7, by omega, (fun x hx => by
                                rcases List.mem_append.1 hx with hx | hx
                                · exact HSMR.out x hx
                                · simp at hx; subst hx; exact HSA.out), HY⟩
                              case measure => simp [intOf]; omega
                            · have t1 : (tc.toList == oidDC) = false := by rw [ByteArray.toList_eq]; simpa using h1
                              have t2 : ¬ tc.toList = oidDC := by rw [ByteArray.toList_eq]; exact h1
                              by_cases h2 : tc.data.toList = oidE
                              · have t3 : (tc.toList == oidE) = true := by rw [ByteArray.toList_eq, h2]; rfl
                                have t4 : tc.toList = oidE := by rw [ByteArray.toList_eq, h2]
                                have HKA := hide (show kindA tc.data.toList va.data.toList = 22 by rw [kindA, if_pos (.inr h2)])
                                clear h1 h2 t1 t2
                                unfold oidE at t3 t4
                                go_upto_region 31 with (fail)
                                obtain ⟨w12, hw12⟩ : ∃ w12, w12 = w11.setCell ⟨g11, 1, none⟩ (.int .i64 22) := ⟨_, rfl⟩
                                have HAB12 := hide (hw12 ▸ HAB11.out.store1 22)
                                have HB12 := hide (show Below wi.heap.size wi w12 by rw [hw12]; exact HB11.out.setCell (p := ⟨g11, 1, none⟩) hgi _)
                                rw [← hw12]
                                clear hw12 a0 a1 a2 b0 b1 b2
                                obtain ⟨a0, a1, a2, b0, b1, b2⟩ := ABp.all HAB12.out
                                have HOW := hide (HOWN5.out.below RAttr.ok (no_lt _) HB12.out)
                                have HY := hide (show parseRs qs = (parseRs (qs.drop (j + 1))).map ((rr ++ [(tc.data.toList, 22, va.data.toList)]) ++ ·) by
                                  rw [HX2.out, HO4.out, HKA.out, Option.bind_some, Option.map_map]; congr 1; funext z; simp)
                                have HSA := hide (show SmallA (tc.data.toList, 22, va.data.toList) from ⟨by show tc.data.toList.length ≤ _; rw [size_string]; omega, by show va.data.toList.length ≤ _; rw [size_string]; omega⟩)
                                have hs12 := HB12.out.size
                                have hs12' : w5.heap.size ≤ w12.heap.size := by omega
                                go_wp2_with (at_builtin; refine wpList_app RAttr.ok _ rfl (.tmp 107) (.tmp 109) 82 rfl w5.heap.size 84 (.agg #[.string ⟨#[]⟩, .int .i64 0, .string ⟨#[]⟩]) 40 Tryz.underlying82 info_att rfl (by decide) No _ rr rfl (HOW.out.alloc RAttr.ok (no_lt _) _) ⟨_, 0, none⟩ 1 1 [(tc.data.toList, 22, va.data.toList)] rfl rfl (news_att5 _ _ _ tc va 22) (no_lt _) (by simp; omega) (by simp [maxLen]; omega) (by simp; omega) ?_; intro v7 w13 hown7 hg7 hb7 hat7; have hsz7 := hb7.size; simp at hsz7)
                                go_roundw
                                case rel => exact ⟨j + 1, rr ++ [(tc.data.toList, 22, va.data.toList)], _, by omega, by simp [HRJ.out], rfl, by go_num, hown7, ((HBI.out.trans (HB12.out.mono hszi)).alloc hs12' _).trans hb7, by omega, (fun x hx => by
                                  rcases List.mem_append.1 hx with hx | hx
                                  · exact HSMR.out x hx
                                  · simp at hx; subst hx; exact HSA.out), HY⟩
                                case measure => simp [intOf]; omega
                              · have t3 : (tc.toList == oidE) = false := by rw [ByteArray.toList_eq]; simpa using h2
                                have t4 : ¬ tc.toList = oidE := by rw [ByteArray.toList_eq]; exact h2
                                have HKA := hide (show kindA tc.data.toList va.data.toList = 12 by
                                  rw [kindA, if_neg (by rintro (h | h); exact h1 h; exact h2 h), HQV.out]; rfl)
                                clear h1 h2
                                unfold oidDC at t1 t2
                                unfold oidE at t3 t4
                                go_upto_region 31 with (fail)
                                obtain ⟨w12, hw12⟩ : ∃ w12 : World, w12 = w11 := ⟨_, rfl⟩
                                have HAB12 := hide (hw12 ▸ HAB11.out)
                                have HB12 := hide (show Below wi.heap.size wi w12 by rw [hw12]; exact HB11.out)
                                rw [← hw12]
                                clear hw12 a0 a1 a2 b0 b1 b2
                                obtain ⟨a0, a1, a2, b0, b1, b2⟩ := ABp.all HAB12.out
                                have HOW := hide (HOWN5.out.below RAttr.ok (no_lt _) HB12.out)
                                have HY := hide (show parseRs qs = (parseRs (qs.drop (j + 1))).map ((rr ++ [(tc.data.toList, 12, va.data.toList)]) ++ ·) by
                                  rw [HX2.out, HO4.out, HKA.out, Option.bind_some, Option.map_map]; congr 1; funext z; simp)
                                have HSA := hide (show SmallA (tc.data.toList, 12, va.data.toList) from ⟨by show tc.data.toList.length ≤ _; rw [size_string]; omega, by show va.data.toList.length ≤ _; rw [size_string]; omega⟩)
                                have hs12 := HB12.out.size
                                have hs12' : w5.heap.size ≤ w12.heap.size := by omega
                                go_wp2_with (at_builtin; refine wpList_app RAttr.ok _ rfl (.tmp 107) (.tmp 109) 82 rfl w5.heap.size 84 (.agg #[.string ⟨#[]⟩, .int .i64 0, .string ⟨#[]⟩]) 40 Tryz.underlying82 info_att rfl (by decide) No _ rr rfl (HOW.out.alloc RAttr.ok (no_lt _) _) ⟨_, 0, none⟩ 1 1 [(tc.data.toList, 12, va.data.toList)] rfl rfl (news_att5 _ _ _ tc va 12) (no_lt _) (by simp; omega) (by simp [maxLen]; omega) (by simp; omega) ?_; intro v7 w13 hown7 hg7 hb7 hat7; have hsz7 := hb7.size; simp at hsz7)
                                go_roundw
                                case rel => exact ⟨j + 1, rr ++ [(tc.data.toList, 12, va.data.toList)], _, by omega, by simp [HRJ.out], rfl, by go_num, hown7, ((HBI.out.trans (HB12.out.mono hszi)).alloc hs12' _).trans hb7, by omega, (fun x hx => by
                                  rcases List.mem_append.1 hx with hx | hx
                                  · exact HSMR.out x hx
                                  · simp at hx; subst hx; exact HSA.out), HY⟩
                                case measure => simp [intOf]; omega
                          · obtain ⟨a0, a1, a2, b0, b1, b2⟩ := ABp.all HAB10.out
                            go_upto_region 29 with (fail)
                            obtain ⟨w11, hw11⟩ : ∃ w11, w11 = w10.setCell ⟨g11, 1, none⟩ (.int .i64 19) := ⟨_, rfl⟩
                            have HAB11 := hide (hw11 ▸ HAB10.out.store1 19)
                            have HB11 := hide (show Below wi.heap.size wi w11 by rw [hw11]; exact HB10.out.setCell (p := ⟨g11, 1, none⟩) hgi _)
                            rw [← hw11]
                            clear hw11 a0 a1 a2 b0 b1 b2
                            obtain ⟨a0, a1, a2, b0, b1, b2⟩ := ABp.all HAB11.out
                            by_cases h1 : tc.data.toList = oidDC
                            · have t1 : (tc.toList == oidDC) = true := by rw [ByteArray.toList_eq, h1]; rfl
                              have t2 : tc.toList = oidDC := by rw [ByteArray.toList_eq, h1]
                              have HKA := hide (show kindA tc.data.toList va.data.toList = 22 by rw [kindA, if_pos (.inl h1)])
                              clear h1
                              unfold oidDC at t1 t2
                              go_upto_region 31 with (fail)
                              obtain ⟨w12, hw12⟩ : ∃ w12, w12 = w11.setCell ⟨g11, 1, none⟩ (.int .i64 22) := ⟨_, rfl⟩
                              have HAB12 := hide (hw12 ▸ HAB11.out.store1 22)
                              have HB12 := hide (show Below wi.heap.size wi w12 by rw [hw12]; exact HB11.out.setCell (p := ⟨g11, 1, none⟩) hgi _)
                              rw [← hw12]
                              clear hw12 a0 a1 a2 b0 b1 b2
                              obtain ⟨a0, a1, a2, b0, b1, b2⟩ := ABp.all HAB12.out
                              have HOW := hide (HOWN5.out.below RAttr.ok (no_lt _) HB12.out)
                              have HY := hide (show parseRs qs = (parseRs (qs.drop (j + 1))).map ((rr ++ [(tc.data.toList, 22, va.data.toList)]) ++ ·) by
                                rw [HX2.out, HO4.out, HKA.out, Option.bind_some, Option.map_map]; congr 1; funext z; simp)
                              have HSA := hide (show SmallA (tc.data.toList, 22, va.data.toList) from ⟨by show tc.data.toList.length ≤ _; rw [size_string]; omega, by show va.data.toList.length ≤ _; rw [size_string]; omega⟩)
                              have hs12 := HB12.out.size
                              have hs12' : w5.heap.size ≤ w12.heap.size := by omega
                              go_wp2_with (at_builtin; refine wpList_app RAttr.ok _ rfl (.tmp 107) (.tmp 109) 82 rfl w5.heap.size 84 (.agg #[.string ⟨#[]⟩, .int .i64 0, .string ⟨#[]⟩]) 40 Tryz.underlying82 info_att rfl (by decide) No _ rr rfl (HOW.out.alloc RAttr.ok (no_lt _) _) ⟨_, 0, none⟩ 1 1 [(tc.data.toList, 22, va.data.toList)] rfl rfl (news_att5 _ _ _ tc va 22) (no_lt _) (by simp; omega) (by simp [maxLen]; omega) (by simp; omega) ?_; intro v7 w13 hown7 hg7 hb7 hat7; have hsz7 := hb7.size; simp at hsz7)
                              go_roundw
                              case rel => exact ⟨j + 1, rr ++ [(tc.data.toList, 22, va.data.toList)], _, by omega, by simp [HRJ.out], rfl, by go_num, hown7, ((HBI.out.trans (HB12.out.mono hszi)).alloc hs12' _).trans hb7, by omega, (fun x hx => by
                                rcases List.mem_append.1 hx with hx | hx
                                · exact HSMR.out x hx
                                · simp at hx; subst hx; exact HSA.out), HY⟩
                              case measure => simp [intOf]; omega
                            · have t1 : (tc.toList == oidDC) = false := by rw [ByteArray.toList_eq]; simpa using h1
                              have t2 : ¬ tc.toList = oidDC := by rw [ByteArray.toList_eq]; exact h1
                              by_cases h2 : tc.data.toList = oidE
                              · have t3 : (tc.toList == oidE) = true := by rw [ByteArray.toList_eq, h2]; rfl
                                have t4 : tc.toList = oidE := by rw [ByteArray.toList_eq, h2]
                                have HKA := hide (show kindA tc.data.toList va.data.toList = 22 by rw [kindA, if_pos (.inr h2)])
                                clear h1 h2 t1 t2
                                unfold oidE at t3 t4
                                go_upto_region 31 with (fail)
                                obtain ⟨w12, hw12⟩ : ∃ w12, w12 = w11.setCell ⟨g11, 1, none⟩ (.int .i64 22) := ⟨_, rfl⟩
                                have HAB12 := hide (hw12 ▸ HAB11.out.store1 22)
                                have HB12 := hide (show Below wi.heap.size wi w12 by rw [hw12]; exact HB11.out.setCell (p := ⟨g11, 1, none⟩) hgi _)
                                rw [← hw12]
                                clear hw12 a0 a1 a2 b0 b1 b2
                                obtain ⟨a0, a1, a2, b0, b1, b2⟩ := ABp.all HAB12.out
                                have HOW := hide (HOWN5.out.below RAttr.ok (no_lt _) HB12.out)
                                have HY := hide (show parseRs qs = (parseRs (qs.drop (j + 1))).map ((rr ++ [(tc.data.toList, 22, va.data.toList)]) ++ ·) by
                                  rw [HX2.out, HO4.out, HKA.out, Option.bind_some, Option.map_map]; congr 1; funext z; simp)
                                have HSA := hide (show SmallA (tc.data.toList, 22, va.data.toList) from ⟨by show tc.data.toList.length ≤ _; rw [size_string]; omega, by show va.data.toList.length ≤ _; rw [size_string]; omega⟩)
                                have hs12 := HB12.out.size
                                have hs12' : w5.heap.size ≤ w12.heap.size := by omega
                                go_wp2_with (at_builtin; refine wpList_app RAttr.ok _ rfl (.tmp 107) (.tmp 109) 82 rfl w5.heap.size 84 (.agg #[.string ⟨#[]⟩, .int .i64 0, .string ⟨#[]⟩]) 40 Tryz.underlying82 info_att rfl (by decide) No _ rr rfl (HOW.out.alloc RAttr.ok (no_lt _) _) ⟨_, 0, none⟩ 1 1 [(tc.data.toList, 22, va.data.toList)] rfl rfl (news_att5 _ _ _ tc va 22) (no_lt _) (by simp; omega) (by simp [maxLen]; omega) (by simp; omega) ?_; intro v7 w13 hown7 hg7 hb7 hat7; have hsz7 := hb7.size; simp at hsz7)
                                go_roundw
                                case rel => exact ⟨j + 1, rr ++ [(tc.data.toList, 22, va.data.toList)], _, by omega, by simp [HRJ.out], rfl, by go_num, hown7, ((HBI.out.trans (HB12.out.mono hszi)).alloc hs12' _).trans hb7, by omega, (fun x hx => by
                                  rcases List.mem_append.1 hx with hx | hx
                                  · exact HSMR.out x hx
                                  · simp at hx; subst hx; exact HSA.out), HY⟩
                                case measure => simp [intOf]; omega
                              · have t3 : (tc.toList == oidE) = false := by rw [ByteArray.toList_eq]; simpa using h2
                                have t4 : ¬ tc.toList = oidE := by rw [ByteArray.toList_eq]; exact h2
                                have HKA := hide (show kindA tc.data.toList va.data.toList = 19 by
                                  rw [kindA, if_neg (by rintro (h | h); exact h1 h; exact h2 h), HQV.out]; rfl)
                                clear h1 h2
                                unfold oidDC at t1 t2
                                unfold oidE at t3 t4
                                go_upto_region 31 with (fail)
                                obtain ⟨w12, hw12⟩ : ∃ w12 : World, w12 = w11 := ⟨_, rfl⟩
                                have HAB12 := hide (hw12 ▸ HAB11.out)
                                have HB12 := hide (show Below wi.heap.size wi w12 by rw [hw12]; exact HB11.out)
                                rw [← hw12]
                                clear hw12 a0 a1 a2 b0 b1 b2
                                obtain ⟨a0, a1, a2, b0, b1, b2⟩ := ABp.all HAB12.out
                                have HOW := hide (HOWN5.out.below RAttr.ok (no_lt _) HB12.out)
                                have HY := hide (show parseRs qs = (parseRs (qs.drop (j + 1))).map ((rr ++ [(tc.data.toList, 19, va.data.toList)]) ++ ·) by
                                  rw [HX2.out, HO4.out, HKA.out, Option.bind_some, Option.map_map]; congr 1; funext z; simp)
                                have HSA := hide (show SmallA (tc.data.toList, 19, va.data.toList) from ⟨by show tc.data.toList.length ≤ _; rw [size_string]; omega, by show va.data.toList.length ≤ _; rw [size_string]; omega⟩)
                                have hs12 := HB12.out.size
                                have hs12' : w5.heap.size ≤ w12.heap.size := by omega
                                go_wp2_with (at_builtin; refine wpList_app RAttr.ok _ rfl (.tmp 107) (.tmp 109) 82 rfl w5.heap.size 84 (.agg #[.string ⟨#[]⟩, .int .i64 0, .string ⟨#[]⟩]) 40 Tryz.underlying82 info_att rfl (by decide) No _ rr rfl (HOW.out.alloc RAttr.ok (no_lt _) _) ⟨_, 0, none⟩ 1 1 [(tc.data.toList, 19, va.data.toList)] rfl rfl (news_att5 _ _ _ tc va 19) (no_lt _) (by simp; omega) (by simp [maxLen]; omega) (by simp; omega) ?_; intro v7 w13 hown7 hg7 hb7 hat7; have hsz7 := hb7.size; simp at hsz7)
                                go_roundw
                                case rel => exact ⟨j + 1, rr ++ [(tc.data.toList, 19, va.data.toList)], _, by omega, by simp [HRJ.out], rfl, by go_num, hown7, ((HBI.out.trans (HB12.out.mono hszi)).alloc hs12' _).trans hb7, by omega, (fun x hx => by
                                  rcases List.mem_append.1 hx with hx | hx
                                  · exact HSMR.out x hx
                                  · simp at hx; subst hx; exact HSA.out), HY⟩
                                case measure => simp [intOf]; omega
                · have t1' : ((q[k2].toNat : Int) == 61) = false := (byte_beq q[k2] 61).trans (by simpa using hc)
                  have t1 : ((q[k2].toNat : Int) != 61) = true := by rw [bne, t1']; rfl
                  have HN := hide (show ∀ y ∈ q.data.toList.take (k2 + 1), y ≠ 61 from fun y hy => by
                    rw [List.take_succ_eq_append_getElem (by rw [size_string]; exact hlt2)] at hy
                    rcases List.mem_append.1 hy with hy | hy
                    · exact HK2.out y hy
                    · simp at hy; subst hy; exact hc)
                  clear hc
                  go_wp2_with fail
                  go_round
                  case rel => exact ⟨k2 + 1, by omega, by go_num, HN⟩
                  case measure => simp [intOf]; omega
              · have HON := hide (show o = none by
                  rw [← HO.out]
                  refine rparse_none ?_
                  have := HK2.out
                  rwa [List.take_of_length_le (by rw [size_string]; omega)] at this)
                have t2 : ((k2 : Int) == (q.size : Int)) = true := by rw [beq_iff_eq]; omega
                have HN := hide (show r = (32, []) by rw [HR.out, HX.out, HX2.out, HON.out]; rfl)
                have HK := hide (show r.1 = 32 by rw [HN.out])
                have HB7 := hide (HB.out.trans (HBWI.out.mono HB.out.size))
                have HNB7 := hide (HNB2.out.below HBWI.out)
                obtain ⟨c7, f7⟩ := HNB7.out.facts
                clear c0 f0 c2 f2
                go_wp2_with fail
                have hNB := (HNB7.out.store (.slice none 0 0)).facts.1
                obtain ⟨W3, hW3⟩ : ∃ W3, W3 = wi.setCell ⟨w.heap.size, 0, none⟩ (.slice none 0 0) := ⟨_, rfl⟩
                have hbz : Below w.heap.size w W3 := by rw [hW3]; exact HB7.out.setCell (p := ⟨w.heap.size, 0, none⟩) (Nat.le_refl _) _
                have HSL := hide (show Sl RRdn 1 W3 (Btw w.heap.size W3.heap.size) r.2 [(.slice none 0 0)] by rw [hW3]; (rw [HN.out]; exact Sl.nil _ _ _ _))
                rw [← hW3] at hNB ⊢
                clear hW3
                exact bodyPost_ret (v := .tuple #[.agg #[(.slice none 0 0)], .int .i64 32]) (by simp [results, Tryz.results43, go_sem, hNB]) rfl ⟨(.slice none 0 0), by rw [HK.out], HSL.out, hbz, (by rw [HN.out]; intro x hx; cases hx)⟩
          · have HPR := hide (show parseRs qs = some rr by rw [HI.out, List.drop_of_length_le (by omega)]; simp [parseRs])
            have HY := hide (show parseNs ps = (parseNs (ps.drop (k + 1))).map ((l ++ [rr]) ++ ·) by
              rw [HX.out, HPR.out, Option.bind_some, Option.map_map]; congr 1; funext z; simp)
            have hownS := hown5.sl RAttr.ok
            obtain ⟨A6, c7, hvv⟩ := hownS.shape
            subst hvv
            obtain ⟨S', hS'⟩ : ∃ S' : Nat → Prop, S' = fun j => S j ∨ (w5.heap.size ≤ j ∧ j < wr.heap.size) := ⟨_, rfl⟩
            have hS1 : ∀ j, S j → S' j := fun j hj => by rw [hS']; exact .inl hj
            have hS2 : ∀ j, S' j → base ≤ j ∧ j < wr.heap.size := fun j hj => by
              rw [hS'] at hj
              rcases hj with hj | hj
              · have := HS.out j hj; omega
              · omega
            have hnoS : ∀ g, v.ownBlock = some g → ¬ S' g := fun g hg hh => by
              rw [hS'] at hh
              have hlt := (HOWN.out.lt g hg).2
              rcases hh with hh | hh
              · obtain ⟨_, _, h2, _⟩ := HOWN.out
                exact h2 g hg hh
              · omega
            have hownO := ((HOWN.out.below RRdn.ok (fun j hj => (HS.out j hj).2) hbwi).more RRdn.ok hS1 hnoS)
            have hownA := hownO.alloc RRdn.ok (fun j hj => (hS2 j hj).2) (.cells #[.slice A6 rr.length c7] 82)
            have hgA : ∀ j, S' j → j < (wr.alloc (.cells #[.slice A6 rr.length c7] 82)).heap.size := fun j hj => by have := (hS2 j hj).2; simp; omega
            have hnew : Sl RAttr 3 (wr.alloc (.cells #[.slice A6 rr.length c7] 82)) S' rr [.slice A6 rr.length c7] := (Sl.ok RAttr.ok).mono hownS (fun j hj => Below.heap_alloc _ _ j (by rcases hj with hj | hj; exact hj.elim; exact hj.2)) (fun j hj => by rw [hS']; rcases hj with hj | hj; exact hj.elim; exact .inr hj)
            have HNEW := hide (news_one (R := RRdn) hnew)
            have hbA : Below wo.heap.size wo (wr.alloc (.cells #[.slice A6 rr.length c7] 82)) := hbwi.alloc (by omega) _
            have hnb4 := HNB4.out.below hbA
            have hnb2 := HNB2.out.below hbA
            have HN4 := hide (fun W (h : Below base (wr.alloc (.cells #[.slice A6 rr.length c7] 82)) W) => (show NB g4 v W from (h.block g4 hg4b).trans hnb4))
            have HN2 := hide (fun W (h : Below base (wr.alloc (.cells #[.slice A6 rr.length c7] 82)) W) => (show NB w.heap.size (.slice none 0 0) W from (h.block _ hg2b).trans hnb2))
            have c0 := (HNB4.out.below hbwi).facts.1
            have HBA := hide hbA
            have HOA := hide hownA
            have HS2 := hide hS2
            have hbz : base ≤ (wr.alloc (.cells #[.slice A6 rr.length c7] 82)).heap.size := by simp; omega
            clear hown5 hbi hbwi hownS hS' hS1 hS2 hnoS hownO hownA hnew hbA hnb4 hnb2 f0 c2 f2
            go_wp2_with (at_builtin; refine wpList_app RRdn.ok _ rfl (.tmp 113) (.tmp 115) 22 rfl base 82 (.slice none 0 0) 24 Tryz.underlying22 info_rdn rfl (by decide) S' _ l rfl HOA.out ⟨_, 0, none⟩ 1 1 [rr] rfl rfl HNEW.out hgA (by simp; omega) (by simp [maxLen]; omega) hbz ?_; intro v6 w6 hown6 hg6 hb6 hat6; obtain ⟨c6, f6⟩ := (HN4.out _ hb6).facts; have hsz6 := hb6.size; obtain ⟨A8, c8, hv8⟩ := (hown6.sl RRdn.ok).shape; obtain ⟨n8, hn8⟩ : ∃ n8, (l ++ [rr]).length = n8 := ⟨_, rfl⟩; rw [hn8] at hv8; subst hv8; clear hn8)
            have hsz7 : wr.heap.size + 1 ≤ w6.heap.size := by simpa using hsz6
            have hbf := (HB.out.trans (HBA.out.mono HB.out.size)).trans (hb6.mono (by omega))
            have hexf : Ex g4 w1 w6 := (HEX.out.then_ HBA.out).then_base (HBASE.out ▸ hb6)
            have hn2 := HN2.out _ hb6
            have hn4 := HN4.out _ hb6
            go_roundw
            case rel => exact ⟨k + 1, l ++ [rr], _, S', by omega, by simp [HLK.out], by go_num, hbf.setCell (p := ⟨g4, 0, none⟩) hwg _, hexf.trans (Ex.set g4 0 w6 _), by simp; omega, hn4.store _, hn2.other h24, hown6.other RRdn.ok (fun j hj => (HS2.out j hj).1) hg4b _, fun j hj => ⟨(HS2.out j hj).1, by have := (HS2.out j hj).2; simp; omega⟩, (fun x hx => by
              rcases List.mem_append.1 hx with hx | hx
              · exact HSM.out x hx
              · simp at hx; subst hx; exact HSMR.out), HY⟩
            case measure => simp [intOf]; omega
      · have HP := hide (show parseNs ps = some l by rw [H.out, List.drop_of_length_le (by omega)]; simp [parseNs])
        have hsl := (Sl.ok RRdn.ok).mono (HOWN.out.sl RRdn.ok) (fun _ _ => rfl) (S' := Lt wr.heap.size) (fun j hj => by rcases hj with hj | hj; exact (HS.out j hj).2; exact hj.2)
        have hslB := (Sl.ok RRdn.ok).mono (HOWN.out.sl RRdn.ok) (fun _ _ => rfl) (S' := fun j => base ≤ j ∧ j < wr.heap.size) (fun j hj => by rcases hj with hj | hj; exact HS.out j hj; exact hj)
        obtain ⟨A, cc, hv⟩ := hsl.shape
        subst hv
        have HSLv := hide hsl
        have HSLB := hide hslB
        clear hslB
        clear hsl
        go_wp2_with fail
        refine (rCheck_any l A cc _ (HMX.out.below HB.out) HSLv.out HSM.out).mono ?_
        rintro e w5 ⟨rfl, hb5⟩
        have HB5 := hide (HB.out.trans (hb5.mono HB.out.size))
        have hn2 := HNB2.out.below hb5
        have hn4 := HNB4.out.below hb5
        have HSL5 := hide ((Sl.ok RRdn.ok).mono HSLB.out (fun j hj => hb5.block j hj.2) (fun j hj => hj))
        have hs5 := hb5.size
        obtain ⟨c5, f5⟩ := hn2.facts
        obtain ⟨c6, f6⟩ := hn4.facts
        have HN2 := hide hn2
        obtain ⟨q, hq⟩ : ∃ q, chkN l = q := ⟨_, rfl⟩
        rw [hq]
        have HQ := hide hq
        clear hb5 hn2 hn4 c0 f0 c2 f2 hq
        by_cases hq0 : q = 0
        · have HN := hide (show r = (0, l) by rw [HR.out, HP.out, parseF, HQ.out, if_pos hq0])
          have HK := hide (show r.1 = 0 by rw [HN.out])
          have ht : (q != 0) = false := by simp [hq0]
          clear hq0
          go_wp2_with fail
          have hNB := (HN2.out.store (.slice A l.length cc)).facts.1
          obtain ⟨W3, hW3⟩ : ∃ W3, W3 = w5.setCell ⟨w.heap.size, 0, none⟩ (.slice A l.length cc) := ⟨_, rfl⟩
          have hbz : Below w.heap.size w W3 := by rw [hW3]; exact HB5.out.setCell (p := ⟨w.heap.size, 0, none⟩) (Nat.le_refl _) _
          have HSL := hide (show Sl RRdn 1 W3 (Btw w.heap.size W3.heap.size) r.2 [(.slice A l.length cc)] by rw [hW3]; (rw [HN.out]; exact (Sl.ok RRdn.ok).mono HSL5.out (fun j hj => Below.heap_setCell w5 _ _ j (by have := hj.1; show j ≠ w.heap.size; omega)) (fun j hj => ⟨by have := hj.1; omega, by have := hj.2; simp; omega⟩)))
          rw [← hW3] at hNB ⊢
          clear hW3
          exact bodyPost_ret (v := .tuple #[.agg #[(.slice A l.length cc)], .int .i64 0]) (by simp [results, Tryz.results43, go_sem, hNB]) rfl ⟨(.slice A l.length cc), by rw [HK.out], HSL.out, hbz, (by rw [HN.out]; exact HSM.out)⟩
        · have HN := hide (show r = (q, []) by rw [HR.out, HP.out, parseF, HQ.out, if_neg hq0])
          have HK := hide (show r.1 = q by rw [HN.out])
          have ht : (q != 0) = true := by simp [hq0]
          clear hq0
          go_wp2_with fail
          have hNB := (HN2.out.store (.slice none 0 0)).facts.1
          obtain ⟨W3, hW3⟩ : ∃ W3, W3 = w5.setCell ⟨w.heap.size, 0, none⟩ (.slice none 0 0) := ⟨_, rfl⟩
          have hbz : Below w.heap.size w W3 := by rw [hW3]; exact HB5.out.setCell (p := ⟨w.heap.size, 0, none⟩) (Nat.le_refl _) _
          have HSL := hide (show Sl RRdn 1 W3 (Btw w.heap.size W3.heap.size) r.2 [(.slice none 0 0)] by rw [hW3]; (rw [HN.out]; exact Sl.nil _ _ _ _))
          rw [← hW3] at hNB ⊢
          clear hW3
          exact bodyPost_ret (v := .tuple #[.agg #[(.slice none 0 0)], .int .i64 q]) (by simp [results, Tryz.results43, go_sem, hNB]) rfl ⟨(.slice none 0 0), by rw [HK.out], HSL.out, hbz, (by rw [HN.out]; intro x hx; cases hx)⟩
end Go.Proofs.YtmgnihmjjijdoaaGreatDoor
