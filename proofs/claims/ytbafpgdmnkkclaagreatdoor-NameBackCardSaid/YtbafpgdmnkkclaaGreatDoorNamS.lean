/- The functions of package dname: Parse, its walk. -/
import Derived.Test.YtbafpgdmnkkclaaGreatDoorNam2
namespace Go.Proofs.YtbafpgdmnkkclaaGreatDoor
open Go.RowKit


set_option maxRecDepth 100000 in
set_option maxHeartbeats 16000000 in
theorem Parse_any (s : ByteArray) (hs : s.size ≤ 100000) (w : World) (hmx : Mx w) :
    Calls Tryz.prog 25 #[.string s] w (ParsePost w (parseP s.data.toList)) := by
  have HMX := hide hmx
  obtain ⟨r, hr⟩ : ∃ r, parseP s.data.toList = r := ⟨_, rfl⟩
  rw [hr]
  clear hmx
  by_cases h0 : s.data.toList = []
  · have HR := hide (show r = (0, []) by rw [← hr, parseP, if_pos h0])
    have HK := hide (show r.1 = 0 by rw [HR.out])
    have t1 : s.toList = [] := by rw [ByteArray.toList_eq]; exact h0
    have t2 : (s.toList == []) = true := by simpa using t1
    clear h0 hr
    go_enter Tryz.func25, Tryz.ntmps25
    go_wp2_with fail
    obtain ⟨wa, hwa⟩ : ∃ wa, wa = (w.alloc (.cells #[.slice none 0 0] 31)).alloc (.cells #[.slice none 0 0] 31) := ⟨_, rfl⟩
    have hnb : NB w.heap.size (.slice none 0 0) wa := by
      unfold NB
      rw [hwa, Below.heap_alloc _ _ _ (by simp)]
      exact heap_alloc_new w _
    have hba : Below w.heap.size w wa := by rw [hwa]; exact ((Below.refl _ _).alloc (Nat.le_refl _) _).alloc (by simp) _
    try rw [← hwa]
    have hNB := hnb.facts.1
    clear hwa
    exact bodyPost_ret (v := .tuple #[.agg #[.slice none 0 0], .int .i64 0]) (by simp [results, Tryz.results25, go_sem, hNB]) rfl ⟨_, by rw [HR.out], by rw [HR.out]; exact Sl.nil _ _ _ _, hba, by rw [HR.out]; intro x hx; cases hx⟩
  · obtain ⟨ps, hps⟩ : ∃ ps, splitC 44 s.data.toList = ps := ⟨_, rfl⟩
    have HR := hide (show r = parseF (parseNs ps) by rw [← hr, parseP, if_neg h0, hps])
    have HPL := hide (show ∀ p ∈ ps, p.length ≤ 100000 from fun p hp => by
      have := splitC_mem_len 44 s.data.toList p (hps ▸ hp)
      rw [size_string] at this
      omega)
    have hpl : ps.length ≤ 100001 := by
      have := splitC_len 44 s.data.toList
      rw [hps, size_string] at this
      omega
    have t1 : ¬ s.toList = [] := by rw [ByteArray.toList_eq]; exact h0
    have t2 : (s.toList == []) = false := by simpa using t1
    have t3 : s.toList.isEmpty = false := by simpa using t1
    have SP := hide (fun W hm => hps ▸ split_v s (by omega) 44 W hm)
    clear h0 hr hps
    go_enter Tryz.func25, Tryz.ntmps25
    go_wp2_with fail
    clear t1 t2 t3
    obtain ⟨wa, hwa⟩ : ∃ wa, wa = (w.alloc (.cells #[.slice none 0 0] 31)).alloc (.cells #[.slice none 0 0] 31) := ⟨_, rfl⟩
    have hnb2 : NB w.heap.size (.slice none 0 0) wa := by
      unfold NB
      rw [hwa, Below.heap_alloc _ _ _ (by simp)]
      exact heap_alloc_new w _
    have hnb4 : NB (w.heap.size + 1) (.slice none 0 0) wa := by
      unfold NB
      rw [hwa, show w.heap.size + 1 = (w.alloc (.cells #[.slice none 0 0] 31)).heap.size by simp]
      exact heap_alloc_new _ _
    have hba : Below w.heap.size w wa := by rw [hwa]; exact ((Below.refl _ _).alloc (Nat.le_refl _) _).alloc (by simp) _
    have hza : wa.heap.size = w.heap.size + 2 := by rw [hwa]; simp
    rw [← hwa]
    refine (SP.out _ (HMX.out.below hba)).mono ?_
    rintro e w1 ⟨rfl, hb1, hz1, hsl⟩
    have HNB2 := hide (hnb2.below hb1)
    have HNB4 := hide (hnb4.below hb1)
    have HB1 := hide (hba.trans (hb1.mono hba.size))
    have HSL := hide hsl
    have hz1' : w1.heap.size = w.heap.size + 3 := by omega
    have HZ1 := hide hz1'
    have HZA := hide hza
    rw [hza]
    obtain ⟨gp, hgp⟩ : ∃ gp, gp = w.heap.size + 2 := ⟨_, rfl⟩
    obtain ⟨g4, hg4⟩ : ∃ g4, g4 = w.heap.size + 1 := ⟨_, rfl⟩
    rw [hza] at HSL
    rw [← hgp] at HSL ⊢
    rw [← hg4] at HNB4 ⊢
    obtain ⟨base, hbase⟩ : ∃ base, base = w1.heap.size := ⟨_, rfl⟩
    have hgb : gp < base := by omega
    have hg4b : g4 < base := by omega
    have hg2b : w.heap.size < base := by omega
    have hwg : w.heap.size ≤ g4 := by omega
    have h24 : w.heap.size ≠ g4 := by omega
    have hp4 : gp ≠ g4 := by omega
    have HBASE := hide hbase
    clear hwa hnb2 hnb4 hba hb1 hsl hz1 hz1' hza hgp hg4 hbase
    go_wp2_with fail
    go_loopw [19] (fun i wr => ∃ (k : Nat) (l : Name) (v : Value) (S : Nat → Prop), k ≤ ps.length ∧ l.length = k ∧ i = .int .i64 k ∧ Below w.heap.size w wr ∧ Ex g4 w1 wr ∧ base ≤ wr.heap.size ∧ NB g4 v wr ∧ NB w.heap.size (.slice none 0 0) wr ∧ Own RRdn 1 42 wr base S v l ∧
      (∀ j, S j → base ≤ j ∧ j < wr.heap.size) ∧ SmallN l ∧ Hid (parseNs ps = (parseNs (ps.drop k)).map (l ++ ·))) (fun i _ => ps.length - (intOf i).toNat)
    case atStart => exact ⟨0, [], _, No, by omega, rfl, rfl, HB1.out, Ex.refl _ _, by rw [HBASE.out]; exact Nat.le_refl _, HNB4.out, HNB2.out, Own.nil _ _ _ _ _ _, fun j h => h.elim, (fun x hx => by cases hx), hide (by simp)⟩
    case round =>
      obtain ⟨k, l, v, S, hk, hlk, rfl, hb, hex, hgs, hnb4, hnb2, hown, hS, hsm, H⟩ := hrel
      have HLK := hide hlk
      have hlk2 : l.length ≤ k := by omega
      have HNB4 := hide hnb4
      have HNB2 := hide hnb2
      have HB := hide hb
      have HEX := hide hex
      have HOWN := hide hown
      have HS := hide hS
      have HSM := hide hsm
      have hsb := hb.size
      clear hlk hnb4 hnb2 hb hex hown hS hsm
      obtain ⟨c0, f0⟩ := HNB4.out.facts
      obtain ⟨c2, f2⟩ := HNB2.out.facts
      by_cases hlt : k < ps.length
      · obtain ⟨bk, off, xs, hA, hbS, hx, hcell⟩ := HSL.out.at_ hlt
        cases hA
        have hpp := HPL.out ps[k] (List.getElem_mem hlt)
        have HX := hide (show parseNs ps = ((parseRs (splitC 43 ps[k])).bind fun r => (parseNs (ps.drop (k + 1))).map (r :: ·)).map (l ++ ·) by rw [H.out, List.drop_eq_getElem_cons hlt, parseNs])
        obtain ⟨p, hp⟩ : ∃ p : ByteArray, p = ⟨ps[k].toArray⟩ := ⟨_, rfl⟩
        have hp2 : ps[k] = p.data.toList := by rw [hp]
        have hxs : xs = strC ps[k] := hx
        rw [hxs] at hcell
        have e0 := hcell 0 (.string p) (by rw [hp]; rfl)
        have d0 : wr.cell? ⟨gp, k, none⟩ = some (.string p) := (HEX.out.cell (p := ⟨gp, k, none⟩) (show gp < w1.heap.size by have := HBASE.out; omega) hp4).trans (by simpa using e0)
        rw [hp2] at HX hpp
        rw [size_string] at hpp
        obtain ⟨qs, hqs⟩ : ∃ qs, splitC 43 p.data.toList = qs := ⟨_, rfl⟩
        rw [hqs] at HX
        have HQL := hide (show ∀ q ∈ qs, q.length ≤ 100000 from fun q hq => by
          have := splitC_mem_len 43 p.data.toList q (hqs ▸ hq)
          rw [size_string] at this
          omega)
        have hql : qs.length ≤ 100001 := by
          have := splitC_len 43 p.data.toList
          rw [hqs, size_string] at this
          omega
        have SP2 := hide (fun W hm => hqs ▸ split_v p (by omega) 43 W hm)
        clear hx hcell hp hp2 hxs e0 hqs
        obtain ⟨wo, rfl⟩ : ∃ wo : World, wo = wr := ⟨_, rfl⟩
        go_wp2_with fail
        refine (SP2.out _ (HMX.out.below HB.out)).mono ?_
        rintro e w5 ⟨rfl, hb5, hz5, hsl5⟩
        have HB5 := hide hb5
        have HSL5 := hide hsl5
        have hz5' : w5.heap.size = wo.heap.size + 1 := hz5
        clear hb5 hsl5 hz5 d0
        go_wp2_with fail
        go_loopw [7, 26] (fun x7 i wi => ∃ (j : Nat) (rr : List Attr) (vv : Value), j ≤ qs.length ∧ rr.length = j ∧ vv = x7 ∧ i = .int .i64 j ∧ Own RAttr 3 40 wi w5.heap.size No vv rr ∧ Below w5.heap.size w5 wi ∧ w5.heap.size ≤ wi.heap.size ∧ SmallR rr ∧ Hid (parseRs qs = (parseRs (qs.drop j)).map (rr ++ ·))) (fun _ i _ => qs.length - (intOf i).toNat)
        case atStart => exact ⟨0, [], _, by omega, rfl, rfl, rfl, Own.nil _ _ _ _ _ _, Below.refl _ _, Nat.le_refl _, (fun x hx => by cases hx), hide (by simp)⟩
        case round =>
          obtain ⟨j, rr, vv, hj, hrj, rfl, rfl, hown5, hbi, hgi, hsmr, HI⟩ := hrel
          have hrl2 : rr.length ≤ j := by omega
          have HRJ := hide hrj
          have HSMR := hide hsmr
          have hbwi := HB5.out.trans (hbi.mono HB5.out.size)
          have hsz5 := HB5.out.size
          have hszi := hbi.size
          clear hrj hsmr
          by_cases hjl : j < qs.length
          · obtain ⟨bk, off, xs, hA, hbS2, hx, hcell⟩ := HSL5.out.at_ hjl
            cases hA
            have hqq := HQL.out qs[j] (List.getElem_mem hjl)
            have HX2 := hide (show parseRs qs = ((parseA qs[j]).bind fun a => (parseRs (qs.drop (j + 1))).map (a :: ·)).map (rr ++ ·) by rw [HI.out, List.drop_eq_getElem_cons hjl, parseRs])
            obtain ⟨q, hq⟩ : ∃ q : ByteArray, q = ⟨qs[j].toArray⟩ := ⟨_, rfl⟩
            have hq2 : qs[j] = q.data.toList := by rw [hq]
            have hxs : xs = strC qs[j] := hx
            rw [hxs] at hcell
            have e0 := hcell 0 (.string q) (by rw [hq]; rfl)
            have d0 : wr.cell? ⟨wo.heap.size, j, none⟩ = some (.string q) := (hbi.cell (p := ⟨wo.heap.size, j, none⟩) (show wo.heap.size < w5.heap.size by omega)).trans (by simpa using e0)
            rw [hq2] at HX2 hqq
            rw [size_string] at hqq
            obtain ⟨o, ho⟩ : ∃ o, parseA q.data.toList = o := ⟨_, rfl⟩
            rw [ho] at HX2
            have HO := hide ho
            have HMr := hide (HMX.out.below (HB.out.trans (hbwi.mono HB.out.size)))
            have HBI := hide hbi
            have HBWI := hide hbwi
            have HOWN5 := hide hown5
            clear hx hcell hq hq2 hxs e0 ho hbi hbwi hown5
            go_wp2_with fail
            refine (parseAtt_any q (by omega) _ HMr.out).mono ?_
            rintro e w6 ⟨rfl, hb6⟩
            rw [HO.out]
            have hs6 := hb6.size
            cases o with
            | none =>
              have HN := hide (show r = (32, []) by rw [HR.out, HX.out, HX2.out]; rfl)
              have HK := hide (show r.1 = 32 by rw [HN.out])
              have hb6w := HB.out.trans ((HBWI.out.trans (hb6.mono (by omega))).mono HB.out.size)
              have hnb6 : NB w.heap.size (.slice none 0 0) w6 := (HNB2.out.below HBWI.out).below hb6
              rw [show parR none = .tuple #[.agg #[.string ⟨#[]⟩, .int .i64 0, .string ⟨#[]⟩], .bool false] from rfl]
              have hnb7 := hnb6.below ((Below.refl w6.heap.size w6).alloc (Nat.le_refl _) (.cells #[.string ⟨#[]⟩, .int .i64 0, .string ⟨#[]⟩] 40))
              obtain ⟨c7, f7⟩ := hnb7.facts
              have HNB7 := hide hnb7
              have HB7 := hide (hb6w.alloc hb6w.size (.cells #[.string ⟨#[]⟩, .int .i64 0, .string ⟨#[]⟩] 40))
              clear hb6 hb6w hnb6 hnb7 c0 f0 c2 f2 d0
              go_wp2_with fail
              have hNB := (HNB7.out.store (.slice none 0 0)).facts.1
              obtain ⟨W3, hW3⟩ : ∃ W3, W3 = (w6.alloc (.cells #[.string ⟨#[]⟩, .int .i64 0, .string ⟨#[]⟩] 40)).setCell ⟨w.heap.size, 0, none⟩ (.slice none 0 0) := ⟨_, rfl⟩
              have hbz : Below w.heap.size w W3 := by rw [hW3]; exact HB7.out.setCell (p := ⟨w.heap.size, 0, none⟩) (Nat.le_refl _) _
              have HSL := hide (show Sl RRdn 1 W3 (Lt W3.heap.size) r.2 [(.slice none 0 0)] by rw [hW3]; (rw [HN.out]; exact Sl.nil _ _ _ _))
              rw [← hW3] at hNB ⊢
              clear hW3
              exact bodyPost_ret (v := .tuple #[.agg #[(.slice none 0 0)], .int .i64 32]) (by simp [results, Tryz.results25, go_sem, hNB]) rfl ⟨(.slice none 0 0), by rw [HK.out], HSL.out, hbz, (by rw [HN.out]; intro x hx; cases hx)⟩
            | some a =>
              have hsa := parseA_small HO.out (by rw [size_string]; exact hqq)
              have HSA := hide hsa
              have HY := hide (show parseRs qs = (parseRs (qs.drop (j + 1))).map ((rr ++ [a]) ++ ·) by
                rw [HX2.out, Option.bind_some, Option.map_map]; congr 1; funext z; simp)
              rw [show parR (some a) = .tuple #[.agg #[.string ⟨a.1.toArray⟩, .int .i64 a.2.1, .string ⟨a.2.2.toArray⟩], .bool true] from rfl]
              have hown6 := HOWN5.out.below RAttr.ok (no_lt _) hb6
              have HB6 := hide (HBI.out.trans (hb6.mono (by omega)))
              clear hb6 c0 f0 c2 f2 d0 hsa
              go_wp2_with (at_builtin; refine wpList_app RAttr.ok _ rfl (.tmp 38) (.tmp 40) 42 rfl w5.heap.size 40 (.agg #[.string ⟨#[]⟩, .int .i64 0, .string ⟨#[]⟩]) 40 Tryz.underlying42 info_att rfl (by decide) No _ rr rfl ((hown6.alloc RAttr.ok (no_lt _) _).alloc RAttr.ok (no_lt _) _) ⟨_, 0, none⟩ 1 1 [a] rfl rfl (news_att2 _ _ _ _ a) (no_lt _) (by simp; omega) (by simp [maxLen]; omega) (by simp; omega) ?_; intro v7 w7 hown7 hg7 hb7 hat7; have hsz7 := hb7.size; simp at hsz7)
              go_roundw
              case rel => exact ⟨j + 1, rr ++ [a], _, by omega, by simp [HRJ.out], rfl, by go_num, hown7, ((HB6.out.alloc (by omega) _).alloc (by simp; omega) _).trans hb7, by omega, (fun x hx => by
                rcases List.mem_append.1 hx with hx | hx
                · exact HSMR.out x hx
                · simp at hx; subst hx; exact HSA.out), HY⟩
              case measure => simp [intOf]; omega
          · have HPR := hide (show parseRs qs = some rr by rw [HI.out, List.drop_of_length_le (by omega)]; simp [parseRs])
            have HY := hide (show parseNs ps = (parseNs (ps.drop (k + 1))).map ((l ++ [rr]) ++ ·) by
              rw [HX.out, HPR.out, Option.bind_some, Option.map_map]; congr 1; funext z; simp)
            have hownS := hown5.sl RAttr.ok
            obtain ⟨A6, c7, hvv⟩ := hownS.shape
            subst hvv
            obtain ⟨S', hS'⟩ : ∃ S' : Nat → Prop, S' = fun j => S j ∨ (w5.heap.size ≤ j ∧ j < wr.heap.size) := ⟨_, rfl⟩
            have hS1 : ∀ j, S j → S' j := fun j hj => by rw [hS']; exact .inl hj
            have hS2 : ∀ j, S' j → base ≤ j ∧ j < wr.heap.size := fun j hj => by
              rw [hS'] at hj
              rcases hj with hj | hj
              · have := HS.out j hj; omega
              · omega
            have hnoS : ∀ g, v.ownBlock = some g → ¬ S' g := fun g hg hh => by
              rw [hS'] at hh
              have hlt := (HOWN.out.lt g hg).2
              rcases hh with hh | hh
              · obtain ⟨_, _, h2, _⟩ := HOWN.out
                exact h2 g hg hh
              · omega
            have hownO := ((HOWN.out.below RRdn.ok (fun j hj => (HS.out j hj).2) hbwi).more RRdn.ok hS1 hnoS)
            have hownA := hownO.alloc RRdn.ok (fun j hj => (hS2 j hj).2) (.cells #[.slice A6 rr.length c7] 42)
            have hgA : ∀ j, S' j → j < (wr.alloc (.cells #[.slice A6 rr.length c7] 42)).heap.size := fun j hj => by have := (hS2 j hj).2; simp; omega
            have hnew : Sl RAttr 3 (wr.alloc (.cells #[.slice A6 rr.length c7] 42)) S' rr [.slice A6 rr.length c7] := (Sl.ok RAttr.ok).mono hownS (fun j hj => Below.heap_alloc _ _ j (by rcases hj with hj | hj; exact hj.elim; exact hj.2)) (fun j hj => by rw [hS']; rcases hj with hj | hj; exact hj.elim; exact .inr hj)
            have HNEW := hide (news_one (R := RRdn) hnew)
            have hbA : Below wo.heap.size wo (wr.alloc (.cells #[.slice A6 rr.length c7] 42)) := hbwi.alloc (by omega) _
            have hnb4 := HNB4.out.below hbA
            have hnb2 := HNB2.out.below hbA
            have HN4 := hide (fun W (h : Below base (wr.alloc (.cells #[.slice A6 rr.length c7] 42)) W) => (show NB g4 v W from (h.block g4 hg4b).trans hnb4))
            have HN2 := hide (fun W (h : Below base (wr.alloc (.cells #[.slice A6 rr.length c7] 42)) W) => (show NB w.heap.size (.slice none 0 0) W from (h.block _ hg2b).trans hnb2))
            have c0 := (HNB4.out.below hbwi).facts.1
            have HBA := hide hbA
            have HOA := hide hownA
            have HS2 := hide hS2
            have hbz : base ≤ (wr.alloc (.cells #[.slice A6 rr.length c7] 42)).heap.size := by simp; omega
            clear hown5 hbi hbwi hownS hS' hS1 hS2 hnoS hownO hownA hnew hbA hnb4 hnb2 f0 c2 f2
            go_wp2_with (at_builtin; refine wpList_app RRdn.ok _ rfl (.tmp 44) (.tmp 46) 29 rfl base 42 (.slice none 0 0) 24 Tryz.underlying29 info_rdn rfl (by decide) S' _ l rfl HOA.out ⟨_, 0, none⟩ 1 1 [rr] rfl rfl HNEW.out hgA (by simp; omega) (by simp [maxLen]; omega) hbz ?_; intro v6 w6 hown6 hg6 hb6 hat6; obtain ⟨c6, f6⟩ := (HN4.out _ hb6).facts; have hsz6 := hb6.size; obtain ⟨A8, c8, hv8⟩ := (hown6.sl RRdn.ok).shape; obtain ⟨n8, hn8⟩ : ∃ n8, (l ++ [rr]).length = n8 := ⟨_, rfl⟩; rw [hn8] at hv8; subst hv8; clear hn8)
            have hsz7 : wr.heap.size + 1 ≤ w6.heap.size := by simpa using hsz6
            have hbf := (HB.out.trans (HBA.out.mono HB.out.size)).trans (hb6.mono (by omega))
            have hexf : Ex g4 w1 w6 := (HEX.out.then_ HBA.out).then_base (HBASE.out ▸ hb6)
            have hn2 := HN2.out _ hb6
            have hn4 := HN4.out _ hb6
            go_roundw
            case rel => exact ⟨k + 1, l ++ [rr], _, S', by omega, by simp [HLK.out], by go_num, hbf.setCell (p := ⟨g4, 0, none⟩) hwg _, hexf.trans (Ex.set g4 0 w6 _), by simp; omega, hn4.store _, hn2.other h24, hown6.other RRdn.ok (fun j hj => (HS2.out j hj).1) hg4b _, fun j hj => ⟨(HS2.out j hj).1, by have := (HS2.out j hj).2; simp; omega⟩, (fun x hx => by
              rcases List.mem_append.1 hx with hx | hx
              · exact HSM.out x hx
              · simp at hx; subst hx; exact HSMR.out), HY⟩
            case measure => simp [intOf]; omega
      · have HP := hide (show parseNs ps = some l by rw [H.out, List.drop_of_length_le (by omega)]; simp [parseNs])
        have hsl := (Sl.ok RRdn.ok).mono (HOWN.out.sl RRdn.ok) (fun _ _ => rfl) (S' := Lt wr.heap.size) (fun j hj => by rcases hj with hj | hj; exact (HS.out j hj).2; exact hj.2)
        have hslB := (Sl.ok RRdn.ok).mono (HOWN.out.sl RRdn.ok) (fun _ _ => rfl) (S' := fun j => base ≤ j ∧ j < wr.heap.size) (fun j hj => by rcases hj with hj | hj; exact HS.out j hj; exact hj)
        obtain ⟨A, cc, hv⟩ := hsl.shape
        subst hv
        have HSLv := hide hsl
        have HSLB := hide hslB
        clear hslB
        clear hsl
        go_wp2_with fail
        refine (Check_any l A cc _ (HMX.out.below HB.out) HSLv.out HSM.out).mono ?_
        rintro e w5 ⟨rfl, hb5⟩
        have HB5 := hide (HB.out.trans (hb5.mono HB.out.size))
        have hn2 := HNB2.out.below hb5
        have hn4 := HNB4.out.below hb5
        have HSL5 := hide ((Sl.ok RRdn.ok).mono HSLB.out (fun j hj => hb5.block j hj.2) (fun j hj => hj))
        have hs5 := hb5.size
        obtain ⟨c5, f5⟩ := hn2.facts
        obtain ⟨c6, f6⟩ := hn4.facts
        have HN2 := hide hn2
        obtain ⟨q, hq⟩ : ∃ q, chkN l = q := ⟨_, rfl⟩
        rw [hq]
        have HQ := hide hq
        clear hb5 hn2 hn4 c0 f0 c2 f2 hq
        by_cases hq0 : q = 0
        · have HN := hide (show r = (0, l) by rw [HR.out, HP.out, parseF, HQ.out, if_pos hq0])
          have HK := hide (show r.1 = 0 by rw [HN.out])
          have ht : (q != 0) = false := by simp [hq0]
          clear hq0
          go_wp2_with fail
          have hNB := (HN2.out.store (.slice A l.length cc)).facts.1
          obtain ⟨W3, hW3⟩ : ∃ W3, W3 = w5.setCell ⟨w.heap.size, 0, none⟩ (.slice A l.length cc) := ⟨_, rfl⟩
          have hbz : Below w.heap.size w W3 := by rw [hW3]; exact HB5.out.setCell (p := ⟨w.heap.size, 0, none⟩) (Nat.le_refl _) _
          have HSL := hide (show Sl RRdn 1 W3 (Lt W3.heap.size) r.2 [(.slice A l.length cc)] by rw [hW3]; (rw [HN.out]; exact (Sl.ok RRdn.ok).mono HSL5.out (fun j hj => Below.heap_setCell w5 _ _ j (by have := hj.1; show j ≠ w.heap.size; omega)) (fun j hj => by show j < _; have := hj.2; simp; omega)))
          rw [← hW3] at hNB ⊢
          clear hW3
          exact bodyPost_ret (v := .tuple #[.agg #[(.slice A l.length cc)], .int .i64 0]) (by simp [results, Tryz.results25, go_sem, hNB]) rfl ⟨(.slice A l.length cc), by rw [HK.out], HSL.out, hbz, (by rw [HN.out]; exact HSM.out)⟩
        · have HN := hide (show r = (q, []) by rw [HR.out, HP.out, parseF, HQ.out, if_neg hq0])
          have HK := hide (show r.1 = q by rw [HN.out])
          have ht : (q != 0) = true := by simp [hq0]
          clear hq0
          go_wp2_with fail
          have hNB := (HN2.out.store (.slice none 0 0)).facts.1
          obtain ⟨W3, hW3⟩ : ∃ W3, W3 = w5.setCell ⟨w.heap.size, 0, none⟩ (.slice none 0 0) := ⟨_, rfl⟩
          have hbz : Below w.heap.size w W3 := by rw [hW3]; exact HB5.out.setCell (p := ⟨w.heap.size, 0, none⟩) (Nat.le_refl _) _
          have HSL := hide (show Sl RRdn 1 W3 (Lt W3.heap.size) r.2 [(.slice none 0 0)] by rw [hW3]; (rw [HN.out]; exact Sl.nil _ _ _ _))
          rw [← hW3] at hNB ⊢
          clear hW3
          exact bodyPost_ret (v := .tuple #[.agg #[(.slice none 0 0)], .int .i64 q]) (by simp [results, Tryz.results25, go_sem, hNB]) rfl ⟨(.slice none 0 0), by rw [HK.out], HSL.out, hbz, (by rw [HN.out]; intro x hx; cases hx)⟩
end Go.Proofs.YtbafpgdmnkkclaaGreatDoor
