/- The function Reduce of the reference. -/
import Derived.Test.YtodapmkdmkhhfaaGreatDoorRefR
import Derived.Test.YtodapmkdmkhhfaaGreatDoorGnT
namespace Go.Proofs.YtodapmkdmkhhfaaGreatDoor
open Go.RowKit

theorem refFold_good {st : List Sub} (hst : ∀ s ∈ st, s.1.length ≤ 4 ∧ GoodBs s.1) : ∀ (ks : List Int) (acc : List Gen), GoodBs acc → GoodBs (ks.foldl (refStep st) acc) ∧ (ks.foldl (refStep st) acc).length ≤ acc.length + 4 * st.length * ks.length
  | [], acc, ha => ⟨ha, by simp⟩
  | k :: ks, acc, ha => by
    have h0 : GoodBs (refStep st acc k) ∧ (refStep st acc k).length ≤ acc.length + 4 * st.length := by
      unfold refStep
      split
      · exact perAll_good (st := st) (k := k) st acc ha hst
      · exact ⟨ha, by omega⟩
    obtain ⟨h1, h2⟩ := h0
    obtain ⟨h3, h4⟩ := refFold_good hst ks _ h1
    refine ⟨h3, ?_⟩
    simp only [List.foldl_cons, List.length_cons]
    have : 4 * st.length * (ks.length + 1) = 4 * st.length * ks.length + 4 * st.length := by rw [Nat.mul_add, Nat.mul_one]
    omega
theorem four_take {u : Nat} {kk : Int} (hkk : ([1, 2, 4, 7] : List Int)[u]? = some kk) : ([1, 2, 4, 7] : List Int).take (u + 1) = ([1, 2, 4, 7] : List Int).take u ++ [kk] := by
  obtain ⟨hu, rfl⟩ := List.getElem?_eq_some_iff.1 hkk
  exact List.take_succ_eq_append_getElem hu
theorem Sl.up {α : Type} {R : Rep α} {size : Nat} {S0 : Nat → Prop} {w : World} {l : List α} {A : Option Addr} {n c : Nat} (h : Sl R size w S0 l [.slice A n c]) (hR : RepOk R size) (hs : ∀ k, S0 k → k < w.heap.size) : Sl R size w (Lt w.heap.size) l [.slice A n c] :=
  (Sl.ok hR).mono h (fun _ _ => rfl) (fun k hk => hs k hk)
def RRedPost (st : List Sub) (S0 : Nat → Prop) (w : World) (e : Ending) (w' : World) : Prop :=
  ∃ (L P X : Option Addr) (cl cp cx : Nat), e = .returned (.agg #[.slice L (redLim st).length cl, .slice P (redPer st (redLim st)).length cp, .slice X (redEx st).length cx]) ∧ Sl RInt 1 w' (fun k => S0 k ∨ (w.heap.size ≤ k ∧ k < w'.heap.size)) (redLim st) [.slice L (redLim st).length cl] ∧
    Sl RGen 3 w' (fun k => S0 k ∨ (w.heap.size ≤ k ∧ k < w'.heap.size)) (redPer st (redLim st)) [.slice P (redPer st (redLim st)).length cp] ∧ Sl RGen 3 w' (fun k => S0 k ∨ (w.heap.size ≤ k ∧ k < w'.heap.size)) (redEx st) [.slice X (redEx st).length cx] ∧ Below w.heap.size w w'

set_option maxRecDepth 100000 in
set_option maxHeartbeats 16000000 in
theorem rReduce_any (st : List Sub) (A : Option Addr) (c : Nat) (S0 : Nat → Prop) (w : World) (hs0 : ∀ k, S0 k → k < w.heap.size) (hmx : Mx w) (hst : GoodSt st) (h0 : Sl RSub 2 w S0 st [.slice A st.length c]) :
    Calls Tryz.prog 26 #[.agg #[.slice A st.length c]] w (RRedPost st S0 w) := by
  obtain ⟨-, hlc, hlm⟩ := h0.len_
  unfold maxLen at hlm
  have hs4 : st.length ≤ 4 := hst.1
  have HMX := hide hmx
  have K := hide h0
  have HST := hide hst
  obtain ⟨wa, hwa⟩ : ∃ wa, wa = (((w.alloc (.cells #[.slice A st.length c] 24)).alloc (.cells #[.slice none 0 0, .slice none 0 0, .slice none 0 0] 53)).alloc (.cells #[.slice none 0 0, .slice none 0 0, .slice none 0 0] 53)).alloc (.cells #[.int .i64 1, .int .i64 2, .int .i64 4, .int .i64 7] 3) := ⟨_, rfl⟩
  have hz1 : (w.alloc (.cells #[.slice A st.length c] 24)).heap.size = w.heap.size + 1 := by simp
  have hz2 : ((w.alloc (.cells #[.slice A st.length c] 24)).alloc (.cells #[.slice none 0 0, .slice none 0 0, .slice none 0 0] 53)).heap.size = w.heap.size + 2 := by simp
  have hz3 : (((w.alloc (.cells #[.slice A st.length c] 24)).alloc (.cells #[.slice none 0 0, .slice none 0 0, .slice none 0 0] 53)).alloc (.cells #[.slice none 0 0, .slice none 0 0, .slice none 0 0] 53)).heap.size = w.heap.size + 3 := by simp
  have ht1 : TB w.heap.size (.slice A st.length c) wa := by
    unfold TB
    rw [hwa, Below.heap_alloc _ _ _ (by simp <;> omega), Below.heap_alloc _ _ _ (by simp <;> omega), Below.heap_alloc _ _ _ (by simp <;> omega)]
    exact heap_alloc_new w _
  have hr2 : RB (w.heap.size + 1) (.slice none 0 0) (.slice none 0 0) (.slice none 0 0) wa := by
    unfold RB
    rw [hwa, Below.heap_alloc _ _ _ (by simp <;> omega), Below.heap_alloc _ _ _ (by simp <;> omega), ← hz1]
    exact heap_alloc_new _ _
  have hr3 : RB (w.heap.size + 2) (.slice none 0 0) (.slice none 0 0) (.slice none 0 0) wa := by
    unfold RB
    rw [hwa, Below.heap_alloc _ _ _ (by simp <;> omega), ← hz2]
    exact heap_alloc_new _ _
  have hk4 : KB (w.heap.size + 3) wa := by
    unfold KB
    rw [hwa, ← hz3]
    exact heap_alloc_new _ _
  have hba : Below w.heap.size w wa := by rw [hwa]; exact ((((Below.refl _ _).alloc (Nat.le_refl _) _).alloc (by simp) _).alloc (by simp; omega) _).alloc (by simp; omega) _
  have hza : wa.heap.size = w.heap.size + 4 := by rw [hwa]; simp
  obtain ⟨g1, hg1⟩ : ∃ g, g = w.heap.size := ⟨_, rfl⟩
  obtain ⟨g2, hg2⟩ : ∃ g, g = w.heap.size + 1 := ⟨_, rfl⟩
  obtain ⟨g3, hg3⟩ : ∃ g, g = w.heap.size + 2 := ⟨_, rfl⟩
  obtain ⟨g4, hg4⟩ : ∃ g, g = w.heap.size + 3 := ⟨_, rfl⟩
  obtain ⟨base, hbs⟩ : ∃ b, b = w.heap.size + 4 := ⟨_, rfl⟩
  rw [← hg1] at ht1
  rw [← hg2] at hr2
  rw [← hg3] at hr3
  rw [← hg4] at hk4
  have hwg3 : w.heap.size ≤ g3 := by omega
  have h13 : g1 ≠ g3 := by omega
  have h23 : g2 ≠ g3 := by omega
  have h43 : g4 ≠ g3 := by omega
  have hwg2 : w.heap.size ≤ g2 := by omega
  have h1b : g1 < base := by omega
  have h2b : g2 < base := by omega
  have h3b : g3 < base := by omega
  have h4b : g4 < base := by omega
  have hwb : w.heap.size ≤ base := by omega
  have HQI := hide (show QI w S0 base g1 g2 g3 g4 (.slice A st.length c) none none none 0 0 0 [] [] [] wa from
    ⟨hba, by omega, ht1, hr2, hr3, hk4, Own.nil _ _ _ _ _ _, Own.nil _ _ _ _ _ _, Own.nil _ _ _ _ _ _, fun b h => by simp [Value.ownBlock] at h, fun b h => by simp [Value.ownBlock] at h, hs0⟩)
  have HG1 := hide hg1
  have HG2 := hide hg2
  have HG3 := hide hg3
  have HG4 := hide hg4
  have HBS := hide hbs
  have HWA := hide hwa
  clear hmx h0 hst hwa hz1 hz2 hz3 ht1 hr2 hr3 hk4 hba hza hg1 hg2 hg3 hg4 hbs
  go_enter Tryz.func26, Tryz.ntmps26
  go_wp2_with fail
  rw [← HWA.out, ← HG4.out, ← HG3.out, ← HG2.out, ← HG1.out]
  go_loopw [23] (fun i wr => ∃ (u : Nat) (L P : Option Addr) (cl cp : Nat), u ≤ 4 ∧ i = .int .i64 u ∧ QI w S0 base g1 g2 g3 g4 (.slice A st.length c) L P none cl cp 0 ((([1, 2, 4, 7] : List Int).take u).filter (limAny st)) ((([1, 2, 4, 7] : List Int).take u).foldl (refStep st) []) [] wr) (fun i _ => 4 - (intOf i).toNat)
  case atStart => exact ⟨0, none, none, 0, 0, Nat.zero_le _, rfl, HQI.out⟩
  case round =>
    obtain ⟨u, L, P, cl, cp, hu, rfl, hqi⟩ := hrel
    obtain ⟨lim, hlim⟩ : ∃ l, (([1, 2, 4, 7] : List Int).take u).filter (limAny st) = l := ⟨_, rfl⟩
    obtain ⟨per, hper⟩ : ∃ l, (([1, 2, 4, 7] : List Int).take u).foldl (refStep st) [] = l := ⟨_, rfl⟩
    rw [hlim, hper] at hqi
    have hlen : lim.length ≤ 4 := by
      have h1 := List.length_filter_le (limAny st) (([1, 2, 4, 7] : List Int).take u)
      rw [hlim, List.length_take] at h1
      omega
    have hperg : GoodBs per ∧ per.length ≤ 300 := by
      have h1 := refFold_good (st := st) (GoodSub.bs HST.out) (([1, 2, 4, 7] : List Int).take u) [] (fun b hb => by cases hb)
      rw [hper, List.length_take] at h1
      refine ⟨h1.1, ?_⟩
      have h2 := h1.2
      have h3 : 4 * st.length * min u ([1, 2, 4, 7] : List Int).length ≤ 16 * 4 := Nat.mul_le_mul (by omega) (by simp; omega)
      simp only [List.length_nil] at h2
      omega
    have HLIM := hide hlim
    have HPER := hide hper
    have HP5 := hide hperg
    clear hlim hper hperg
    by_cases hu4 : u < 4
    · obtain ⟨kk, hkk⟩ : ∃ kk, ([1, 2, 4, 7] : List Int)[u]? = some kk := ⟨_, List.getElem?_eq_getElem (by simpa using hu4)⟩
      have c4 := hqi.2.2.2.2.2.1.at_ hu4 hkk
      have HKK := hide (four_take hkk)
      obtain ⟨y1, -⟩ := hqi.2.2.1.facts
      have hu4' : (u : Int) < 4 := by omega
      obtain ⟨wo, rfl⟩ : ∃ wo : World, wo = wr := ⟨_, rfl⟩
      have HQI := hide hqi
      clear hkk hqi
      go_wp2_with fail
      clear c4 y1
      go_loopw [6, 30] (fun bb i wi => ∃ (a : Nat) (f : Bool), a ≤ st.length ∧ i = .int .i64 a ∧ bb = .bool f ∧ Below wo.heap.size wo wi ∧ Hid ((f || (st.drop a).any (fun s => limitsG s.1 kk)) = limAny st kk)) (fun _ i _ => st.length - (intOf i).toNat)
      case atStart => exact ⟨0, false, Nat.zero_le _, rfl, rfl, Below.refl _ _, rfl⟩
      case round =>
        obtain ⟨a, f, ha, rfl, rfl, hb, H⟩ := hrel
        have hbw := HQI.out.1.trans (hb.mono HQI.out.1.size)
        have HB := hide hb
        by_cases hlt : a < st.length
        · obtain ⟨b2, o2, P1, c1, P2, c2, hA, hbS, d0, d1, hslp, -⟩ := K.out.subAt hlt
          subst hA
          have hbS' : b2 < w.heap.size := hs0 _ hbS
          have hlt' : (a : Int) < (st.length : Int) := by omega
          obtain ⟨p, hp⟩ : ∃ p, st[a].1 = p := ⟨_, rfl⟩
          obtain ⟨x2, hx2⟩ : ∃ n, st[a].2.length = n := ⟨_, rfl⟩
          obtain ⟨q, hq⟩ : ∃ q, limitsG p kk = q := ⟨_, rfl⟩
          have HX := hide (show (f || (q || (st.drop (a + 1)).any (fun s => limitsG s.1 kk))) = limAny st kk by
            rw [← H.out, List.drop_eq_getElem_cons hlt, List.any_cons, hp, hq])
          rw [hp] at d0 hslp
          rw [hx2] at d1
          have f0 := (hbw.cell (p := ⟨b2, o2 + a * 2, none⟩) hbS').trans d0
          have f1 := (hbw.cell (p := ⟨b2, o2 + a * 2 + 1, none⟩) hbS').trans d1
          have hbc : Below wr.heap.size wr (wr.alloc (.cells #[.slice P1 p.length c1, .slice P2 x2 c2] 27)) := (Below.refl _ _).alloc (Nat.le_refl _) _
          have HBC := hide (hb.trans (hbc.mono hb.size))
          have RL := hide (rlimits_any p P1 c1 kk q hq _ ((Sl.ok RGen.ok).below (hslp.up RGen.ok hs0) (hbw.trans (hbc.mono hbw.size))))
          clear hb hbw d0 d1 hslp hp hx2 hq hbc H
          cases f
          · go_wp2_with fail
            refine RL.out.mono ?_
            rintro e w5 ⟨rfl, hb5⟩
            have HB5 := hide (HBC.out.trans (hb5.mono HBC.out.size))
            have HY := hide (show (q || (st.drop (a + 1)).any (fun s => limitsG s.1 kk)) = limAny st kk from HX.out)
            clear hb5 f0 f1
            go_wp2_with fail
            go_roundw
            case rel => exact ⟨a + 1, q, by omega, by go_num, rfl, HB5.out, HY⟩
            case measure => simp [intOf]; omega
          · have HY := hide (show (true || (st.drop (a + 1)).any (fun s => limitsG s.1 kk)) = limAny st kk by rw [← HX.out, Bool.true_or, Bool.true_or])
            go_wp2_with fail
            go_roundw
            case rel => exact ⟨a + 1, true, by omega, by go_num, rfl, HBC.out, HY⟩
            case measure => simp [intOf]; omega
        · have HF := hide (show limAny st kk = f by rw [← H.out, List.drop_of_length_le (by omega)]; simp)
          have HQW := hide (HQI.out.below hb)
          clear hb hbw H HB
          cases f
          · have HL2 := hide (show (([1, 2, 4, 7] : List Int).take (u + 1)).filter (limAny st) = lim by rw [HKK.out, List.filter_append, HLIM.out, List.filter_cons, HF.out]; simp)
            have HP2 := hide (show (([1, 2, 4, 7] : List Int).take (u + 1)).foldl (refStep st) [] = per by rw [HKK.out, List.foldl_append, HPER.out]; simp [refStep, HF.out])
            go_wp2_with fail
            go_roundw
            case rel => exact ⟨u + 1, L, P, cl, cp, by omega, by go_num, by rw [HL2.out, HP2.out]; exact HQW.out⟩
            case measure => simp [intOf]; omega
          · have HL2 := hide (show (([1, 2, 4, 7] : List Int).take (u + 1)).filter (limAny st) = lim ++ [kk] by rw [HKK.out, List.filter_append, HLIM.out, List.filter_cons, HF.out]; simp)
            have HP2 := hide (show (([1, 2, 4, 7] : List Int).take (u + 1)).foldl (refStep st) [] = st.foldl (fun l s => s.1.foldl (perStep st kk) l) per by rw [HKK.out, List.foldl_append, HPER.out]; simp [refStep, HF.out])
            have hbk : Below wr.heap.size wr (wr.alloc (.cells #[.int .i64 kk] 3)) := (Below.refl _ _).alloc (Nat.le_refl _) _
            have HQA := hide (HQW.out.below hbk)
            obtain ⟨x0, -⟩ := HQW.out.2.2.2.2.1.facts
            have hnews := news_pu (f := intC) (fun _ => rfl) wr S0 #[.int .i64 kk] 3 [kk] rfl
            have hlts : ∀ b, S0 b → b < (wr.alloc (.cells #[.int .i64 kk] 3)).heap.size := fun b hb => Nat.lt_of_lt_of_le (hs0 b hb) HQA.out.1.size
            have hbs := HQA.out.2.1
            clear hbk
            go_upto_region 13 with (first
              | (at_builtin; refine wpList_app RInt.ok _ rfl (.tmp 45) (.tmp 47) 33 rfl base 3 (.int .i64 0) 8 Tryz.underlying33 info_int rfl (by decide) S0 _ lim rfl HQA.out.2.2.2.2.2.2.1 ⟨_, 0, none⟩ 1 1 [kk] rfl rfl hnews hlts (by simp; omega) (by simp [maxLen]; omega) hbs ?_; intro v6 w6 hown6 hgr6 hb6 hat6; obtain ⟨L6, c6, hv6⟩ := (hown6.sl RInt.ok).shape; obtain ⟨n6, hn6⟩ : ∃ n6, (lim ++ [kk]).length = n6 := ⟨_, rfl⟩; rw [hn6] at hv6; subst hv6; have HN6 := hide hn6; clear hn6; have hr6 := HQA.out.2.2.2.2.1.base hb6 h3b; have q1 := hr6.facts.1; have q2 := hr6.facts.2.2.2.1)
              | fail)
            have hqf := QI.lim_ (L' := L6) (cl' := c6) (lim' := lim ++ [kk]) HQA.out hwg3 hwb h1b h2b h4b h13 h23 h43 h3b hgr6 (by rw [HN6.out]; exact hown6) (by
              rw [HN6.out]
              rcases hat6 with h | h
              · exact .inl h
              · exact .inr ⟨_, h, Nat.le_refl _⟩)
            rw [HN6.out] at hqf
            obtain ⟨wn, hwn⟩ : ∃ wn, wn = w6.setCell ⟨g3, 0, none⟩ (.slice L6 n6 c6) := ⟨_, rfl⟩
            rw [← hwn] at hqf
            try rw [← hwn]
            have HQF := hide hqf
            obtain ⟨y1, -⟩ := hqf.2.2.1.facts
            clear hqf hwn hown6 hgr6 hb6 hat6 hr6 q1 q2 x0 hnews hlts hbs HQA HQW
            go_wp2_with fail
            clear y1
            go_loopw [53] (fun i wi => ∃ (a : Nat) (P : Option Addr) (cp : Nat), a ≤ st.length ∧ i = .int .i64 a ∧ QI w S0 base g1 g2 g3 g4 (.slice A st.length c) L6 P none c6 cp 0 (lim ++ [kk]) ((st.take a).foldl (fun l s => s.1.foldl (perStep st kk) l) per) [] wi) (fun i _ => st.length - (intOf i).toNat)
            case atStart => exact ⟨0, P, cp, Nat.zero_le _, rfl, HQF.out⟩
            case round =>
              obtain ⟨a, P, cp, ha, rfl, hqi⟩ := hrel
              obtain ⟨per6, hper6⟩ : ∃ l, (st.take a).foldl (fun l s => s.1.foldl (perStep st kk) l) per = l := ⟨_, rfl⟩
              rw [hper6] at hqi
              by_cases hlt : a < st.length
              · obtain ⟨b2, o2, P1, c1, P2, c2, hA, hbS, d0, d1, hslp, -⟩ := K.out.subAt hlt
                subst hA
                have hbS' : b2 < w.heap.size := hs0 _ hbS
                have hlt' : (a : Int) < (st.length : Int) := by omega
                have hgs := HST.out.2 st[a] (List.getElem_mem hlt)
                obtain ⟨p, hp⟩ : ∃ p, st[a].1 = p := ⟨_, rfl⟩
                have hgp : GoodBs p := by rw [← hp]; exact hgs.2.2.1
                have hp4 : p.length ≤ 4 := by rw [← hp]; exact hgs.1
                have HA := hide (show (st.take (a + 1)).foldl (fun l s => s.1.foldl (perStep st kk) l) per = p.foldl (perStep st kk) per6 by
                  rw [List.take_succ_eq_append_getElem hlt, List.foldl_append, hper6, ← hp]; rfl)
                have hper6g : GoodBs per6 ∧ per6.length ≤ 400 := by
                  have h1 := perAll_good (st := st) (k := kk) (st.take a) per HP5.out.1 (fun s hs => GoodSub.bs HST.out s (List.mem_of_mem_take hs))
                  rw [hper6, List.length_take] at h1
                  have := HP5.out.2
                  exact ⟨h1.1, by omega⟩
                have HP6 := hide hper6g
                have HGP := hide hgp
                obtain ⟨x2, hx2⟩ : ∃ n, st[a].2.length = n := ⟨_, rfl⟩
                rw [hp] at d0 hslp
                rw [hx2] at d1
                have f0 := (hqi.1.cell (p := ⟨b2, o2 + a * 2, none⟩) hbS').trans d0
                have f1 := (hqi.1.cell (p := ⟨b2, o2 + a * 2 + 1, none⟩) hbS').trans d1
                have KP := hide hslp
                have hbc : Below wr.heap.size wr (wr.alloc (.cells #[.slice P1 p.length c1, .slice P2 x2 c2] 27)) := (Below.refl _ _).alloc (Nat.le_refl _) _
                have HPW := hide (hqi.below hbc)
                clear hqi hp hgs hgp hper6 hper6g hx2 d0 d1 hslp hbc
                go_wp2_with fail
                clear f0 f1
                go_loopw [60] (fun i wi => ∃ (j : Nat) (P : Option Addr) (cp : Nat), j ≤ p.length ∧ i = .int .i64 j ∧ QI w S0 base g1 g2 g3 g4 (.slice (some ⟨b2, o2, none⟩) st.length c) L6 P none c6 cp 0 (lim ++ [kk]) ((p.take j).foldl (perStep st kk) per6) [] wi) (fun i _ => p.length - (intOf i).toNat)
                case atStart => exact ⟨0, P, cp, Nat.zero_le _, rfl, HPW.out⟩
                case round =>
                  obtain ⟨j, P, cp, hj, rfl, hqi⟩ := hrel
                  obtain ⟨per7, hper7⟩ : ∃ l, (p.take j).foldl (perStep st kk) per6 = l := ⟨_, rfl⟩
                  rw [hper7] at hqi
                  by_cases hjl : j < p.length
                  · obtain ⟨b6, o6, t6, A6, c6', hP, hbS6, ht6, d0, d1, d2, hsl6⟩ := KP.out.genAt hjl
                    subst hP
                    have hbS6' : b6 < w.heap.size := hs0 _ hbS6
                    have hjl' : (j : Int) < (p.length : Int) := by omega
                    have hgb := HGP.out p[j] (List.getElem_mem hjl)
                    have hperg : GoodBs per7 ∧ per7.length ≤ 500 := by
                      have h1 := perFold_good (st := st) (k := kk) (p.take j) per6 HP6.out.1 (fun b hb => HGP.out b (List.mem_of_mem_take hb))
                      rw [hper7, List.length_take] at h1
                      have := HP6.out.2
                      exact ⟨h1.1, by omega⟩
                    obtain ⟨hpg, hpl⟩ := hperg
                    obtain ⟨kb, hkb⟩ : ∃ kb, p[j].1 = kb := ⟨_, rfl⟩
                    obtain ⟨nb, hnb⟩ : ∃ nb, p[j].2.2 = nb := ⟨_, rfl⟩
                    have hbe : p[j] = (kb, t6.data.toList, nb) := by rw [← hkb, ← hnb, ht6]
                    have hsg : SmallG (kb, t6.data.toList, nb) := by rw [← hbe]; exact hgb.small
                    have hts := size_of_list ht6 hgb.small.1
                    have hsn : SmallN nb := by rw [← hnb]; exact hgb.small.2
                    have HJ := hide (show (p.take (j + 1)).foldl (perStep st kk) per6 = perStep st kk per7 (kb, t6.data.toList, nb) by
                      rw [List.take_succ_eq_append_getElem hjl, List.foldl_append, hper7, hbe]; rfl)
                    rw [hkb] at d0
                    rw [hnb] at d2 hsl6
                    have f0 := (hqi.1.cell (p := ⟨b6, o6 + j * 3, none⟩) hbS6').trans d0
                    have f1 := (hqi.1.cell (p := ⟨b6, o6 + j * 3 + 1, none⟩) hbS6').trans d1
                    have f2 := (hqi.1.cell (p := ⟨b6, o6 + j * 3 + 2, none⟩) hbS6').trans d2
                    have hbc : Below wr.heap.size wr (wr.alloc (.cells #[.int .i64 kb, .string t6, .slice A6 nb.length c6'] 32)) := (Below.refl _ _).alloc (Nat.le_refl _) _
                    have HPZ := hide (hqi.below hbc)
                    obtain ⟨b7, hb7⟩ : ∃ b, b = wr.heap.size := ⟨_, rfl⟩
                    have HGB := hide (show GB b7 kb t6 (.slice A6 nb.length c6') (wr.alloc (.cells #[.int .i64 kb, .string t6, .slice A6 nb.length c6'] 32)) by rw [hb7]; exact heap_alloc_new wr _)
                    have HB7 := hide hb7
                    obtain ⟨wz, hwz⟩ : ∃ wz, wz = wr.alloc (.cells #[.int .i64 kb, .string t6, .slice A6 nb.length c6'] 32) := ⟨_, rfl⟩
                    rw [← hwz] at HPZ HGB
                    have HWZ := hide hwz
                    have HPG := hide hpg
                    have HSN := hide hsn
                    have HSG := hide hsg
                    have HSL := hide hsl6
                    obtain ⟨y1, -⟩ := HPZ.out.2.2.1.facts
                    obtain ⟨k0, -, -, -, -, -⟩ := HGB.out.facts
                    clear hqi d0 d1 d2 hsl6 hkb hnb hbe hbc hb7 hwz ht6 hper7 hgb hpg hsg hsn
                    go_upto_region 19 with (fail)
                    rw [← HWZ.out, ← HB7.out]
                    clear f0 f1 f2
                    obtain ⟨e0, he0⟩ : ∃ e0, (kb == kk) = e0 := ⟨_, rfl⟩
                    obtain ⟨ev, hev⟩ : ∃ ev, (kb == kk && everyG st kk (kb, t6.data.toList, nb)) = ev := ⟨_, rfl⟩
                    have HS0 := hide (show (e0 && (st.drop 0).all (fun o => !(limitsG o.1 kk) || insideG (kb, t6.data.toList, nb) o.1)) = ev by rw [← hev, he0]; rfl)
                    have HPS := hide (show perStep st kk per7 (kb, t6.data.toList, nb) = if ev = true then addG per7 (kb, t6.data.toList, nb) else per7 by
                      rw [← hev, show (kb == kk && everyG st kk (kb, t6.data.toList, nb)) = (kb == kk && allowsG st (kb, t6.data.toList, nb)) from every_allows st kk (kb, t6.data.toList, nb)]; rfl)
                    clear hev
                    go_wp2_with fail
                    clear he0 y1 k0
                    go_loopw [13, 71] (fun bb i wi => ∃ (o : Nat) (f : Bool), o ≤ st.length ∧ i = .int .i64 o ∧ bb = .bool f ∧ Below wz.heap.size wz wi ∧ Hid ((f && (st.drop o).all (fun o => !(limitsG o.1 kk) || insideG (kb, t6.data.toList, nb) o.1)) = ev)) (fun _ i _ => st.length - (intOf i).toNat)
                    case atStart => exact ⟨0, e0, Nat.zero_le _, rfl, by first | rfl | assumption, Below.refl _ _, HS0⟩
                    case round =>
                      obtain ⟨o, f, ho, rfl, rfl, hb, H⟩ := hrel
                      have hbw := HPZ.out.1.trans (hb.mono HPZ.out.1.size)
                      have HB := hide hb
                      by_cases hlo : o < st.length
                      · obtain ⟨b3, o3, Q1, e1, Q2, e2, hA3, hbS3, d0, d1, hslq, -⟩ := K.out.subAt hlo
                        simp only [Option.some.injEq, Addr.mk.injEq, and_true] at hA3
                        obtain ⟨rfl, rfl⟩ := hA3
                        have hlo' : (o : Int) < (st.length : Int) := by omega
                        obtain ⟨p3, hp3⟩ : ∃ p, st[o].1 = p := ⟨_, rfl⟩
                        obtain ⟨x3, hx3⟩ : ∃ n, st[o].2.length = n := ⟨_, rfl⟩
                        have hs3 : SmallGs p3 := by rw [← hp3]; exact (HST.out.small _ (List.getElem_mem hlo)).1
                        obtain ⟨q, hq⟩ : ∃ q, limitsG p3 kk = q := ⟨_, rfl⟩
                        obtain ⟨q2, hq2⟩ : ∃ q, insideG (kb, t6.data.toList, nb) p3 = q := ⟨_, rfl⟩
                        have HX := hide (show (f && ((!q || q2) && (st.drop (o + 1)).all (fun o => !(limitsG o.1 kk) || insideG (kb, t6.data.toList, nb) o.1))) = ev by
                          rw [← H.out, List.drop_eq_getElem_cons hlo, List.all_cons, hp3, hq, hq2])
                        rw [hp3] at d0 hslq
                        rw [hx3] at d1
                        have f0 := (hbw.cell (p := ⟨b2, o2 + o * 2, none⟩) hbS').trans d0
                        have f1 := (hbw.cell (p := ⟨b2, o2 + o * 2 + 1, none⟩) hbS').trans d1
                        have hbc : Below wr.heap.size wr (wr.alloc (.cells #[.slice Q1 p3.length e1, .slice Q2 x3 e2] 27)) := (Below.refl _ _).alloc (Nat.le_refl _) _
                        have HBC := hide (hb.trans (hbc.mono hb.size))
                        obtain ⟨wy, hwy⟩ : ∃ wy, wy = wr.alloc (.cells #[.slice Q1 p3.length e1, .slice Q2 x3 e2] 27) := ⟨_, rfl⟩
                        have hsb : SB wr.heap.size (.slice Q1 p3.length e1) (.slice Q2 x3 e2) wy := by rw [hwy]; exact heap_alloc_new wr _
                        obtain ⟨b8, hb8⟩ : ∃ b, b = wr.heap.size := ⟨_, rfl⟩
                        rw [← hb8] at hsb
                        rw [← hwy] at HBC
                        have HBW := hide (HPZ.out.1.trans (HBC.out.mono HPZ.out.1.size))
                        have RL := hide (rlimits_any p3 Q1 e1 kk q hq wy ((Sl.ok RGen.ok).below (hslq.up RGen.ok hs0) HBW.out))
                        have RN := hide (fun W (h : Below wy.heap.size wy W) => rIn_any (kb, t6.data.toList, nb) t6 A6 c6' p3 Q1 e1 rfl HSG.out hs3 q2 hq2 W (HMX.out.below (HBW.out.trans (h.mono HBW.out.size))) ((Sl.ok RRdn.ok).below (HSL.out.up RRdn.ok hs0) (HBW.out.trans (h.mono HBW.out.size))) ((Sl.ok RGen.ok).below (hslq.up RGen.ok hs0) (HBW.out.trans (h.mono HBW.out.size))))
                        have HG8 := hide (HGB.out.below HBC.out)
                        have HSB := hide hsb
                        have HWY := hide hwy
                        have HB8 := hide hb8
                        obtain ⟨z0, -⟩ := hsb.facts
                        clear hb hbw d0 d1 hslq hp3 hx3 hs3 hq hq2 hbc H hwy hsb hb8
                        go_upto_region 23 with (fail)
                        rw [← HWY.out, ← HB8.out]
                        clear f0 f1
                        go_wp2_with fail
                        refine RL.out.mono ?_
                        rintro e w5 ⟨rfl, hb5⟩
                        cases q
                        · have HY := hide (show (f && (st.drop (o + 1)).all (fun o => !(limitsG o.1 kk) || insideG (kb, t6.data.toList, nb) o.1)) = ev from HX.out)
                          have HB5 := hide (HBC.out.trans (hb5.mono HBC.out.size))
                          clear hb5 z0
                          go_wp2_with fail
                          go_roundw
                          case rel => exact ⟨o + 1, f, by omega, by go_num, rfl, HB5.out, HY⟩
                          case measure => simp [intOf]; omega
                        · have HR := hide (RN.out w5 hb5)
                          have z0 := cell_grows hb5 _ _ z0
                          obtain ⟨k0, k1, k2, -, -, -⟩ := (HG8.out.below hb5).facts
                          have HB5 := hide (HBC.out.trans (hb5.mono HBC.out.size))
                          clear hb5
                          go_wp2_with fail
                          refine HR.out.mono ?_
                          rintro e w6 ⟨rfl, hb6⟩
                          have HB6 := hide (HB5.out.trans (hb6.mono HB5.out.size))
                          clear hb6 z0 k0 k1 k2
                          cases q2
                          · have HY := hide (show (false && (st.drop (o + 1)).all (fun o => !(limitsG o.1 kk) || insideG (kb, t6.data.toList, nb) o.1)) = ev by rw [← HX.out]; simp)
                            go_wp2_with fail
                            go_roundw
                            case rel => exact ⟨o + 1, false, by omega, by go_num, rfl, HB6.out, HY⟩
                            case measure => simp [intOf]; omega
                          · have HY := hide (show (f && (st.drop (o + 1)).all (fun o => !(limitsG o.1 kk) || insideG (kb, t6.data.toList, nb) o.1)) = ev from HX.out)
                            go_wp2_with fail
                            go_roundw
                            case rel => exact ⟨o + 1, f, by omega, by go_num, rfl, HB6.out, HY⟩
                            case measure => simp [intOf]; omega
                      · have HF := hide (show ev = f by rw [← H.out, List.drop_of_length_le (by omega)]; simp)
                        have HPF := hide (HPZ.out.below hb)
                        have HGF := hide (HGB.out.below hb)
                        clear hb hbw H HB
                        cases f
                        · have HST2 := hide (show perStep st kk per7 (kb, t6.data.toList, nb) = per7 by rw [HPS.out, HF.out]; rfl)
                          go_wp2_with fail
                          go_roundw
                          case rel => exact ⟨j + 1, P, cp, by omega, by go_num, by rw [HJ.out, HST2.out]; exact HPF.out⟩
                          case measure => simp [intOf]; omega
                        · have HST2 := hide (show perStep st kk per7 (kb, t6.data.toList, nb) = addG per7 (kb, t6.data.toList, nb) by rw [HPS.out, HF.out]; rfl)
                          have AD := hide (radd_any per7 P cp base S0 kb t6 nb A6 c6' wr (by omega) HPF.out.2.1 (fun k hk => Nat.lt_of_lt_of_le (hs0 k hk) hwb) HPG.out.small hts HSN.out HPF.out.2.2.2.2.2.2.2.1 ((Sl.ok RRdn.ok).mono HSL.out (fun k hk => HPF.out.1.block k (hs0 k hk)) (fun _ hk => hk)))
                          obtain ⟨-, x1, -, -, xf1, -⟩ := HPF.out.2.2.2.2.1.facts
                          obtain ⟨k0, k1, k2, -, -, -⟩ := HGF.out.facts
                          go_wp2_with fail
                          refine AD.out.mono ?_
                          rintro e w6 ⟨P5, cp5, rfl, hown5, hgr5, hat5⟩
                          have hb5' : Below base wr w6 := ⟨hgr5.os, hgr5.tape, hgr5.output, hgr5.size, fun k hk => hgr5.block k (by have := HPF.out.2.1; omega) (fun e => by have := (HPF.out.2.2.2.2.2.2.2.1.lt k e.symm).1; omega)⟩
                          obtain ⟨-, q1, -, -, qf1, -⟩ := (HPF.out.2.2.2.2.1.base hb5' (by omega)).facts
                          have HRF := hide (QI.per_ HPF.out hwg3 hwb h1b h2b h4b h13 h23 h43 h3b hgr5 hown5 hat5)
                          clear hb5' hown5 hgr5 hat5 x1 xf1 k0 k1 k2
                          go_wp2_with fail
                          go_roundw
                          case rel => exact ⟨j + 1, P5, cp5, by omega, by go_num, by rw [HJ.out, HST2.out]; exact HRF.out⟩
                          case measure => simp [intOf]; omega
                  · have hjp : p.take j = p := List.take_of_length_le (by omega)
                    rw [hjp] at hper7
                    have HF := hide (show (st.take (a + 1)).foldl (fun l s => s.1.foldl (perStep st kk) l) per = per7 by rw [HA.out, hper7])
                    have HPF := hide hqi
                    clear hqi hjp hper7
                    go_wp2_with fail
                    go_roundw
                    case rel => exact ⟨a + 1, P, cp, by omega, by go_num, by rw [HF.out]; exact HPF.out⟩
                    case measure => simp [intOf]; omega
              · have hap : st.take a = st := List.take_of_length_le (by omega)
                rw [hap] at hper6
                have HF := hide (show (([1, 2, 4, 7] : List Int).take (u + 1)).foldl (refStep st) [] = per6 by rw [HP2.out]; exact hper6)
                have HPF := hide hqi
                clear hqi hap hper6
                go_wp2_with fail
                go_roundw
                case rel => exact ⟨u + 1, L6, P, c6, cp, by omega, by go_num, by rw [HF.out, HL2.out]; exact HPF.out⟩
                case measure => simp [intOf]; omega
    · have hu5 : u = 4 := by omega
      have hge : ¬ (u : Int) < 4 := by omega
      have HL := hide (show redLim st = lim by rw [redLim_eq, refLim, ← HLIM.out, hu5]; rfl)
      have HP := hide (show redPer st (redLim st) = per by rw [refPer_eq, ← HPER.out, hu5]; rfl)
      obtain ⟨y1, -⟩ := hqi.2.2.1.facts
      have HQI := hide hqi
      clear hqi HLIM HPER hu5 hu4 hu
      go_wp2_with fail
      clear y1
      go_loopw [99] (fun i wi => ∃ (a : Nat) (X : Option Addr) (cx : Nat), a ≤ st.length ∧ i = .int .i64 a ∧ QI w S0 base g1 g2 g3 g4 (.slice A st.length c) L P X cl cp cx lim per (redEx (st.take a)) wi) (fun i _ => st.length - (intOf i).toNat)
      case atStart => exact ⟨0, none, 0, Nat.zero_le _, rfl, HQI.out⟩
      case round =>
        obtain ⟨a, X, cx, ha, rfl, hqi⟩ := hrel
        obtain ⟨ex0, hex0⟩ : ∃ l, redEx (st.take a) = l := ⟨_, rfl⟩
        rw [hex0] at hqi
        by_cases hlt : a < st.length
        · obtain ⟨b2, o2, P1, c1, P2, c2, hA, hbS, d0, d1, -, hslx⟩ := K.out.subAt hlt
          subst hA
          have hbS' : b2 < w.heap.size := hs0 _ hbS
          have hlt' : (a : Int) < (st.length : Int) := by omega
          have hgs := HST.out.2 st[a] (List.getElem_mem hlt)
          obtain ⟨x, hx⟩ : ∃ x, st[a].2 = x := ⟨_, rfl⟩
          have hgx : GoodBs x := by rw [← hx]; exact hgs.2.2.2
          have hx4 : x.length ≤ 4 := by rw [← hx]; exact hgs.2.1
          have HA := hide (show redEx (st.take (a + 1)) = x.foldl addG ex0 by
            rw [List.take_succ_eq_append_getElem hlt, redEx, List.foldl_append, ← hx, ← hex0]; rfl)
          have hexg : GoodBs ex0 ∧ ex0.length ≤ 400 := by
            have h1 := exAll_both (st.take a) [] (fun b hb => by cases hb) (fun s hs => ⟨(HST.out.2 s (List.mem_of_mem_take hs)).2.1, (HST.out.2 s (List.mem_of_mem_take hs)).2.2.2⟩)
            have h2 : GoodBs (redEx (st.take a)) ∧ (redEx (st.take a)).length ≤ 0 + 4 * (st.take a).length := h1
            rw [hex0, List.length_take] at h2
            exact ⟨h2.1, by omega⟩
          have HX6 := hide hexg
          have HGX := hide hgx
          obtain ⟨x1, hx1⟩ : ∃ n, st[a].1.length = n := ⟨_, rfl⟩
          rw [hx] at d1 hslx
          rw [hx1] at d0
          have f0 := (hqi.1.cell (p := ⟨b2, o2 + a * 2, none⟩) hbS').trans d0
          have f1 := (hqi.1.cell (p := ⟨b2, o2 + a * 2 + 1, none⟩) hbS').trans d1
          have KX := hide hslx
          have hbc : Below wr.heap.size wr (wr.alloc (.cells #[.slice P1 x1 c1, .slice P2 x.length c2] 27)) := (Below.refl _ _).alloc (Nat.le_refl _) _
          have HPW := hide (hqi.below hbc)
          clear hqi hx hgs hgx hex0 hexg hx1 d0 d1 hslx hbc
          go_wp2_with fail
          clear f0 f1
          go_loopw [106] (fun i wi => ∃ (j : Nat) (X : Option Addr) (cx : Nat), j ≤ x.length ∧ i = .int .i64 j ∧ QI w S0 base g1 g2 g3 g4 (.slice (some ⟨b2, o2, none⟩) st.length c) L P X cl cp cx lim per ((x.take j).foldl addG ex0) wi) (fun i _ => x.length - (intOf i).toNat)
          case atStart => exact ⟨0, X, cx, Nat.zero_le _, rfl, HPW.out⟩
          case round =>
            obtain ⟨j, X, cx, hj, rfl, hqi⟩ := hrel
            obtain ⟨ex7, hex7⟩ : ∃ l, (x.take j).foldl addG ex0 = l := ⟨_, rfl⟩
            rw [hex7] at hqi
            by_cases hjl : j < x.length
            · obtain ⟨b6, o6, t6, A6, c6', hP, hbS6, ht6, d0, d1, d2, hsl6⟩ := KX.out.genAt hjl
              subst hP
              have hbS6' : b6 < w.heap.size := hs0 _ hbS6
              have hjl' : (j : Int) < (x.length : Int) := by omega
              have hgb := HGX.out x[j] (List.getElem_mem hjl)
              have hexg : GoodBs ex7 ∧ ex7.length ≤ 500 := by
                have h1 := exFold_good (x.take j) ex0 HX6.out.1 (fun b hb => HGX.out b (List.mem_of_mem_take hb))
                have h2 := exFold_len (x.take j) ex0
                rw [hex7] at h1 h2
                rw [List.length_take] at h2
                have := HX6.out.2
                exact ⟨h1, by omega⟩
              obtain ⟨hpg, hpl⟩ := hexg
              obtain ⟨kb, hkb⟩ : ∃ kb, x[j].1 = kb := ⟨_, rfl⟩
              obtain ⟨nb, hnb⟩ : ∃ nb, x[j].2.2 = nb := ⟨_, rfl⟩
              have hbe : x[j] = (kb, t6.data.toList, nb) := by rw [← hkb, ← hnb, ht6]
              have hts := size_of_list ht6 hgb.small.1
              have hsn : SmallN nb := by rw [← hnb]; exact hgb.small.2
              have HJ := hide (show (x.take (j + 1)).foldl addG ex0 = addG ex7 (kb, t6.data.toList, nb) by
                rw [List.take_succ_eq_append_getElem hjl, List.foldl_append, hex7, hbe]; rfl)
              rw [hkb] at d0
              rw [hnb] at d2 hsl6
              have f0 := (hqi.1.cell (p := ⟨b6, o6 + j * 3, none⟩) hbS6').trans d0
              have f1 := (hqi.1.cell (p := ⟨b6, o6 + j * 3 + 1, none⟩) hbS6').trans d1
              have f2 := (hqi.1.cell (p := ⟨b6, o6 + j * 3 + 2, none⟩) hbS6').trans d2
              have hbc : Below wr.heap.size wr (wr.alloc (.cells #[.int .i64 kb, .string t6, .slice A6 nb.length c6'] 32)) := (Below.refl _ _).alloc (Nat.le_refl _) _
              have HPZ := hide (hqi.below hbc)
              obtain ⟨b7, hb7⟩ : ∃ b, b = wr.heap.size := ⟨_, rfl⟩
              have HGB := hide (show GB b7 kb t6 (.slice A6 nb.length c6') (wr.alloc (.cells #[.int .i64 kb, .string t6, .slice A6 nb.length c6'] 32)) by rw [hb7]; exact heap_alloc_new wr _)
              have HB7 := hide hb7
              obtain ⟨wz, hwz⟩ : ∃ wz, wz = wr.alloc (.cells #[.int .i64 kb, .string t6, .slice A6 nb.length c6'] 32) := ⟨_, rfl⟩
              rw [← hwz] at HPZ HGB
              have HWZ := hide hwz
              have AD := hide (radd_any ex7 X cx base S0 kb t6 nb A6 c6' wz (by omega) HPZ.out.2.1 (fun k hk => Nat.lt_of_lt_of_le (hs0 k hk) hwb) hpg.small hts hsn HPZ.out.2.2.2.2.2.2.2.2.1 ((Sl.ok RRdn.ok).mono hsl6 (fun k hk => HPZ.out.1.block k (hs0 k hk)) (fun _ hk => hk)))
              clear hqi d0 d1 d2 hsl6 hkb hnb hbe hbc hb7 hwz ht6 hex7 hgb hpg hsn
              go_upto_region 37 with (fail)
              rw [← HWZ.out, ← HB7.out]
              obtain ⟨-, -, x2, -, -, xf2⟩ := HPZ.out.2.2.2.2.1.facts
              obtain ⟨k0, k1, k2, -, -, -⟩ := HGB.out.facts
              clear f0 f1 f2
              go_wp2_with fail
              refine AD.out.mono ?_
              rintro e w6 ⟨X5, cx5, rfl, hown5, hgr5, hat5⟩
              have hb5' : Below base wz w6 := ⟨hgr5.os, hgr5.tape, hgr5.output, hgr5.size, fun k hk => hgr5.block k (by have := HPZ.out.2.1; omega) (fun e => by have := (HPZ.out.2.2.2.2.2.2.2.2.1.lt k e.symm).1; omega)⟩
              obtain ⟨-, -, q2, -, -, qf2⟩ := (HPZ.out.2.2.2.2.1.base hb5' (by omega)).facts
              have HRF := hide (QI.ex_ HPZ.out hwg3 hwb h1b h2b h4b h13 h23 h43 h3b hgr5 hown5 hat5)
              clear hb5' hown5 hgr5 hat5 x2 xf2 k0 k1 k2
              go_wp2_with fail
              go_roundw
              case rel => exact ⟨j + 1, X5, cx5, by omega, by go_num, by rw [HJ.out]; exact HRF.out⟩
              case measure => simp [intOf]; omega
            · have hjp : x.take j = x := List.take_of_length_le (by omega)
              rw [hjp] at hex7
              have HF := hide (show redEx (st.take (a + 1)) = ex7 by rw [HA.out, hex7])
              have HPF := hide hqi
              clear hqi hjp hex7
              go_wp2_with fail
              go_roundw
              case rel => exact ⟨a + 1, X, cx, by omega, by go_num, by rw [HF.out]; exact HPF.out⟩
              case measure => simp [intOf]; omega
        · have hap : st.take a = st := List.take_of_length_le (by omega)
          rw [hap] at hex0
          have HF := hide hex0
          obtain ⟨z0, z1, z2, -, -, -⟩ := hqi.2.2.2.2.1.facts
          obtain ⟨r0, r1, r2, rf0, rf1, rf2⟩ := hqi.2.2.2.1.facts
          have HPF := hide hqi
          clear hqi hap hex0
          go_wp2_with fail
          obtain ⟨wn, rfl⟩ : ∃ wn : World, wn = wr := ⟨_, rfl⟩
          have hst := HPF.out.2.2.2.1.store3 (.slice L lim.length cl) (.slice P per.length cp) (.slice X ex0.length cx)
          have hbf := ((HPF.out.1.setCell (p := ⟨g2, 0, none⟩) hwg2 (.slice L lim.length cl)).setCell (p := ⟨g2, 1, none⟩) hwg2 (.slice P per.length cp)).setCell (p := ⟨g2, 2, none⟩) hwg2 (.slice X ex0.length cx)
          have hoff := fun k (hk : k ≠ g2) => set3_off (g := g2) (k := k) (W := wn) (.slice L lim.length cl) (.slice P per.length cp) (.slice X ex0.length cx) hk
          have hsz : (((wn.setCell ⟨g2, 0, none⟩ (.slice L lim.length cl)).setCell ⟨g2, 1, none⟩ (.slice P per.length cp)).setCell ⟨g2, 2, none⟩ (.slice X ex0.length cx)).heap.size = wn.heap.size := by simp
          obtain ⟨W3, hW3⟩ : ∃ W3, W3 = ((wn.setCell ⟨g2, 0, none⟩ (.slice L lim.length cl)).setCell ⟨g2, 1, none⟩ (.slice P per.length cp)).setCell ⟨g2, 2, none⟩ (.slice X ex0.length cx) := ⟨_, rfl⟩
          rw [← hW3] at hst hbf hoff hsz ⊢
          have hpz := HPF.out.2.1
          have hrange : ∀ k, (S0 k ∨ (base ≤ k ∧ k < wn.heap.size)) → k ≠ g2 ∧ (S0 k ∨ (w.heap.size ≤ k ∧ k < W3.heap.size)) := fun k hk => by
            rcases hk with hk | hk
            · have hk' := hs0 k hk
              exact ⟨by omega, .inl hk⟩
            · exact ⟨by omega, .inr ⟨by omega, by omega⟩⟩
          have hs1 : Sl RInt 1 W3 (fun k => S0 k ∨ (w.heap.size ≤ k ∧ k < W3.heap.size)) lim [.slice L lim.length cl] := (Sl.ok RInt.ok).mono (HPF.out.2.2.2.2.2.2.1.sl RInt.ok) (fun k hk => hoff k (hrange k hk).1) (fun k hk => (hrange k hk).2)
          have hs2 : Sl RGen 3 W3 (fun k => S0 k ∨ (w.heap.size ≤ k ∧ k < W3.heap.size)) per [.slice P per.length cp] := (Sl.ok RGen.ok).mono (HPF.out.2.2.2.2.2.2.2.1.sl RGen.ok) (fun k hk => hoff k (hrange k hk).1) (fun k hk => (hrange k hk).2)
          have hs3 : Sl RGen 3 W3 (fun k => S0 k ∨ (w.heap.size ≤ k ∧ k < W3.heap.size)) ex0 [.slice X ex0.length cx] := (Sl.ok RGen.ok).mono (HPF.out.2.2.2.2.2.2.2.2.1.sl RGen.ok) (fun k hk => hoff k (hrange k hk).1) (fun k hk => (hrange k hk).2)
          obtain ⟨q0, q1, q2, -, -, -⟩ := hst.facts
          refine bodyPost_ret (v := .agg #[.slice L lim.length cl, .slice P per.length cp, .slice X ex0.length cx]) (by simp [results, Tryz.results26, go_sem, q0, q1, q2]) rfl ?_
          unfold RRedPost
          rw [HP.out, HL.out, HF.out]
          exact ⟨L, P, X, cl, cp, cx, rfl, hs1, hs2, hs3, hbf⟩
end Go.Proofs.YtodapmkdmkhhfaaGreatDoor
