/- The functions PermitsAll of package subtree and of the reference. -/
import Derived.Test.YtodapmkdmkhhfaaGreatDoorRef3
import Derived.Test.YtodapmkdmkhhfaaGreatDoorGnD
namespace Go.Proofs.YtodapmkdmkhhfaaGreatDoor
open Go.RowKit

def oidMail : List UInt8 := [49, 46, 50, 46, 56, 52, 48, 46, 49, 49, 51, 53, 52, 57, 46, 49, 46, 57, 46, 49]
def mailOk (st : List Sub) (a : Attr) : Bool := !(a.1 == oidMail) || permitsG st (1, a.2.2, [])
def permitsAllG (st : List Sub) (n : Name) (l : List Gen) : Bool := (decide (n.length = 0) || permitsG st (4, [], n)) && ((n.all fun r => r.all (mailOk st)) && l.all (permitsG st))
theorem gen_cells3 {w W : World} {t : ByteArray} {k : Int} {v : Value} {T : TypeId} (h : W = w.alloc (.cells #[.int .i64 k, .string t, v] T)) :
    W.cell? ⟨w.heap.size, 0, none⟩ = some (.int .i64 k) ∧ W.cell? ⟨w.heap.size, 1, none⟩ = some (.string t) ∧ W.cell? ⟨w.heap.size, 2, none⟩ = some v := by
  subst h
  refine ⟨?_, ?_, ?_⟩ <;> (rw [World.cell?_alloc_new]; rfl)
theorem att_cells3 {w W : World} {t s : ByteArray} {k : Int} {T : TypeId} (h : W = w.alloc (.cells #[.string t, .int .i64 k, .string s] T)) :
    W.cell? ⟨w.heap.size, 0, none⟩ = some (.string t) ∧ W.cell? ⟨w.heap.size, 1, none⟩ = some (.int .i64 k) ∧ W.cell? ⟨w.heap.size, 2, none⟩ = some (.string s) := by
  subst h
  refine ⟨?_, ?_, ?_⟩ <;> (rw [World.cell?_alloc_new]; rfl)


set_option maxRecDepth 100000 in
set_option maxHeartbeats 16000000 in
theorem permitsAll_any (st : List Sub) (n : Name) (l : List Gen) (B A C : Option Addr) (d c e0 : Nat) (hl : SmallS st) (hn : SmallN n) (hg : SmallGs l) (q : Bool) (hq : permitsAllG st n l = q) (w : World) (hmx : Mx w)
    (h1 : Sl RSub 2 w (Lt w.heap.size) st [.slice B st.length d]) (h2 : Sl RRdn 1 w (Lt w.heap.size) n [.slice A n.length c]) (h3 : Sl RGen 3 w (Lt w.heap.size) l [.slice C l.length e0]) :
    Calls Tryz.prog 23 #[.agg #[.slice B st.length d], .agg #[.slice A n.length c], .slice C l.length e0] w fun e w' => e = .returned (.bool q) ∧ Below w.heap.size w w' := by
  have HMX := hide hmx
  have HL := hide hl
  have HN := hide hn
  have HG := hide hg
  have K1 := hide h1
  have K2 := hide h2
  have K3 := hide h3
  have hnl : n.length ≤ 9223372036854775807 := by have h := h2.len_.2; unfold maxLen at h; omega
  have hll : l.length ≤ 9223372036854775807 := by have h := h3.len_.2; unfold maxLen at h; omega
  obtain ⟨wa, hwa⟩ : ∃ wa, wa = (w.alloc (.cells #[.slice B st.length d] 24)).alloc (.cells #[.slice A n.length c] 30) := ⟨_, rfl⟩
  have hz : (w.alloc (.cells #[.slice B st.length d] 24)).heap.size = w.heap.size + 1 := by simp
  have s0 : wa.cell? ⟨w.heap.size, 0, none⟩ = some (.slice B st.length d) := by rw [hwa, World.cell?_alloc_lt _ _ _ (by simp), World.cell?_alloc_new]; rfl
  have a0 : wa.cell? ⟨w.heap.size + 1, 0, none⟩ = some (.slice A n.length c) := by rw [hwa, ← hz, World.cell?_alloc_new]; rfl
  have hba : Below w.heap.size w wa := by rw [hwa]; exact ((Below.refl _ _).alloc (Nat.le_refl _) _).alloc (by simp) _
  obtain ⟨g4, hg4⟩ : ∃ g, g = w.heap.size + 1 := ⟨_, rfl⟩
  rw [← hg4] at a0
  have S0 := hide s0
  have A0 := hide a0
  have HBA := hide hba
  have HWA := hide hwa
  have HG4 := hide hg4
  obtain ⟨q1, hq1⟩ : ∃ x, permitsG st (4, [], n) = x := ⟨_, rfl⟩
  have HQ0 := hide (show ((decide (n.length = 0) || q1) && ((n.all fun r => r.all (mailOk st)) && l.all (permitsG st))) = q by rw [← hq, permitsAllG, hq1])
  have PN := hide (fun W hb => permits_any (4, [], n) ⟨#[]⟩ A c st B d rfl ⟨by show ([] : List UInt8).length ≤ 100000; decide, HN.out⟩ HL.out q1 hq1 W (HMX.out.below hb) ((Sl.ok RRdn.ok).below K2.out hb) ((Sl.ok RSub.ok).below K1.out hb))
  have PA := hide (fun (v : ByteArray) (hv : v.size ≤ 100000) (x : Bool) (hx : permitsG st (1, v.data.toList, []) = x) W hb => permits_any (1, v.data.toList, []) v none 0 st B d rfl ⟨by show v.data.toList.length ≤ 100000; rw [size_string]; exact hv, nil_small⟩ HL.out x hx W (HMX.out.below hb) (Sl.nil _ _ _ _) ((Sl.ok RSub.ok).below K1.out hb))
  clear hmx hl hn hg h1 h2 h3 hwa hz s0 a0 hba hg4 hq hq1
  go_enter Tryz.func23, Tryz.ntmps23
  go_upto_region 1 with (fail)
  rw [← HWA.out, ← HG4.out]
  have y4 := A0.out
  have y3 := S0.out
  by_cases hn0 : n.length = 0
  · have t1 : ¬ (0 : Int) < (n.length : Int) := by omega
    have H3 := hide (show (((n.drop 0).all fun r => r.all (mailOk st)) && l.all (permitsG st)) = q by rw [← HQ0.out, decide_eq_true hn0]; rfl)
    have HB1 := hide (Below.refl wa.heap.size wa)
    clear hn0
    have y3 := cell_grows HB1.out _ _ S0.out
    have y4 := cell_grows HB1.out _ _ A0.out
    have HW1 := hide (HBA.out.trans (HB1.out.mono HBA.out.size))
    go_wp2_with fail
    go_loopw [27] (fun i wr => ∃ k : Nat, k ≤ n.length ∧ i = .int .i64 k ∧ Below wa.heap.size wa wr ∧ Hid ((((n.drop k).all fun r => r.all (mailOk st)) && l.all (permitsG st)) = q)) (fun i _ => n.length - (intOf i).toNat)
    case atStart => exact ⟨0, Nat.zero_le _, rfl, HB1.out, H3⟩
    case round =>
      obtain ⟨k, hk, rfl, hb, H⟩ := hrel
      have hbw := HBA.out.trans (hb.mono HBA.out.size)
      have HB := hide hb
      have HBW := hide hbw
      clear y3 y4
      by_cases hlt : k < n.length
      · obtain ⟨b2, o2, A2, c2, hA, hbS, d0, hsr⟩ := K2.out.rdnAt hlt
        have hbS' : b2 < w.heap.size := hbS
        have hlt' : (k : Int) < (n.length : Int) := by omega
        have f0 := (hbw.cell (p := ⟨b2, o2 + k, none⟩) hbS').trans d0
        have hsmr : SmallR n[k] := HN.out _ (List.getElem_mem hlt)
        obtain ⟨r, hr⟩ : ∃ r, n[k] = r := ⟨_, rfl⟩
        have H2 := hide (show ((r.drop 0).all (mailOk st) && (((n.drop (k + 1)).all fun r => r.all (mailOk st)) && l.all (permitsG st))) = q by
          rw [← H.out, List.drop_eq_getElem_cons hlt, List.all_cons, hr, Bool.and_assoc, List.drop_zero])
        rw [hr] at f0 hsr hsmr
        have KR := hide hsr
        have HSR := hide hsmr
        have hrl : r.length ≤ 9223372036854775807 := by have h := hsr.len_.2; unfold maxLen at h; omega
        subst hA
        clear hb hbw d0 hsr hsmr hr H
        go_wp2_with fail
        clear f0
        go_loopw [33] (fun i wi => ∃ j : Nat, j ≤ r.length ∧ i = .int .i64 j ∧ Below wa.heap.size wa wi ∧ Hid (((r.drop j).all (mailOk st) && (((n.drop (k + 1)).all fun r => r.all (mailOk st)) && l.all (permitsG st))) = q)) (fun i _ => r.length - (intOf i).toNat)
        case atStart => exact ⟨0, Nat.zero_le _, rfl, HB.out, H2⟩
        case round =>
          obtain ⟨j, hj, rfl, hb, H⟩ := hrel
          have hbw := HBA.out.trans (hb.mono HBA.out.size)
          by_cases hjl : j < r.length
          · obtain ⟨b6, o6, hA6, hbS6, d0, d1, d2⟩ := KR.out.attAt hjl
            subst hA6
            have hbS6' : b6 < w.heap.size := hbS6
            have hjl' : (j : Int) < (r.length : Int) := by omega
            have hsa := HSR.out r[j] (List.getElem_mem hjl)
            have f0 := (hbw.cell (p := ⟨b6, o6 + j * 3, none⟩) hbS6').trans d0
            have f1 : wr.cell? ⟨b6, o6 + j * 3 + 1, none⟩ = some (.int .i64 r[j].2.1) := by rw [Nat.add_assoc]; exact (hbw.cell (p := ⟨b6, o6 + (j * 3 + 1), none⟩) hbS6').trans d1
            have f2 : wr.cell? ⟨b6, o6 + j * 3 + 2, none⟩ = some (.string ⟨r[j].2.2.toArray⟩) := by rw [Nat.add_assoc]; exact (hbw.cell (p := ⟨b6, o6 + (j * 3 + 2), none⟩) hbS6').trans d2
            obtain ⟨ta, hta⟩ : ∃ ta : ByteArray, ta = ⟨r[j].1.toArray⟩ := ⟨_, rfl⟩
            obtain ⟨va, hva⟩ : ∃ va : ByteArray, va = ⟨r[j].2.2.toArray⟩ := ⟨_, rfl⟩
            obtain ⟨ka, hka⟩ : ∃ ka, r[j].2.1 = ka := ⟨_, rfl⟩
            have hvl : va.data.toList = r[j].2.2 := by rw [hva]
            have htl : ta.data.toList = r[j].1 := by rw [hta]
            have hvs : va.size ≤ 100000 := by rw [← size_string, hvl]; exact hsa.2
            obtain ⟨p0, hp0⟩ : ∃ p, (ta.data.toList == oidMail) = p := ⟨_, rfl⟩
            obtain ⟨p1, hp1⟩ : ∃ p, permitsG st (1, va.data.toList, []) = p := ⟨_, rfl⟩
            have HX := hide (show ((!p0 || p1) && ((r.drop (j + 1)).all (mailOk st) && (((n.drop (k + 1)).all fun r => r.all (mailOk st)) && l.all (permitsG st)))) = q by
              rw [← H.out, List.drop_eq_getElem_cons hjl, List.all_cons, mailOk, ← htl, ← hvl, hp0, hp1, Bool.and_assoc])
            rw [← hta] at f0
            rw [hka] at f1
            rw [← hva] at f2
            have hn1 : (p0 = true ∧ ta.toList = [49, 46, 50, 46, 56, 52, 48, 46, 49, 49, 51, 53, 52, 57, 46, 49, 46, 57, 46, 49]) ∨ (p0 = false ∧ ¬ ta.toList = [49, 46, 50, 46, 56, 52, 48, 46, 49, 49, 51, 53, 52, 57, 46, 49, 46, 57, 46, 49]) := by
              rw [ByteArray.toList_eq]
              cases p0
              · exact .inr ⟨rfl, beq_eq_false_iff_ne.1 hp0⟩
              · exact .inl ⟨rfl, eq_of_beq hp0⟩
            have PV := hide (fun W hb => PA.out va hvs p1 hp1 W hb)
            have hbq : Below wr.heap.size wr (wr.alloc (.cells #[.string ta, .int .i64 ka, .string va] 74)) := (Below.refl _ _).alloc (Nat.le_refl _) _
            have hbqa := hb.trans (hbq.mono hb.size)
            have z3 := cell_grows hbqa _ _ S0.out
            have HBQ := hide hbqa
            have HBQW := hide (HBA.out.trans (hbqa.mono HBA.out.size))
            have HN1 := hide hn1
            clear hb hbw d0 d1 d2 hsa hta hva hka hvl htl hp0 hp1 hbq hbqa H hn1 hvs
            have HALL := hide (And.intro hrl hj)
            clear hnl hll hrl hlt hlt' hbS' hbS6' hk hj
            go_upto_region 9 with (fail)
            obtain ⟨hrl, hj⟩ := HALL.out
            clear f0 f1 f2
            rcases HN1.out with ⟨rfl, hn1⟩ | ⟨rfl, hn1⟩
            · go_wp2_with fail
              refine (PV.out _ HBQW.out).mono ?_
              rintro e w6 ⟨rfl, hb6⟩
              have HB6 := hide (HBQ.out.trans (hb6.mono HBQ.out.size))
              have HW6 := hide (HBA.out.trans (HB6.out.mono HBA.out.size))
              clear hb6
              cases p1
              · have HY := hide (show false = q from HX.out)
                go_wp2_with fail
                go_ret
                exact ⟨ret_bool HY.out, HW6.out⟩
              · have HY := hide (show ((r.drop (j + 1)).all (mailOk st) && (((n.drop (k + 1)).all fun r => r.all (mailOk st)) && l.all (permitsG st))) = q from HX.out)
                go_wp2_with fail
                go_roundw
                case rel => exact ⟨j + 1, by omega, by go_num, HB6.out, HY⟩
                case measure => simp [intOf]; omega
            · have HY := hide (show ((r.drop (j + 1)).all (mailOk st) && (((n.drop (k + 1)).all fun r => r.all (mailOk st)) && l.all (permitsG st))) = q from HX.out)
              go_wp2_with fail
              go_roundw
              case rel => exact ⟨j + 1, by omega, by go_num, HBQ.out, HY⟩
              case measure => simp [intOf]; omega
          · have HY := hide (show (((n.drop (k + 1)).all fun r => r.all (mailOk st)) && l.all (permitsG st)) = q by rw [← H.out, List.drop_of_length_le (show r.length ≤ j by omega)]; rfl)
            have HBF := hide hb
            clear hb hbw H
            go_wp2_with fail
            go_roundw
            case rel => exact ⟨k + 1, by omega, by go_num, HBF.out, HY⟩
            case measure => simp [intOf]; omega
      · have H4 := hide (show (l.drop 0).all (permitsG st) = q by rw [← H.out, List.drop_of_length_le (show n.length ≤ k by omega)]; rfl)
        clear hb hbw H
        go_wp2_with fail
        go_loopw [52] (fun i wi => ∃ j : Nat, j ≤ l.length ∧ i = .int .i64 j ∧ Below wa.heap.size wa wi ∧ Hid ((l.drop j).all (permitsG st) = q)) (fun i _ => l.length - (intOf i).toNat)
        case atStart => exact ⟨0, Nat.zero_le _, rfl, HB.out, H4⟩
        case round =>
          obtain ⟨j, hj, rfl, hb, H⟩ := hrel
          have hbw := HBA.out.trans (hb.mono HBA.out.size)
          by_cases hjl : j < l.length
          · obtain ⟨b6, o6, t6, A6, c6, hP, hbS6, ht6, d0, d1, d2, hsl6⟩ := K3.out.genAt hjl
            subst hP
            have hbS6' : b6 < w.heap.size := hbS6
            have hjl' : (j : Int) < (l.length : Int) := by omega
            have hsg := HG.out l[j] (List.getElem_mem hjl)
            have f0 := (hbw.cell (p := ⟨b6, o6 + j * 3, none⟩) hbS6').trans d0
            have f1 := (hbw.cell (p := ⟨b6, o6 + j * 3 + 1, none⟩) hbS6').trans d1
            have f2 := (hbw.cell (p := ⟨b6, o6 + j * 3 + 2, none⟩) hbS6').trans d2
            obtain ⟨g, hg⟩ : ∃ g, l[j] = g := ⟨_, rfl⟩
            rw [hg] at f0 f2 hsl6 ht6 hsg
            obtain ⟨p1, hp1⟩ : ∃ p, permitsG st g = p := ⟨_, rfl⟩
            have HX := hide (show (p1 && (l.drop (j + 1)).all (permitsG st)) = q by rw [← H.out, List.drop_eq_getElem_cons hjl, List.all_cons, hg, hp1])
            obtain ⟨wq, hwq⟩ : ∃ wq, wq = wr.alloc (.cells #[.int .i64 g.1, .string t6, .slice A6 g.2.2.length c6] 32) := ⟨_, rfl⟩
            obtain ⟨c0, c1, c2'⟩ := gen_cells3 hwq
            have hbq : Below wr.heap.size wr wq := by rw [hwq]; exact (Below.refl _ _).alloc (Nat.le_refl _) _
            have hbqa := hb.trans (hbq.mono hb.size)
            have hbqw := HBA.out.trans (hbqa.mono HBA.out.size)
            have PG := hide (permits_any g t6 A6 c6 st B d ht6 hsg HL.out p1 hp1 wq (HMX.out.below hbqw) ((Sl.ok RRdn.ok).below hsl6 hbqw) ((Sl.ok RSub.ok).below K1.out hbqw))
            have z3 := cell_grows hbqa _ _ S0.out
            have HBQ := hide hbqa
            have HWQ := hide hwq
            clear hb hbw d0 d1 d2 hsl6 ht6 hsg hg hp1 hwq hbq hbqa hbqw H
            go_upto_region 16 with (fail)
            rw [← HWQ.out]
            clear f0 f1 f2
            go_wp2_with fail
            refine PG.out.mono ?_
            rintro e w6 ⟨rfl, hb6⟩
            have HB6 := hide (HBQ.out.trans (hb6.mono HBQ.out.size))
            have HW6 := hide (HBA.out.trans (HB6.out.mono HBA.out.size))
            clear hb6
            cases p1
            · have HY := hide (show false = q from HX.out)
              go_wp2_with fail
              go_ret
              exact ⟨ret_bool HY.out, HW6.out⟩
            · have HY := hide (show (l.drop (j + 1)).all (permitsG st) = q from HX.out)
              go_wp2_with fail
              go_roundw
              case rel => exact ⟨j + 1, by omega, by go_num, HB6.out, HY⟩
              case measure => simp [intOf]; omega
          · have HY := hide (show true = q by rw [← H.out, List.drop_of_length_le (show l.length ≤ j by omega)]; rfl)
            have HW6 := hide hbw
            clear hb hbw H
            go_wp2_with fail
            go_ret
            exact ⟨ret_bool HY.out, HW6.out⟩
  · have t1 : (0 : Int) < (n.length : Int) := by omega
    have HQ1 := hide (show (q1 && ((n.all fun r => r.all (mailOk st)) && l.all (permitsG st))) = q by rw [← HQ0.out, decide_eq_false hn0]; rfl)
    clear hn0
    go_wp2_with fail
    refine (PN.out _ HBA.out).mono ?_
    rintro e w1 ⟨rfl, hb1⟩
    cases q1
    · have HY := hide (show false = q from HQ1.out)
      go_wp2_with fail
      go_ret
      exact ⟨ret_bool HY.out, HBA.out.trans (hb1.mono HBA.out.size)⟩
    · have H3 := hide (show (((n.drop 0).all fun r => r.all (mailOk st)) && l.all (permitsG st)) = q from HQ1.out)
      have HB1 := hide hb1
      clear hb1 y3 y4
      have y3 := cell_grows HB1.out _ _ S0.out
      have y4 := cell_grows HB1.out _ _ A0.out
      have HW1 := hide (HBA.out.trans (HB1.out.mono HBA.out.size))
      go_wp2_with fail
      go_loopw [27] (fun i wr => ∃ k : Nat, k ≤ n.length ∧ i = .int .i64 k ∧ Below wa.heap.size wa wr ∧ Hid ((((n.drop k).all fun r => r.all (mailOk st)) && l.all (permitsG st)) = q)) (fun i _ => n.length - (intOf i).toNat)
      case atStart => exact ⟨0, Nat.zero_le _, rfl, HB1.out, H3⟩
      case round =>
        obtain ⟨k, hk, rfl, hb, H⟩ := hrel
        have hbw := HBA.out.trans (hb.mono HBA.out.size)
        have HB := hide hb
        have HBW := hide hbw
        clear y3 y4
        by_cases hlt : k < n.length
        · obtain ⟨b2, o2, A2, c2, hA, hbS, d0, hsr⟩ := K2.out.rdnAt hlt
          have hbS' : b2 < w.heap.size := hbS
          have hlt' : (k : Int) < (n.length : Int) := by omega
          have f0 := (hbw.cell (p := ⟨b2, o2 + k, none⟩) hbS').trans d0
          have hsmr : SmallR n[k] := HN.out _ (List.getElem_mem hlt)
          obtain ⟨r, hr⟩ : ∃ r, n[k] = r := ⟨_, rfl⟩
          have H2 := hide (show ((r.drop 0).all (mailOk st) && (((n.drop (k + 1)).all fun r => r.all (mailOk st)) && l.all (permitsG st))) = q by
            rw [← H.out, List.drop_eq_getElem_cons hlt, List.all_cons, hr, Bool.and_assoc, List.drop_zero])
          rw [hr] at f0 hsr hsmr
          have KR := hide hsr
          have HSR := hide hsmr
          have hrl : r.length ≤ 9223372036854775807 := by have h := hsr.len_.2; unfold maxLen at h; omega
          subst hA
          clear hb hbw d0 hsr hsmr hr H
          go_wp2_with fail
          clear f0
          go_loopw [33] (fun i wi => ∃ j : Nat, j ≤ r.length ∧ i = .int .i64 j ∧ Below wa.heap.size wa wi ∧ Hid (((r.drop j).all (mailOk st) && (((n.drop (k + 1)).all fun r => r.all (mailOk st)) && l.all (permitsG st))) = q)) (fun i _ => r.length - (intOf i).toNat)
          case atStart => exact ⟨0, Nat.zero_le _, rfl, HB.out, H2⟩
          case round =>
            obtain ⟨j, hj, rfl, hb, H⟩ := hrel
            have hbw := HBA.out.trans (hb.mono HBA.out.size)
            by_cases hjl : j < r.length
            · obtain ⟨b6, o6, hA6, hbS6, d0, d1, d2⟩ := KR.out.attAt hjl
              subst hA6
              have hbS6' : b6 < w.heap.size := hbS6
              have hjl' : (j : Int) < (r.length : Int) := by omega
              have hsa := HSR.out r[j] (List.getElem_mem hjl)
              have f0 := (hbw.cell (p := ⟨b6, o6 + j * 3, none⟩) hbS6').trans d0
              have f1 : wr.cell? ⟨b6, o6 + j * 3 + 1, none⟩ = some (.int .i64 r[j].2.1) := by rw [Nat.add_assoc]; exact (hbw.cell (p := ⟨b6, o6 + (j * 3 + 1), none⟩) hbS6').trans d1
              have f2 : wr.cell? ⟨b6, o6 + j * 3 + 2, none⟩ = some (.string ⟨r[j].2.2.toArray⟩) := by rw [Nat.add_assoc]; exact (hbw.cell (p := ⟨b6, o6 + (j * 3 + 2), none⟩) hbS6').trans d2
              obtain ⟨ta, hta⟩ : ∃ ta : ByteArray, ta = ⟨r[j].1.toArray⟩ := ⟨_, rfl⟩
              obtain ⟨va, hva⟩ : ∃ va : ByteArray, va = ⟨r[j].2.2.toArray⟩ := ⟨_, rfl⟩
              obtain ⟨ka, hka⟩ : ∃ ka, r[j].2.1 = ka := ⟨_, rfl⟩
              have hvl : va.data.toList = r[j].2.2 := by rw [hva]
              have htl : ta.data.toList = r[j].1 := by rw [hta]
              have hvs : va.size ≤ 100000 := by rw [← size_string, hvl]; exact hsa.2
              obtain ⟨p0, hp0⟩ : ∃ p, (ta.data.toList == oidMail) = p := ⟨_, rfl⟩
              obtain ⟨p1, hp1⟩ : ∃ p, permitsG st (1, va.data.toList, []) = p := ⟨_, rfl⟩
              have HX := hide (show ((!p0 || p1) && ((r.drop (j + 1)).all (mailOk st) && (((n.drop (k + 1)).all fun r => r.all (mailOk st)) && l.all (permitsG st)))) = q by
                rw [← H.out, List.drop_eq_getElem_cons hjl, List.all_cons, mailOk, ← htl, ← hvl, hp0, hp1, Bool.and_assoc])
              rw [← hta] at f0
              rw [hka] at f1
              rw [← hva] at f2
              have hn1 : (p0 = true ∧ ta.toList = [49, 46, 50, 46, 56, 52, 48, 46, 49, 49, 51, 53, 52, 57, 46, 49, 46, 57, 46, 49]) ∨ (p0 = false ∧ ¬ ta.toList = [49, 46, 50, 46, 56, 52, 48, 46, 49, 49, 51, 53, 52, 57, 46, 49, 46, 57, 46, 49]) := by
                rw [ByteArray.toList_eq]
                cases p0
                · exact .inr ⟨rfl, beq_eq_false_iff_ne.1 hp0⟩
                · exact .inl ⟨rfl, eq_of_beq hp0⟩
              have PV := hide (fun W hb => PA.out va hvs p1 hp1 W hb)
              have hbq : Below wr.heap.size wr (wr.alloc (.cells #[.string ta, .int .i64 ka, .string va] 74)) := (Below.refl _ _).alloc (Nat.le_refl _) _
              have hbqa := hb.trans (hbq.mono hb.size)
              have z3 := cell_grows hbqa _ _ S0.out
              have HBQ := hide hbqa
              have HBQW := hide (HBA.out.trans (hbqa.mono HBA.out.size))
              have HN1 := hide hn1
              clear hb hbw d0 d1 d2 hsa hta hva hka hvl htl hp0 hp1 hbq hbqa H hn1 hvs
              have HALL := hide (And.intro hrl hj)
              clear hnl hll hrl hlt hlt' hbS' hbS6' hk hj
              go_upto_region 9 with (fail)
              obtain ⟨hrl, hj⟩ := HALL.out
              clear f0 f1 f2
              rcases HN1.out with ⟨rfl, hn1⟩ | ⟨rfl, hn1⟩
              · go_wp2_with fail
                refine (PV.out _ HBQW.out).mono ?_
                rintro e w6 ⟨rfl, hb6⟩
                have HB6 := hide (HBQ.out.trans (hb6.mono HBQ.out.size))
                have HW6 := hide (HBA.out.trans (HB6.out.mono HBA.out.size))
                clear hb6
                cases p1
                · have HY := hide (show false = q from HX.out)
                  go_wp2_with fail
                  go_ret
                  exact ⟨ret_bool HY.out, HW6.out⟩
                · have HY := hide (show ((r.drop (j + 1)).all (mailOk st) && (((n.drop (k + 1)).all fun r => r.all (mailOk st)) && l.all (permitsG st))) = q from HX.out)
                  go_wp2_with fail
                  go_roundw
                  case rel => exact ⟨j + 1, by omega, by go_num, HB6.out, HY⟩
                  case measure => simp [intOf]; omega
              · have HY := hide (show ((r.drop (j + 1)).all (mailOk st) && (((n.drop (k + 1)).all fun r => r.all (mailOk st)) && l.all (permitsG st))) = q from HX.out)
                go_wp2_with fail
                go_roundw
                case rel => exact ⟨j + 1, by omega, by go_num, HBQ.out, HY⟩
                case measure => simp [intOf]; omega
            · have HY := hide (show (((n.drop (k + 1)).all fun r => r.all (mailOk st)) && l.all (permitsG st)) = q by rw [← H.out, List.drop_of_length_le (show r.length ≤ j by omega)]; rfl)
              have HBF := hide hb
              clear hb hbw H
              go_wp2_with fail
              go_roundw
              case rel => exact ⟨k + 1, by omega, by go_num, HBF.out, HY⟩
              case measure => simp [intOf]; omega
        · have H4 := hide (show (l.drop 0).all (permitsG st) = q by rw [← H.out, List.drop_of_length_le (show n.length ≤ k by omega)]; rfl)
          clear hb hbw H
          go_wp2_with fail
          go_loopw [52] (fun i wi => ∃ j : Nat, j ≤ l.length ∧ i = .int .i64 j ∧ Below wa.heap.size wa wi ∧ Hid ((l.drop j).all (permitsG st) = q)) (fun i _ => l.length - (intOf i).toNat)
          case atStart => exact ⟨0, Nat.zero_le _, rfl, HB.out, H4⟩
          case round =>
            obtain ⟨j, hj, rfl, hb, H⟩ := hrel
            have hbw := HBA.out.trans (hb.mono HBA.out.size)
            by_cases hjl : j < l.length
            · obtain ⟨b6, o6, t6, A6, c6, hP, hbS6, ht6, d0, d1, d2, hsl6⟩ := K3.out.genAt hjl
              subst hP
              have hbS6' : b6 < w.heap.size := hbS6
              have hjl' : (j : Int) < (l.length : Int) := by omega
              have hsg := HG.out l[j] (List.getElem_mem hjl)
              have f0 := (hbw.cell (p := ⟨b6, o6 + j * 3, none⟩) hbS6').trans d0
              have f1 := (hbw.cell (p := ⟨b6, o6 + j * 3 + 1, none⟩) hbS6').trans d1
              have f2 := (hbw.cell (p := ⟨b6, o6 + j * 3 + 2, none⟩) hbS6').trans d2
              obtain ⟨g, hg⟩ : ∃ g, l[j] = g := ⟨_, rfl⟩
              rw [hg] at f0 f2 hsl6 ht6 hsg
              obtain ⟨p1, hp1⟩ : ∃ p, permitsG st g = p := ⟨_, rfl⟩
              have HX := hide (show (p1 && (l.drop (j + 1)).all (permitsG st)) = q by rw [← H.out, List.drop_eq_getElem_cons hjl, List.all_cons, hg, hp1])
              obtain ⟨wq, hwq⟩ : ∃ wq, wq = wr.alloc (.cells #[.int .i64 g.1, .string t6, .slice A6 g.2.2.length c6] 32) := ⟨_, rfl⟩
              obtain ⟨c0, c1, c2'⟩ := gen_cells3 hwq
              have hbq : Below wr.heap.size wr wq := by rw [hwq]; exact (Below.refl _ _).alloc (Nat.le_refl _) _
              have hbqa := hb.trans (hbq.mono hb.size)
              have hbqw := HBA.out.trans (hbqa.mono HBA.out.size)
              have PG := hide (permits_any g t6 A6 c6 st B d ht6 hsg HL.out p1 hp1 wq (HMX.out.below hbqw) ((Sl.ok RRdn.ok).below hsl6 hbqw) ((Sl.ok RSub.ok).below K1.out hbqw))
              have z3 := cell_grows hbqa _ _ S0.out
              have HBQ := hide hbqa
              have HWQ := hide hwq
              clear hb hbw d0 d1 d2 hsl6 ht6 hsg hg hp1 hwq hbq hbqa hbqw H
              go_upto_region 16 with (fail)
              rw [← HWQ.out]
              clear f0 f1 f2
              go_wp2_with fail
              refine PG.out.mono ?_
              rintro e w6 ⟨rfl, hb6⟩
              have HB6 := hide (HBQ.out.trans (hb6.mono HBQ.out.size))
              have HW6 := hide (HBA.out.trans (HB6.out.mono HBA.out.size))
              clear hb6
              cases p1
              · have HY := hide (show false = q from HX.out)
                go_wp2_with fail
                go_ret
                exact ⟨ret_bool HY.out, HW6.out⟩
              · have HY := hide (show (l.drop (j + 1)).all (permitsG st) = q from HX.out)
                go_wp2_with fail
                go_roundw
                case rel => exact ⟨j + 1, by omega, by go_num, HB6.out, HY⟩
                case measure => simp [intOf]; omega
            · have HY := hide (show true = q by rw [← H.out, List.drop_of_length_le (show l.length ≤ j by omega)]; rfl)
              have HW6 := hide hbw
              clear hb hbw H
              go_wp2_with fail
              go_ret
              exact ⟨ret_bool HY.out, HW6.out⟩

set_option maxRecDepth 100000 in
set_option maxHeartbeats 16000000 in
theorem rPermitsAll_any (st : List Sub) (n : Name) (l : List Gen) (B A C : Option Addr) (d c e0 : Nat) (hl : SmallS st) (hn : SmallN n) (hg : SmallGs l) (q : Bool) (hq : permitsAllG st n l = q) (w : World) (hmx : Mx w)
    (h1 : Sl RSub 2 w (Lt w.heap.size) st [.slice B st.length d]) (h2 : Sl RRdn 1 w (Lt w.heap.size) n [.slice A n.length c]) (h3 : Sl RGen 3 w (Lt w.heap.size) l [.slice C l.length e0]) :
    Calls Tryz.prog 24 #[.agg #[.slice B st.length d], .agg #[.slice A n.length c], .slice C l.length e0] w fun e w' => e = .returned (.bool q) ∧ Below w.heap.size w w' := by
  have HMX := hide hmx
  have HL := hide hl
  have HN := hide hn
  have HG := hide hg
  have K1 := hide h1
  have K2 := hide h2
  have K3 := hide h3
  have hnl : n.length ≤ 9223372036854775807 := by have h := h2.len_.2; unfold maxLen at h; omega
  have hll : l.length ≤ 9223372036854775807 := by have h := h3.len_.2; unfold maxLen at h; omega
  obtain ⟨wa, hwa⟩ : ∃ wa, wa = (w.alloc (.cells #[.slice B st.length d] 24)).alloc (.cells #[.slice A n.length c] 30) := ⟨_, rfl⟩
  have hz : (w.alloc (.cells #[.slice B st.length d] 24)).heap.size = w.heap.size + 1 := by simp
  have s0 : wa.cell? ⟨w.heap.size, 0, none⟩ = some (.slice B st.length d) := by rw [hwa, World.cell?_alloc_lt _ _ _ (by simp), World.cell?_alloc_new]; rfl
  have a0 : wa.cell? ⟨w.heap.size + 1, 0, none⟩ = some (.slice A n.length c) := by rw [hwa, ← hz, World.cell?_alloc_new]; rfl
  have hba : Below w.heap.size w wa := by rw [hwa]; exact ((Below.refl _ _).alloc (Nat.le_refl _) _).alloc (by simp) _
  obtain ⟨g4, hg4⟩ : ∃ g, g = w.heap.size + 1 := ⟨_, rfl⟩
  rw [← hg4] at a0
  have S0 := hide s0
  have A0 := hide a0
  have HBA := hide hba
  have HWA := hide hwa
  have HG4 := hide hg4
  obtain ⟨q1, hq1⟩ : ∃ x, permitsG st (4, [], n) = x := ⟨_, rfl⟩
  have HQ0 := hide (show ((decide (n.length = 0) || q1) && ((n.all fun r => r.all (mailOk st)) && l.all (permitsG st))) = q by rw [← hq, permitsAllG, hq1])
  have PN := hide (fun W hb => rPermits_any (4, [], n) ⟨#[]⟩ A c st B d rfl ⟨by show ([] : List UInt8).length ≤ 100000; decide, HN.out⟩ HL.out q1 hq1 W (HMX.out.below hb) ((Sl.ok RRdn.ok).below K2.out hb) ((Sl.ok RSub.ok).below K1.out hb))
  have PA := hide (fun (v : ByteArray) (hv : v.size ≤ 100000) (x : Bool) (hx : permitsG st (1, v.data.toList, []) = x) W hb => rPermits_any (1, v.data.toList, []) v none 0 st B d rfl ⟨by show v.data.toList.length ≤ 100000; rw [size_string]; exact hv, nil_small⟩ HL.out x hx W (HMX.out.below hb) (Sl.nil _ _ _ _) ((Sl.ok RSub.ok).below K1.out hb))
  clear hmx hl hn hg h1 h2 h3 hwa hz s0 a0 hba hg4 hq hq1
  go_enter Tryz.func24, Tryz.ntmps24
  go_upto_region 1 with (fail)
  rw [← HWA.out, ← HG4.out]
  have y4 := A0.out
  have y3 := S0.out
  by_cases hn0 : n.length = 0
  · have t1 : ¬ (0 : Int) < (n.length : Int) := by omega
    have H3 := hide (show (((n.drop 0).all fun r => r.all (mailOk st)) && l.all (permitsG st)) = q by rw [← HQ0.out, decide_eq_true hn0]; rfl)
    have HB1 := hide (Below.refl wa.heap.size wa)
    clear hn0
    have y3 := cell_grows HB1.out _ _ S0.out
    have y4 := cell_grows HB1.out _ _ A0.out
    have HW1 := hide (HBA.out.trans (HB1.out.mono HBA.out.size))
    go_wp2_with fail
    go_loopw [27] (fun i wr => ∃ k : Nat, k ≤ n.length ∧ i = .int .i64 k ∧ Below wa.heap.size wa wr ∧ Hid ((((n.drop k).all fun r => r.all (mailOk st)) && l.all (permitsG st)) = q)) (fun i _ => n.length - (intOf i).toNat)
    case atStart => exact ⟨0, Nat.zero_le _, rfl, HB1.out, H3⟩
    case round =>
      obtain ⟨k, hk, rfl, hb, H⟩ := hrel
      have hbw := HBA.out.trans (hb.mono HBA.out.size)
      have HB := hide hb
      have HBW := hide hbw
      clear y3 y4
      by_cases hlt : k < n.length
      · obtain ⟨b2, o2, A2, c2, hA, hbS, d0, hsr⟩ := K2.out.rdnAt hlt
        have hbS' : b2 < w.heap.size := hbS
        have hlt' : (k : Int) < (n.length : Int) := by omega
        have f0 := (hbw.cell (p := ⟨b2, o2 + k, none⟩) hbS').trans d0
        have hsmr : SmallR n[k] := HN.out _ (List.getElem_mem hlt)
        obtain ⟨r, hr⟩ : ∃ r, n[k] = r := ⟨_, rfl⟩
        have H2 := hide (show ((r.drop 0).all (mailOk st) && (((n.drop (k + 1)).all fun r => r.all (mailOk st)) && l.all (permitsG st))) = q by
          rw [← H.out, List.drop_eq_getElem_cons hlt, List.all_cons, hr, Bool.and_assoc, List.drop_zero])
        rw [hr] at f0 hsr hsmr
        have KR := hide hsr
        have HSR := hide hsmr
        have hrl : r.length ≤ 9223372036854775807 := by have h := hsr.len_.2; unfold maxLen at h; omega
        subst hA
        clear hb hbw d0 hsr hsmr hr H
        go_wp2_with fail
        clear f0
        go_loopw [33] (fun i wi => ∃ j : Nat, j ≤ r.length ∧ i = .int .i64 j ∧ Below wa.heap.size wa wi ∧ Hid (((r.drop j).all (mailOk st) && (((n.drop (k + 1)).all fun r => r.all (mailOk st)) && l.all (permitsG st))) = q)) (fun i _ => r.length - (intOf i).toNat)
        case atStart => exact ⟨0, Nat.zero_le _, rfl, HB.out, H2⟩
        case round =>
          obtain ⟨j, hj, rfl, hb, H⟩ := hrel
          have hbw := HBA.out.trans (hb.mono HBA.out.size)
          by_cases hjl : j < r.length
          · obtain ⟨b6, o6, hA6, hbS6, d0, d1, d2⟩ := KR.out.attAt hjl
            subst hA6
            have hbS6' : b6 < w.heap.size := hbS6
            have hjl' : (j : Int) < (r.length : Int) := by omega
            have hsa := HSR.out r[j] (List.getElem_mem hjl)
            have f0 := (hbw.cell (p := ⟨b6, o6 + j * 3, none⟩) hbS6').trans d0
            have f1 : wr.cell? ⟨b6, o6 + j * 3 + 1, none⟩ = some (.int .i64 r[j].2.1) := by rw [Nat.add_assoc]; exact (hbw.cell (p := ⟨b6, o6 + (j * 3 + 1), none⟩) hbS6').trans d1
            have f2 : wr.cell? ⟨b6, o6 + j * 3 + 2, none⟩ = some (.string ⟨r[j].2.2.toArray⟩) := by rw [Nat.add_assoc]; exact (hbw.cell (p := ⟨b6, o6 + (j * 3 + 2), none⟩) hbS6').trans d2
            obtain ⟨ta, hta⟩ : ∃ ta : ByteArray, ta = ⟨r[j].1.toArray⟩ := ⟨_, rfl⟩
            obtain ⟨va, hva⟩ : ∃ va : ByteArray, va = ⟨r[j].2.2.toArray⟩ := ⟨_, rfl⟩
            obtain ⟨ka, hka⟩ : ∃ ka, r[j].2.1 = ka := ⟨_, rfl⟩
            have hvl : va.data.toList = r[j].2.2 := by rw [hva]
            have htl : ta.data.toList = r[j].1 := by rw [hta]
            have hvs : va.size ≤ 100000 := by rw [← size_string, hvl]; exact hsa.2
            obtain ⟨p0, hp0⟩ : ∃ p, (ta.data.toList == oidMail) = p := ⟨_, rfl⟩
            obtain ⟨p1, hp1⟩ : ∃ p, permitsG st (1, va.data.toList, []) = p := ⟨_, rfl⟩
            have HX := hide (show ((!p0 || p1) && ((r.drop (j + 1)).all (mailOk st) && (((n.drop (k + 1)).all fun r => r.all (mailOk st)) && l.all (permitsG st)))) = q by
              rw [← H.out, List.drop_eq_getElem_cons hjl, List.all_cons, mailOk, ← htl, ← hvl, hp0, hp1, Bool.and_assoc])
            rw [← hta] at f0
            rw [hka] at f1
            rw [← hva] at f2
            have hn1 : (p0 = true ∧ ta.toList = [49, 46, 50, 46, 56, 52, 48, 46, 49, 49, 51, 53, 52, 57, 46, 49, 46, 57, 46, 49]) ∨ (p0 = false ∧ ¬ ta.toList = [49, 46, 50, 46, 56, 52, 48, 46, 49, 49, 51, 53, 52, 57, 46, 49, 46, 57, 46, 49]) := by
              rw [ByteArray.toList_eq]
              cases p0
              · exact .inr ⟨rfl, beq_eq_false_iff_ne.1 hp0⟩
              · exact .inl ⟨rfl, eq_of_beq hp0⟩
            have PV := hide (fun W hb => PA.out va hvs p1 hp1 W hb)
            have hbq : Below wr.heap.size wr (wr.alloc (.cells #[.string ta, .int .i64 ka, .string va] 74)) := (Below.refl _ _).alloc (Nat.le_refl _) _
            have hbqa := hb.trans (hbq.mono hb.size)
            have z3 := cell_grows hbqa _ _ S0.out
            have HBQ := hide hbqa
            have HBQW := hide (HBA.out.trans (hbqa.mono HBA.out.size))
            have HN1 := hide hn1
            clear hb hbw d0 d1 d2 hsa hta hva hka hvl htl hp0 hp1 hbq hbqa H hn1 hvs
            have HALL := hide (And.intro hrl hj)
            clear hnl hll hrl hlt hlt' hbS' hbS6' hk hj
            go_upto_region 9 with (fail)
            obtain ⟨hrl, hj⟩ := HALL.out
            clear f0 f1 f2
            rcases HN1.out with ⟨rfl, hn1⟩ | ⟨rfl, hn1⟩
            · go_wp2_with fail
              refine (PV.out _ HBQW.out).mono ?_
              rintro e w6 ⟨rfl, hb6⟩
              have HB6 := hide (HBQ.out.trans (hb6.mono HBQ.out.size))
              have HW6 := hide (HBA.out.trans (HB6.out.mono HBA.out.size))
              clear hb6
              cases p1
              · have HY := hide (show false = q from HX.out)
                go_wp2_with fail
                go_ret
                exact ⟨ret_bool HY.out, HW6.out⟩
              · have HY := hide (show ((r.drop (j + 1)).all (mailOk st) && (((n.drop (k + 1)).all fun r => r.all (mailOk st)) && l.all (permitsG st))) = q from HX.out)
                go_wp2_with fail
                go_roundw
                case rel => exact ⟨j + 1, by omega, by go_num, HB6.out, HY⟩
                case measure => simp [intOf]; omega
            · have HY := hide (show ((r.drop (j + 1)).all (mailOk st) && (((n.drop (k + 1)).all fun r => r.all (mailOk st)) && l.all (permitsG st))) = q from HX.out)
              go_wp2_with fail
              go_roundw
              case rel => exact ⟨j + 1, by omega, by go_num, HBQ.out, HY⟩
              case measure => simp [intOf]; omega
          · have HY := hide (show (((n.drop (k + 1)).all fun r => r.all (mailOk st)) && l.all (permitsG st)) = q by rw [← H.out, List.drop_of_length_le (show r.length ≤ j by omega)]; rfl)
            have HBF := hide hb
            clear hb hbw H
            go_wp2_with fail
            go_roundw
            case rel => exact ⟨k + 1, by omega, by go_num, HBF.out, HY⟩
            case measure => simp [intOf]; omega
      · have H4 := hide (show (l.drop 0).all (permitsG st) = q by rw [← H.out, List.drop_of_length_le (show n.length ≤ k by omega)]; rfl)
        clear hb hbw H
        go_wp2_with fail
        go_loopw [52] (fun i wi => ∃ j : Nat, j ≤ l.length ∧ i = .int .i64 j ∧ Below wa.heap.size wa wi ∧ Hid ((l.drop j).all (permitsG st) = q)) (fun i _ => l.length - (intOf i).toNat)
        case atStart => exact ⟨0, Nat.zero_le _, rfl, HB.out, H4⟩
        case round =>
          obtain ⟨j, hj, rfl, hb, H⟩ := hrel
          have hbw := HBA.out.trans (hb.mono HBA.out.size)
          by_cases hjl : j < l.length
          · obtain ⟨b6, o6, t6, A6, c6, hP, hbS6, ht6, d0, d1, d2, hsl6⟩ := K3.out.genAt hjl
            subst hP
            have hbS6' : b6 < w.heap.size := hbS6
            have hjl' : (j : Int) < (l.length : Int) := by omega
            have hsg := HG.out l[j] (List.getElem_mem hjl)
            have f0 := (hbw.cell (p := ⟨b6, o6 + j * 3, none⟩) hbS6').trans d0
            have f1 := (hbw.cell (p := ⟨b6, o6 + j * 3 + 1, none⟩) hbS6').trans d1
            have f2 := (hbw.cell (p := ⟨b6, o6 + j * 3 + 2, none⟩) hbS6').trans d2
            obtain ⟨g, hg⟩ : ∃ g, l[j] = g := ⟨_, rfl⟩
            rw [hg] at f0 f2 hsl6 ht6 hsg
            obtain ⟨p1, hp1⟩ : ∃ p, permitsG st g = p := ⟨_, rfl⟩
            have HX := hide (show (p1 && (l.drop (j + 1)).all (permitsG st)) = q by rw [← H.out, List.drop_eq_getElem_cons hjl, List.all_cons, hg, hp1])
            obtain ⟨wq, hwq⟩ : ∃ wq, wq = wr.alloc (.cells #[.int .i64 g.1, .string t6, .slice A6 g.2.2.length c6] 32) := ⟨_, rfl⟩
            obtain ⟨c0, c1, c2'⟩ := gen_cells3 hwq
            have hbq : Below wr.heap.size wr wq := by rw [hwq]; exact (Below.refl _ _).alloc (Nat.le_refl _) _
            have hbqa := hb.trans (hbq.mono hb.size)
            have hbqw := HBA.out.trans (hbqa.mono HBA.out.size)
            have PG := hide (rPermits_any g t6 A6 c6 st B d ht6 hsg HL.out p1 hp1 wq (HMX.out.below hbqw) ((Sl.ok RRdn.ok).below hsl6 hbqw) ((Sl.ok RSub.ok).below K1.out hbqw))
            have z3 := cell_grows hbqa _ _ S0.out
            have HBQ := hide hbqa
            have HWQ := hide hwq
            clear hb hbw d0 d1 d2 hsl6 ht6 hsg hg hp1 hwq hbq hbqa hbqw H
            go_upto_region 16 with (fail)
            rw [← HWQ.out]
            clear f0 f1 f2
            go_wp2_with fail
            refine PG.out.mono ?_
            rintro e w6 ⟨rfl, hb6⟩
            have HB6 := hide (HBQ.out.trans (hb6.mono HBQ.out.size))
            have HW6 := hide (HBA.out.trans (HB6.out.mono HBA.out.size))
            clear hb6
            cases p1
            · have HY := hide (show false = q from HX.out)
              go_wp2_with fail
              go_ret
              exact ⟨ret_bool HY.out, HW6.out⟩
            · have HY := hide (show (l.drop (j + 1)).all (permitsG st) = q from HX.out)
              go_wp2_with fail
              go_roundw
              case rel => exact ⟨j + 1, by omega, by go_num, HB6.out, HY⟩
              case measure => simp [intOf]; omega
          · have HY := hide (show true = q by rw [← H.out, List.drop_of_length_le (show l.length ≤ j by omega)]; rfl)
            have HW6 := hide hbw
            clear hb hbw H
            go_wp2_with fail
            go_ret
            exact ⟨ret_bool HY.out, HW6.out⟩
  · have t1 : (0 : Int) < (n.length : Int) := by omega
    have HQ1 := hide (show (q1 && ((n.all fun r => r.all (mailOk st)) && l.all (permitsG st))) = q by rw [← HQ0.out, decide_eq_false hn0]; rfl)
    clear hn0
    go_wp2_with fail
    refine (PN.out _ HBA.out).mono ?_
    rintro e w1 ⟨rfl, hb1⟩
    cases q1
    · have HY := hide (show false = q from HQ1.out)
      go_wp2_with fail
      go_ret
      exact ⟨ret_bool HY.out, HBA.out.trans (hb1.mono HBA.out.size)⟩
    · have H3 := hide (show (((n.drop 0).all fun r => r.all (mailOk st)) && l.all (permitsG st)) = q from HQ1.out)
      have HB1 := hide hb1
      clear hb1 y3 y4
      have y3 := cell_grows HB1.out _ _ S0.out
      have y4 := cell_grows HB1.out _ _ A0.out
      have HW1 := hide (HBA.out.trans (HB1.out.mono HBA.out.size))
      go_wp2_with fail
      go_loopw [27] (fun i wr => ∃ k : Nat, k ≤ n.length ∧ i = .int .i64 k ∧ Below wa.heap.size wa wr ∧ Hid ((((n.drop k).all fun r => r.all (mailOk st)) && l.all (permitsG st)) = q)) (fun i _ => n.length - (intOf i).toNat)
      case atStart => exact ⟨0, Nat.zero_le _, rfl, HB1.out, H3⟩
      case round =>
        obtain ⟨k, hk, rfl, hb, H⟩ := hrel
        have hbw := HBA.out.trans (hb.mono HBA.out.size)
        have HB := hide hb
        have HBW := hide hbw
        clear y3 y4
        by_cases hlt : k < n.length
        · obtain ⟨b2, o2, A2, c2, hA, hbS, d0, hsr⟩ := K2.out.rdnAt hlt
          have hbS' : b2 < w.heap.size := hbS
          have hlt' : (k : Int) < (n.length : Int) := by omega
          have f0 := (hbw.cell (p := ⟨b2, o2 + k, none⟩) hbS').trans d0
          have hsmr : SmallR n[k] := HN.out _ (List.getElem_mem hlt)
          obtain ⟨r, hr⟩ : ∃ r, n[k] = r := ⟨_, rfl⟩
          have H2 := hide (show ((r.drop 0).all (mailOk st) && (((n.drop (k + 1)).all fun r => r.all (mailOk st)) && l.all (permitsG st))) = q by
            rw [← H.out, List.drop_eq_getElem_cons hlt, List.all_cons, hr, Bool.and_assoc, List.drop_zero])
          rw [hr] at f0 hsr hsmr
          have KR := hide hsr
          have HSR := hide hsmr
          have hrl : r.length ≤ 9223372036854775807 := by have h := hsr.len_.2; unfold maxLen at h; omega
          subst hA
          clear hb hbw d0 hsr hsmr hr H
          go_wp2_with fail
          clear f0
          go_loopw [33] (fun i wi => ∃ j : Nat, j ≤ r.length ∧ i = .int .i64 j ∧ Below wa.heap.size wa wi ∧ Hid (((r.drop j).all (mailOk st) && (((n.drop (k + 1)).all fun r => r.all (mailOk st)) && l.all (permitsG st))) = q)) (fun i _ => r.length - (intOf i).toNat)
          case atStart => exact ⟨0, Nat.zero_le _, rfl, HB.out, H2⟩
          case round =>
            obtain ⟨j, hj, rfl, hb, H⟩ := hrel
            have hbw := HBA.out.trans (hb.mono HBA.out.size)
            by_cases hjl : j < r.length
            · obtain ⟨b6, o6, hA6, hbS6, d0, d1, d2⟩ := KR.out.attAt hjl
              subst hA6
              have hbS6' : b6 < w.heap.size := hbS6
              have hjl' : (j : Int) < (r.length : Int) := by omega
              have hsa := HSR.out r[j] (List.getElem_mem hjl)
              have f0 := (hbw.cell (p := ⟨b6, o6 + j * 3, none⟩) hbS6').trans d0
              have f1 : wr.cell? ⟨b6, o6 + j * 3 + 1, none⟩ = some (.int .i64 r[j].2.1) := by rw [Nat.add_assoc]; exact (hbw.cell (p := ⟨b6, o6 + (j * 3 + 1), none⟩) hbS6').trans d1
              have f2 : wr.cell? ⟨b6, o6 + j * 3 + 2, none⟩ = some (.string ⟨r[j].2.2.toArray⟩) := by rw [Nat.add_assoc]; exact (hbw.cell (p := ⟨b6, o6 + (j * 3 + 2), none⟩) hbS6').trans d2
              obtain ⟨ta, hta⟩ : ∃ ta : ByteArray, ta = ⟨r[j].1.toArray⟩ := ⟨_, rfl⟩
              obtain ⟨va, hva⟩ : ∃ va : ByteArray, va = ⟨r[j].2.2.toArray⟩ := ⟨_, rfl⟩
              obtain ⟨ka, hka⟩ : ∃ ka, r[j].2.1 = ka := ⟨_, rfl⟩
              have hvl : va.data.toList = r[j].2.2 := by rw [hva]
              have htl : ta.data.toList = r[j].1 := by rw [hta]
              have hvs : va.size ≤ 100000 := by rw [← size_string, hvl]; exact hsa.2
              obtain ⟨p0, hp0⟩ : ∃ p, (ta.data.toList == oidMail) = p := ⟨_, rfl⟩
              obtain ⟨p1, hp1⟩ : ∃ p, permitsG st (1, va.data.toList, []) = p := ⟨_, rfl⟩
              have HX := hide (show ((!p0 || p1) && ((r.drop (j + 1)).all (mailOk st) && (((n.drop (k + 1)).all fun r => r.all (mailOk st)) && l.all (permitsG st)))) = q by
                rw [← H.out, List.drop_eq_getElem_cons hjl, List.all_cons, mailOk, ← htl, ← hvl, hp0, hp1, Bool.and_assoc])
              rw [← hta] at f0
              rw [hka] at f1
              rw [← hva] at f2
              have hn1 : (p0 = true ∧ ta.toList = [49, 46, 50, 46, 56, 52, 48, 46, 49, 49, 51, 53, 52, 57, 46, 49, 46, 57, 46, 49]) ∨ (p0 = false ∧ ¬ ta.toList = [49, 46, 50, 46, 56, 52, 48, 46, 49, 49, 51, 53, 52, 57, 46, 49, 46, 57, 46, 49]) := by
                rw [ByteArray.toList_eq]
                cases p0
                · exact .inr ⟨rfl, beq_eq_false_iff_ne.1 hp0⟩
                · exact .inl ⟨rfl, eq_of_beq hp0⟩
              have PV := hide (fun W hb => PA.out va hvs p1 hp1 W hb)
              have hbq : Below wr.heap.size wr (wr.alloc (.cells #[.string ta, .int .i64 ka, .string va] 74)) := (Below.refl _ _).alloc (Nat.le_refl _) _
              have hbqa := hb.trans (hbq.mono hb.size)
              have z3 := cell_grows hbqa _ _ S0.out
              have HBQ := hide hbqa
              have HBQW := hide (HBA.out.trans (hbqa.mono HBA.out.size))
              have HN1 := hide hn1
              clear hb hbw d0 d1 d2 hsa hta hva hka hvl htl hp0 hp1 hbq hbqa H hn1 hvs
              have HALL := hide (And.intro hrl hj)
              clear hnl hll hrl hlt hlt' hbS' hbS6' hk hj
              go_upto_region 9 with (fail)
              obtain ⟨hrl, hj⟩ := HALL.out
              clear f0 f1 f2
              rcases HN1.out with ⟨rfl, hn1⟩ | ⟨rfl, hn1⟩
              · go_wp2_with fail
                refine (PV.out _ HBQW.out).mono ?_
                rintro e w6 ⟨rfl, hb6⟩
                have HB6 := hide (HBQ.out.trans (hb6.mono HBQ.out.size))
                have HW6 := hide (HBA.out.trans (HB6.out.mono HBA.out.size))
                clear hb6
                cases p1
                · have HY := hide (show false = q from HX.out)
                  go_wp2_with fail
                  go_ret
                  exact ⟨ret_bool HY.out, HW6.out⟩
                · have HY := hide (show ((r.drop (j + 1)).all (mailOk st) && (((n.drop (k + 1)).all fun r => r.all (mailOk st)) && l.all (permitsG st))) = q from HX.out)
                  go_wp2_with fail
                  go_roundw
                  case rel => exact ⟨j + 1, by omega, by go_num, HB6.out, HY⟩
                  case measure => simp [intOf]; omega
              · have HY := hide (show ((r.drop (j + 1)).all (mailOk st) && (((n.drop (k + 1)).all fun r => r.all (mailOk st)) && l.all (permitsG st))) = q from HX.out)
                go_wp2_with fail
                go_roundw
                case rel => exact ⟨j + 1, by omega, by go_num, HBQ.out, HY⟩
                case measure => simp [intOf]; omega
            · have HY := hide (show (((n.drop (k + 1)).all fun r => r.all (mailOk st)) && l.all (permitsG st)) = q by rw [← H.out, List.drop_of_length_le (show r.length ≤ j by omega)]; rfl)
              have HBF := hide hb
              clear hb hbw H
              go_wp2_with fail
              go_roundw
              case rel => exact ⟨k + 1, by omega, by go_num, HBF.out, HY⟩
              case measure => simp [intOf]; omega
        · have H4 := hide (show (l.drop 0).all (permitsG st) = q by rw [← H.out, List.drop_of_length_le (show n.length ≤ k by omega)]; rfl)
          clear hb hbw H
          go_wp2_with fail
          go_loopw [52] (fun i wi => ∃ j : Nat, j ≤ l.length ∧ i = .int .i64 j ∧ Below wa.heap.size wa wi ∧ Hid ((l.drop j).all (permitsG st) = q)) (fun i _ => l.length - (intOf i).toNat)
          case atStart => exact ⟨0, Nat.zero_le _, rfl, HB.out, H4⟩
          case round =>
            obtain ⟨j, hj, rfl, hb, H⟩ := hrel
            have hbw := HBA.out.trans (hb.mono HBA.out.size)
            by_cases hjl : j < l.length
            · obtain ⟨b6, o6, t6, A6, c6, hP, hbS6, ht6, d0, d1, d2, hsl6⟩ := K3.out.genAt hjl
              subst hP
              have hbS6' : b6 < w.heap.size := hbS6
              have hjl' : (j : Int) < (l.length : Int) := by omega
              have hsg := HG.out l[j] (List.getElem_mem hjl)
              have f0 := (hbw.cell (p := ⟨b6, o6 + j * 3, none⟩) hbS6').trans d0
              have f1 := (hbw.cell (p := ⟨b6, o6 + j * 3 + 1, none⟩) hbS6').trans d1
              have f2 := (hbw.cell (p := ⟨b6, o6 + j * 3 + 2, none⟩) hbS6').trans d2
              obtain ⟨g, hg⟩ : ∃ g, l[j] = g := ⟨_, rfl⟩
              rw [hg] at f0 f2 hsl6 ht6 hsg
              obtain ⟨p1, hp1⟩ : ∃ p, permitsG st g = p := ⟨_, rfl⟩
              have HX := hide (show (p1 && (l.drop (j + 1)).all (permitsG st)) = q by rw [← H.out, List.drop_eq_getElem_cons hjl, List.all_cons, hg, hp1])
              obtain ⟨wq, hwq⟩ : ∃ wq, wq = wr.alloc (.cells #[.int .i64 g.1, .string t6, .slice A6 g.2.2.length c6] 32) := ⟨_, rfl⟩
              obtain ⟨c0, c1, c2'⟩ := gen_cells3 hwq
              have hbq : Below wr.heap.size wr wq := by rw [hwq]; exact (Below.refl _ _).alloc (Nat.le_refl _) _
              have hbqa := hb.trans (hbq.mono hb.size)
              have hbqw := HBA.out.trans (hbqa.mono HBA.out.size)
              have PG := hide (rPermits_any g t6 A6 c6 st B d ht6 hsg HL.out p1 hp1 wq (HMX.out.below hbqw) ((Sl.ok RRdn.ok).below hsl6 hbqw) ((Sl.ok RSub.ok).below K1.out hbqw))
              have z3 := cell_grows hbqa _ _ S0.out
              have HBQ := hide hbqa
              have HWQ := hide hwq
              clear hb hbw d0 d1 d2 hsl6 ht6 hsg hg hp1 hwq hbq hbqa hbqw H
              go_upto_region 16 with (fail)
              rw [← HWQ.out]
              clear f0 f1 f2
              go_wp2_with fail
              refine PG.out.mono ?_
              rintro e w6 ⟨rfl, hb6⟩
              have HB6 := hide (HBQ.out.trans (hb6.mono HBQ.out.size))
              have HW6 := hide (HBA.out.trans (HB6.out.mono HBA.out.size))
              clear hb6
              cases p1
              · have HY := hide (show false = q from HX.out)
                go_wp2_with fail
                go_ret
                exact ⟨ret_bool HY.out, HW6.out⟩
              · have HY := hide (show (l.drop (j + 1)).all (permitsG st) = q from HX.out)
                go_wp2_with fail
                go_roundw
                case rel => exact ⟨j + 1, by omega, by go_num, HB6.out, HY⟩
                case measure => simp [intOf]; omega
            · have HY := hide (show true = q by rw [← H.out, List.drop_of_length_le (show l.length ≤ j by omega)]; rfl)
              have HW6 := hide hbw
              clear hb hbw H
              go_wp2_with fail
              go_ret
              exact ⟨ret_bool HY.out, HW6.out⟩
end Go.Proofs.YtodapmkdmkhhfaaGreatDoor
