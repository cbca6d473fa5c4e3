/- General names as text: the program's Parse. -/
import Derived.Test.YtmgnihmjjijdoaaGreatDoorGtC
import Derived.Test.YtmgnihmjjijdoaaGreatDoorGGcA
import Derived.Test.YtmgnihmjjijdoaaGreatDoorGNamR
import Derived.Test.YtmgnihmjjijdoaaGreatDoorGNenI
namespace Go.Proofs.YtmgnihmjjijdoaaGreatDoor
open Go.RowKit
def pk3 (s : List UInt8) : Int × Gen := if Lib.hasPrefix s wIp then finT 7 (unhexL (s.drop 3)) else (32, zeroG)
def pk2 (s : List UInt8) : Int × Gen := if Lib.hasPrefix s wDir then finD (parseP (s.drop 4)) else pk3 s
def pk1 (s : List UInt8) : Int × Gen := if Lib.hasPrefix s wDns then finT 2 (unesc (s.drop 4)) else pk2 s
def pkN : Nat → List UInt8 → Int × Gen
 | 0, s => parseG s
 | 1, s => pk1 s
 | 2, s => pk2 s
 | 3, s => pk3 s
 | _, _ => (32, zeroG)
theorem parseG_eq (s : List UInt8) : parseG s = if Lib.hasPrefix s wMail then finT 1 (unesc (s.drop 5)) else pk1 s := rfl
theorem trim_drop {s p : List UInt8} (h : Lib.hasPrefix s p = true) : Lib.trimPrefix s p = s.drop p.length := by
 unfold Lib.trimPrefix
 rw [if_pos h]
set_option maxRecDepth 100000 in
set_option maxHeartbeats 1000000 in
theorem number_0 (w : World) : Calls Tryz.prog 36 #[.int .i64 0] w fun e w' => e = .returned (.int .i64 1) ∧ Below w.heap.size w w' := by
 have hix : ∀ W, (Instr.index 103 (.agg #[.int .i64 1, .int .i64 2, .int .i64 4, .int .i64 7, .int .i64 0]) (.int .i64 0)).run Tryz.prog W = .ok (.int .i64 1) W := fun W => by kernel_rfl
 go_enter Tryz.func36, Tryz.ntmps36
 go_wp2_with fail
 go_ret
 exact ⟨rfl, Below.refl _ _⟩
set_option maxRecDepth 100000 in
set_option maxHeartbeats 1000000 in
theorem number_1 (w : World) : Calls Tryz.prog 36 #[.int .i64 1] w fun e w' => e = .returned (.int .i64 2) ∧ Below w.heap.size w w' := by
 have hix : ∀ W, (Instr.index 103 (.agg #[.int .i64 1, .int .i64 2, .int .i64 4, .int .i64 7, .int .i64 0]) (.int .i64 1)).run Tryz.prog W = .ok (.int .i64 2) W := fun W => by kernel_rfl
 go_enter Tryz.func36, Tryz.ntmps36
 go_wp2_with fail
 go_ret
 exact ⟨rfl, Below.refl _ _⟩
set_option maxRecDepth 100000 in
set_option maxHeartbeats 1000000 in
theorem number_2 (w : World) : Calls Tryz.prog 36 #[.int .i64 2] w fun e w' => e = .returned (.int .i64 4) ∧ Below w.heap.size w w' := by
 have hix : ∀ W, (Instr.index 103 (.agg #[.int .i64 1, .int .i64 2, .int .i64 4, .int .i64 7, .int .i64 0]) (.int .i64 2)).run Tryz.prog W = .ok (.int .i64 4) W := fun W => by kernel_rfl
 go_enter Tryz.func36, Tryz.ntmps36
 go_wp2_with fail
 go_ret
 exact ⟨rfl, Below.refl _ _⟩
set_option maxRecDepth 100000 in
set_option maxHeartbeats 1000000 in
theorem number_3 (w : World) : Calls Tryz.prog 36 #[.int .i64 3] w fun e w' => e = .returned (.int .i64 7) ∧ Below w.heap.size w w' := by
 have hix : ∀ W, (Instr.index 103 (.agg #[.int .i64 1, .int .i64 2, .int .i64 4, .int .i64 7, .int .i64 0]) (.int .i64 3)).run Tryz.prog W = .ok (.int .i64 7) W := fun W => by kernel_rfl
 go_enter Tryz.func36, Tryz.ntmps36
 go_wp2_with fail
 go_ret
 exact ⟨rfl, Below.refl _ _⟩
def pE (o : Int × Gen) : Except Int Gen := if o.1 = 0 then .ok o.2 else .error o.1
theorem finT_no (k : Int) : finT k none = (32, zeroG) := rfl
theorem finT_bad {k : Int} {t : List UInt8} (h1 : chkG (k, t, []) false ≠ 0) (h2 : chkG (k, t, []) true ≠ 0) : finT k (some t) = (chkG (k, t, []) false, zeroG) := if_pos ⟨h1, h2⟩
theorem finT_ok {k : Int} {t : List UInt8} (h : chkG (k, t, []) false = 0 ∨ chkG (k, t, []) true = 0) : finT k (some t) = (0, (k, t, [])) := if_neg (fun hh => by rcases h with h | h; exact hh.1 h; exact hh.2 h)
theorem unhexL_len : ∀ {l u : List UInt8}, unhexL l = some u → u.length ≤ l.length
  | [], u, h => by cases h; simp
  | [_], u, h => by cases h
  | a :: b :: l, u, h => by
    unfold unhexL at h
    split at h
    · cases h
    · obtain ⟨v, hv, rfl⟩ := Option.map_eq_some_iff.1 h
      have := unhexL_len hv
      simp; omega
theorem GpPost.zero {w : World} {k : Int} {o : Int × Gen} {e : Ending} {w' : World} (ho : o = (k, zeroG)) (he : e = .returned (.tuple #[.agg #[.int .i64 0, .string ⟨#[]⟩, .slice none 0 0], .int .i64 k])) (hb : Below w.heap.size w w') : DecGPost w o e w' := by
 subst ho
 exact ⟨⟨#[]⟩, none, 0, he, rfl, Sl.nil _ _ _ _, hb, by show ([] : List UInt8).length ≤ 1000000; decide, nil_small⟩
theorem GpPost.text {w : World} {k : Int} {t : ByteArray} {o : Int × Gen} {e : Ending} {w' : World} (ho : o = (0, (k, t.data.toList, []))) (he : e = .returned (.tuple #[.agg #[.int .i64 k, .string t, .slice none 0 0], .int .i64 0])) (hb : Below w.heap.size w w') (hts : t.size ≤ 1000000) : DecGPost w o e w' := by
 subst ho
 exact ⟨t, none, 0, he, rfl, Sl.nil _ _ _ _, hb, by show t.data.toList.length ≤ 1000000; rw [size_string]; exact hts, nil_small⟩
theorem GB.fin0 {w W : World} {gR : Nat} {k : Int} {t : ByteArray} {v : Value} (h : GB gR k t v W) (hb : Below w.heap.size w W) (hR : w.heap.size ≤ gR) :
  ∃ W', W' = ((W.setCell ⟨gR, 0, none⟩ (.int .i64 0)).setCell ⟨gR, 1, none⟩ (.string ⟨#[]⟩)).setCell ⟨gR, 2, none⟩ (.slice none 0 0) ∧ GB gR 0 ⟨#[]⟩ (.slice none 0 0) W' ∧ Below w.heap.size w W' := by
 refine ⟨_, rfl, h.store _ _ _, ((hb.setCell (p := ⟨gR, 0, none⟩) hR _).setCell (p := ⟨gR, 1, none⟩) hR _).setCell (p := ⟨gR, 2, none⟩) hR _⟩
theorem parseP_chk {s : List UInt8} {n : Name} (h : parseP s = (0, n)) : chkG (4, [], n) false = 0 := by
 have h2 : chkN n = 0 := by
  unfold parseP at h
  split at h
  ·cases h; rfl
  ·unfold parseF at h
   split at h
   ·cases h
   ·split at h
    ·cases h; assumption
    ·have := congrArg Prod.fst h; contradiction
 rw [chkG, if_pos rfl, if_pos rfl]; exact h2
set_option maxRecDepth 100000 in
set_option maxHeartbeats 16000000 in
theorem gParse_any (s : ByteArray) (hs : s.size ≤ 100000) (w : World) (hmx : Mx w) : Calls Tryz.prog 11 #[.string s] w (DecGPost w (parseG s.data.toList)) := by
  have HMX := hide hmx
  obtain ⟨o, ho⟩ : ∃ o, parseG s.data.toList = o := ⟨_, rfl⟩
  rw [ho]
  have HP0 := hide (show pkN 0 s.data.toList = o from ho)
  obtain ⟨W0, hW0⟩ : ∃ W, W = w.alloc (.cells #[.int .i64 0, .string ⟨#[]⟩, .slice none 0 0] 26) := ⟨_, rfl⟩
  have hg0 : GB w.heap.size 0 ⟨#[]⟩ (.slice none 0 0) W0 := by rw [hW0]; exact heap_alloc_new w _
  have hb0 : Below w.heap.size w W0 := by rw [hW0]; exact (Below.refl _ _).alloc (Nat.le_refl _) _
  obtain ⟨gR, hgR⟩ : ∃ g, w.heap.size = g := ⟨_, rfl⟩
  have hgRw : w.heap.size ≤ gR := by omega
  rw [hgR] at hg0
  have HG0 := hide hg0
  have HB0 := hide hb0
  clear hmx ho hg0 hb0
  go_enter Tryz.func11, Tryz.ntmps11
  go_upto_region 1 with fail
  rw [← hW0]
  try rw [hgR]
  clear hW0 hgR
  go_wp2_with fail
  go_loopw [4] (fun kv wr => ∃ k : Nat, k ≤ 4 ∧ kv = .int .i64 k ∧ Below w.heap.size w wr ∧ GB gR 0 ⟨#[]⟩ (.slice none 0 0) wr ∧ Hid (pkN k s.data.toList = o)) (fun kv _ => 4 - (intOf kv).toNat)
  case atStart => exact ⟨0, by omega, rfl, HB0.out, HG0.out, HP0⟩
  case round =>
    obtain ⟨k, hk, rfl, hb, hgr, HP⟩ := hrel
    have HB := hide hb
    have HGR := hide hgr
    match k, hk with
    | 0, _ =>
      obtain ⟨w0, rfl⟩ : ∃ wo : World, wo = wr := ⟨_, rfl⟩
      obtain ⟨rest, hrest⟩ : ∃ x : ByteArray, x = ⟨(Lib.trimPrefix s.data.toList wMail).toArray⟩ := ⟨_, rfl⟩
      obtain ⟨pf, hpf⟩ : ∃ p, Lib.hasPrefix s.data.toList wMail = p := ⟨_, rfl⟩
      have HCP := hide (show ∀ W : World, Calls Tryz.prog 35 #[.string s, .string bMailW] W fun e w' => e = .returned (.tuple #[.string rest, .bool pf]) ∧ w' = W from fun W => by
        have := Tryz.strings_CutPrefix s bMailW W
        rw [show (bMailW).data.toList = wMail from rfl, ← hrest, hpf] at this
        exact this)
      have HPF := hide hpf
      have HREST := hide hrest
      clear hrest hpf hb hgr
      go_wp2_with fail
      refine (word_0 w0).mono ?_
      rintro e w2 ⟨rfl, hb2⟩
      have HG2 := hide (HGR.out.below hb2)
      have HB2 := hide (HB.out.trans (hb2.mono HB.out.size))
      clear hb2
      go_wp2_with fail
      refine (HCP.out w2).mono ?_
      rintro e w3 ⟨rfl, rfl⟩
      cases pf
      · have HN := hide (show pkN (0 + 1) s.data.toList = o by
          rw [← HP.out]
          first
          | (show pk1 _ = parseG _; rw [parseG_eq, HPF.out]; rfl)
          | (show pk2 _ = pk1 _; rw [pk1, HPF.out]; rfl)
          | (show (32, zeroG) = pk3 _; rw [pk3, HPF.out]; rfl))
        go_wp2_with fail
        go_roundw
        case rel => exact ⟨0 + 1, by omega, rfl, HB2.out, HG2.out, HN⟩
        case measure => simp [intOf]
      · have hrl : rest.data.toList = s.data.toList.drop 5 := by rw [HREST.out, trim_drop HPF.out]; rfl
        have hrs : rest.size ≤ 100000 := by
          rw [← size_string, hrl, List.length_drop, size_string]; omega
        have HO := hide (show finT 1 (unesc rest.data.toList) = o by
          rw [← HP.out, hrl]
          first
          | (show _ = parseG _; rw [parseG_eq, HPF.out]; rfl)
          | (show _ = pk1 _; rw [pk1, HPF.out]; rfl)
          | (show _ = pk3 _; rw [pk3, HPF.out]; rfl))
        clear hrl
        go_wp2_with fail
        refine (number_0 _).mono ?_
        rintro e w4 ⟨rfl, hb4⟩
        have HG4 := hide (HG2.out.below hb4)
        have HB4 := hide (HB2.out.trans (hb4.mono HB2.out.size))
        obtain ⟨w5, hw5⟩ : ∃ W, W = w4.alloc (.cells #[.int .i64 1, .string ⟨#[]⟩, .slice none 0 0] 26) := ⟨_, rfl⟩
        have hb45 : Below w4.heap.size w4 w5 := by rw [hw5]; exact (Below.refl _ _).alloc (Nat.le_refl _) _
        have hg5 : GB w4.heap.size 1 ⟨#[]⟩ (.slice none 0 0) w5 := by rw [hw5]; exact heap_alloc_new w4 _
        obtain ⟨gG, hgG⟩ : ∃ g, w4.heap.size = g := ⟨_, rfl⟩
        have hgRG : gR < gG := by rw [← hgG]; exact HG4.out.lt
        rw [hgG] at hg5
        have HD := hide (show DSt w gR gG 1 ⟨#[]⟩ (.slice none 0 0) w5 from ⟨HB4.out.trans (hb45.mono HB4.out.size), HG4.out.below hb45, hg5, hgRw, hgRG⟩)
        clear hb4 hb45 hg5
        go_upto_region 9 with fail
        rw [← hw5]
        try rw [hgG]
        clear hw5 hgG
        cases hopt : unesc rest.data.toList with
        | none =>
          have HCU := hide (show Calls Tryz.prog 39 #[.string rest] w5 fun e w' => e = .returned (.tuple #[.string ⟨#[]⟩, .bool false]) ∧ Below w5.heap.size w5 w' by
            have := Unescape_any rest (by omega) w5
            rw [hopt] at this
            exact this)
          have HZ := hide (show o = (32, zeroG) by rw [← HO.out, hopt]; rfl)
          clear hopt
          go_wp2_with fail
          refine HCU.out.mono ?_
          rintro e w6 ⟨rfl, hb6⟩
          have HD6 := hide (HD.out.grow hb6)
          obtain ⟨g0, g1, g2, gf0, gf1, gf2⟩ := HD6.out.g.facts
          have HDz := hide (HD6.out.set1 ⟨#[]⟩)
          clear hb6
          obtain ⟨r0, r1, r2, rf0, rf1, rf2⟩ := HDz.out.r.facts
          go_wp2_with fail
          obtain ⟨W9, hW9, hgb9, hb9⟩ := HDz.out.fin0
          obtain ⟨q0, q1, q2, -⟩ := hgb9.facts
          try rw [← hW9]
          exact bodyPost_ret (v := .tuple #[.agg #[.int .i64 0, .string ⟨#[]⟩, .slice none 0 0], .int .i64 32]) (by simp [results, Tryz.results11, go_sem, q0, q1, q2]) rfl (GpPost.zero HZ.out rfl hb9)
        | some u =>
          obtain ⟨ts, hts⟩ : ∃ x : ByteArray, x = ⟨u.toArray⟩ := ⟨_, rfl⟩
          have htl : u = ts.data.toList := by rw [hts]
          have HCU := hide (show Calls Tryz.prog 39 #[.string rest] w5 fun e w' => e = .returned (.tuple #[.string ts, .bool true]) ∧ Below w5.heap.size w5 w' by
            have := Unescape_any rest (by omega) w5
            rw [hopt] at this
            rw [hts]
            exact this)
          have htss : ts.size ≤ 1000000 := by
            have h9 := unesc_len hopt
            rw [size_string] at h9
            rw [hts, ba_mk]
            omega
          have HO2 := hide (show finT 1 (some ts.data.toList) = o by rw [← htl, ← hopt]; exact HO.out)
          clear hopt hts htl
          go_wp2_with fail
          refine HCU.out.mono ?_
          rintro e w6 ⟨rfl, hb6⟩
          have HD6 := hide (HD.out.grow hb6)
          obtain ⟨g0, g1, g2, gf0, gf1, gf2⟩ := HD6.out.g.facts
          obtain ⟨w7, hw7⟩ : ∃ W, W = w6.setCell ⟨gG, 1, none⟩ (.string ts) := ⟨_, rfl⟩
          have HD7 := hide (show DSt w gR gG 1 ts (.slice none 0 0) w7 by rw [hw7]; exact HD6.out.set1 ts)
          obtain ⟨q, hq⟩ : ∃ q, chkG (1, ts.data.toList, []) false = q := ⟨_, rfl⟩
          obtain ⟨p, hp⟩ : ∃ q, chkG (1, ts.data.toList, []) true = q := ⟨_, rfl⟩
          have HCK := hide (gCheck_any 1 ts [] false none 0 htss nil_small q hq w7 (HMX.out.below HD7.out.below) (Sl.nil _ _ _ _))
          have HQ := hide hq
          have HPP := hide hp
          clear hb6 hq hp
          go_upto_region 17 with fail
          rw [← hw7]
          clear hw7 g0 g1 g2 gf0 gf1 gf2
          obtain ⟨g0, g1, g2, -, -, -⟩ := HD7.out.g.facts
          go_wp2_with fail
          refine HCK.out.mono ?_
          rintro e w8 ⟨rfl, hb8⟩
          have HD8 := hide (HD7.out.grow hb8)
          have HCK2 := hide (gCheck_any 1 ts [] true none 0 htss nil_small p HPP.out w8 (HMX.out.below HD8.out.below) (Sl.nil _ _ _ _))
          clear hb8 g0 g1 g2
          by_cases hq0 : q = 0
          · have hqf : (q != 0) = false := by simp [hq0]
            have HOK := hide (show o = (0, (1, ts.data.toList, [])) by rw [← HO2.out, finT_ok (.inl (HQ.out.trans hq0))])
            clear hq0
            obtain ⟨g0, g1, g2, -, -, -⟩ := HD8.out.g.facts
            obtain ⟨r0, r1, r2, rf0, rf1, rf2⟩ := HD8.out.r.facts
            go_wp2_with fail
            obtain ⟨W9, hW9, hgb9, hb9, hsl9⟩ := HD8.out.fin 1 ts [] none 0 (Sl.nil _ _ _ _)
            try simp only [List.length_nil] at hW9 hgb9
            obtain ⟨q0, q1, q2, -⟩ := hgb9.facts
            try rw [← hW9]
            exact bodyPost_ret (v := .tuple #[.agg #[.int .i64 1, .string ts, .slice none 0 0], .int .i64 0]) (by simp [results, Tryz.results11, go_sem, q0, q1, q2]) rfl (GpPost.text HOK.out rfl hb9 htss)
          · have hqt : (q != 0) = true := by simp [hq0]
            have HQ0 := hide hq0
            clear hq0
            obtain ⟨g0, g1, g2, -, -, -⟩ := HD8.out.g.facts
            go_wp2_with fail
            refine HCK2.out.mono ?_
            rintro e w9 ⟨rfl, hb9⟩
            have HD9 := hide (HD8.out.grow hb9)
            clear hb9 g0 g1 g2
            by_cases hp0 : p = 0
            · have hpf : (p != 0) = false := by simp [hp0]
              have HOK := hide (show o = (0, (1, ts.data.toList, [])) by rw [← HO2.out, finT_ok (.inr (HPP.out.trans hp0))])
              clear hp0
              obtain ⟨g0, g1, g2, -, -, -⟩ := HD9.out.g.facts
              obtain ⟨r0, r1, r2, rf0, rf1, rf2⟩ := HD9.out.r.facts
              go_wp2_with fail
              obtain ⟨W9, hW9, hgb9, hb9, hsl9⟩ := HD9.out.fin 1 ts [] none 0 (Sl.nil _ _ _ _)
              try simp only [List.length_nil] at hW9 hgb9
              obtain ⟨q0, q1, q2, -⟩ := hgb9.facts
              try rw [← hW9]
              exact bodyPost_ret (v := .tuple #[.agg #[.int .i64 1, .string ts, .slice none 0 0], .int .i64 0]) (by simp [results, Tryz.results11, go_sem, q0, q1, q2]) rfl (GpPost.text HOK.out rfl hb9 htss)
            · have hpt : (p != 0) = true := by simp [hp0]
              have HZ := hide (show o = (q, zeroG) by rw [← HO2.out, finT_bad (by rw [HQ.out]; exact HQ0.out) (by rw [HPP.out]; exact hp0), HQ.out])
              clear hp0
              have HDz := HD9
              obtain ⟨r0, r1, r2, rf0, rf1, rf2⟩ := HDz.out.r.facts
              go_wp2_with fail
              obtain ⟨W9, hW9, hgb9, hb9⟩ := HDz.out.fin0
              obtain ⟨q0, q1, q2, -⟩ := hgb9.facts
              try rw [← hW9]
              exact bodyPost_ret (v := .tuple #[.agg #[.int .i64 0, .string ⟨#[]⟩, .slice none 0 0], .int .i64 q]) (by simp [results, Tryz.results11, go_sem, q0, q1, q2]) rfl (GpPost.zero HZ.out rfl hb9)
    | 1, _ =>
      obtain ⟨w0, rfl⟩ : ∃ wo : World, wo = wr := ⟨_, rfl⟩
      obtain ⟨rest, hrest⟩ : ∃ x : ByteArray, x = ⟨(Lib.trimPrefix s.data.toList wDns).toArray⟩ := ⟨_, rfl⟩
      obtain ⟨pf, hpf⟩ : ∃ p, Lib.hasPrefix s.data.toList wDns = p := ⟨_, rfl⟩
      have HCP := hide (show ∀ W : World, Calls Tryz.prog 35 #[.string s, .string bDnsW] W fun e w' => e = .returned (.tuple #[.string rest, .bool pf]) ∧ w' = W from fun W => by
        have := Tryz.strings_CutPrefix s bDnsW W
        rw [show (bDnsW).data.toList = wDns from rfl, ← hrest, hpf] at this
        exact this)
      have HPF := hide hpf
      have HREST := hide hrest
      clear hrest hpf hb hgr
      go_wp2_with fail
      refine (word_1 w0).mono ?_
      rintro e w2 ⟨rfl, hb2⟩
      have HG2 := hide (HGR.out.below hb2)
      have HB2 := hide (HB.out.trans (hb2.mono HB.out.size))
      clear hb2
      go_wp2_with fail
      refine (HCP.out w2).mono ?_
      rintro e w3 ⟨rfl, rfl⟩
      cases pf
      · have HN := hide (show pkN (1 + 1) s.data.toList = o by
          rw [← HP.out]
          first
          | (show pk1 _ = parseG _; rw [parseG_eq, HPF.out]; rfl)
          | (show pk2 _ = pk1 _; rw [pk1, HPF.out]; rfl)
          | (show (32, zeroG) = pk3 _; rw [pk3, HPF.out]; rfl))
        go_wp2_with fail
        go_roundw
        case rel => exact ⟨1 + 1, by omega, rfl, HB2.out, HG2.out, HN⟩
        case measure => simp [intOf]
      · have hrl : rest.data.toList = s.data.toList.drop 4 := by rw [HREST.out, trim_drop HPF.out]; rfl
        have hrs : rest.size ≤ 100000 := by
          rw [← size_string, hrl, List.length_drop, size_string]; omega
        have HO := hide (show finT 2 (unesc rest.data.toList) = o by
          rw [← HP.out, hrl]
          first
          | (show _ = parseG _; rw [parseG_eq, HPF.out]; rfl)
          | (show _ = pk1 _; rw [pk1, HPF.out]; rfl)
          | (show _ = pk3 _; rw [pk3, HPF.out]; rfl))
        clear hrl
        go_wp2_with fail
        refine (number_1 _).mono ?_
        rintro e w4 ⟨rfl, hb4⟩
        have HG4 := hide (HG2.out.below hb4)
        have HB4 := hide (HB2.out.trans (hb4.mono HB2.out.size))
        obtain ⟨w5, hw5⟩ : ∃ W, W = w4.alloc (.cells #[.int .i64 2, .string ⟨#[]⟩, .slice none 0 0] 26) := ⟨_, rfl⟩
        have hb45 : Below w4.heap.size w4 w5 := by rw [hw5]; exact (Below.refl _ _).alloc (Nat.le_refl _) _
        have hg5 : GB w4.heap.size 2 ⟨#[]⟩ (.slice none 0 0) w5 := by rw [hw5]; exact heap_alloc_new w4 _
        obtain ⟨gG, hgG⟩ : ∃ g, w4.heap.size = g := ⟨_, rfl⟩
        have hgRG : gR < gG := by rw [← hgG]; exact HG4.out.lt
        rw [hgG] at hg5
        have HD := hide (show DSt w gR gG 2 ⟨#[]⟩ (.slice none 0 0) w5 from ⟨HB4.out.trans (hb45.mono HB4.out.size), HG4.out.below hb45, hg5, hgRw, hgRG⟩)
        clear hb4 hb45 hg5
        go_upto_region 9 with fail
        rw [← hw5]
        try rw [hgG]
        clear hw5 hgG
        cases hopt : unesc rest.data.toList with
        | none =>
          have HCU := hide (show Calls Tryz.prog 39 #[.string rest] w5 fun e w' => e = .returned (.tuple #[.string ⟨#[]⟩, .bool false]) ∧ Below w5.heap.size w5 w' by
            have := Unescape_any rest (by omega) w5
            rw [hopt] at this
            exact this)
          have HZ := hide (show o = (32, zeroG) by rw [← HO.out, hopt]; rfl)
          clear hopt
          go_wp2_with fail
          refine HCU.out.mono ?_
          rintro e w6 ⟨rfl, hb6⟩
          have HD6 := hide (HD.out.grow hb6)
          obtain ⟨g0, g1, g2, gf0, gf1, gf2⟩ := HD6.out.g.facts
          have HDz := hide (HD6.out.set1 ⟨#[]⟩)
          clear hb6
          obtain ⟨r0, r1, r2, rf0, rf1, rf2⟩ := HDz.out.r.facts
          go_wp2_with fail
          obtain ⟨W9, hW9, hgb9, hb9⟩ := HDz.out.fin0
          obtain ⟨q0, q1, q2, -⟩ := hgb9.facts
          try rw [← hW9]
          exact bodyPost_ret (v := .tuple #[.agg #[.int .i64 0, .string ⟨#[]⟩, .slice none 0 0], .int .i64 32]) (by simp [results, Tryz.results11, go_sem, q0, q1, q2]) rfl (GpPost.zero HZ.out rfl hb9)
        | some u =>
          obtain ⟨ts, hts⟩ : ∃ x : ByteArray, x = ⟨u.toArray⟩ := ⟨_, rfl⟩
          have htl : u = ts.data.toList := by rw [hts]
          have HCU := hide (show Calls Tryz.prog 39 #[.string rest] w5 fun e w' => e = .returned (.tuple #[.string ts, .bool true]) ∧ Below w5.heap.size w5 w' by
            have := Unescape_any rest (by omega) w5
            rw [hopt] at this
            rw [hts]
            exact this)
          have htss : ts.size ≤ 1000000 := by
            have h9 := unesc_len hopt
            rw [size_string] at h9
            rw [hts, ba_mk]
            omega
          have HO2 := hide (show finT 2 (some ts.data.toList) = o by rw [← htl, ← hopt]; exact HO.out)
          clear hopt hts htl
          go_wp2_with fail
          refine HCU.out.mono ?_
          rintro e w6 ⟨rfl, hb6⟩
          have HD6 := hide (HD.out.grow hb6)
          obtain ⟨g0, g1, g2, gf0, gf1, gf2⟩ := HD6.out.g.facts
          obtain ⟨w7, hw7⟩ : ∃ W, W = w6.setCell ⟨gG, 1, none⟩ (.string ts) := ⟨_, rfl⟩
          have HD7 := hide (show DSt w gR gG 2 ts (.slice none 0 0) w7 by rw [hw7]; exact HD6.out.set1 ts)
          obtain ⟨q, hq⟩ : ∃ q, chkG (2, ts.data.toList, []) false = q := ⟨_, rfl⟩
          obtain ⟨p, hp⟩ : ∃ q, chkG (2, ts.data.toList, []) true = q := ⟨_, rfl⟩
          have HCK := hide (gCheck_any 2 ts [] false none 0 htss nil_small q hq w7 (HMX.out.below HD7.out.below) (Sl.nil _ _ _ _))
          have HQ := hide hq
          have HPP := hide hp
          clear hb6 hq hp
          go_upto_region 17 with fail
          rw [← hw7]
          clear hw7 g0 g1 g2 gf0 gf1 gf2
          obtain ⟨g0, g1, g2, -, -, -⟩ := HD7.out.g.facts
          go_wp2_with fail
          refine HCK.out.mono ?_
          rintro e w8 ⟨rfl, hb8⟩
          have HD8 := hide (HD7.out.grow hb8)
          have HCK2 := hide (gCheck_any 2 ts [] true none 0 htss nil_small p HPP.out w8 (HMX.out.below HD8.out.below) (Sl.nil _ _ _ _))
          clear hb8 g0 g1 g2
          by_cases hq0 : q = 0
          · have hqf : (q != 0) = false := by simp [hq0]
            have HOK := hide (show o = (0, (2, ts.data.toList, [])) by rw [← HO2.out, finT_ok (.inl (HQ.out.trans hq0))])
            clear hq0
            obtain ⟨g0, g1, g2, -, -, -⟩ := HD8.out.g.facts
            obtain ⟨r0, r1, r2, rf0, rf1, rf2⟩ := HD8.out.r.facts
            go_wp2_with fail
            obtain ⟨W9, hW9, hgb9, hb9, hsl9⟩ := HD8.out.fin 2 ts [] none 0 (Sl.nil _ _ _ _)
            try simp only [List.length_nil] at hW9 hgb9
            obtain ⟨q0, q1, q2, -⟩ := hgb9.facts
            try rw [← hW9]
            exact bodyPost_ret (v := .tuple #[.agg #[.int .i64 2, .string ts, .slice none 0 0], .int .i64 0]) (by simp [results, Tryz.results11, go_sem, q0, q1, q2]) rfl (GpPost.text HOK.out rfl hb9 htss)
          · have hqt : (q != 0) = true := by simp [hq0]
            have HQ0 := hide hq0
            clear hq0
            obtain ⟨g0, g1, g2, -, -, -⟩ := HD8.out.g.facts
            go_wp2_with fail
            refine HCK2.out.mono ?_
            rintro e w9 ⟨rfl, hb9⟩
            have HD9 := hide (HD8.out.grow hb9)
            clear hb9 g0 g1 g2
            by_cases hp0 : p = 0
            · have hpf : (p != 0) = false := by simp [hp0]
              have HOK := hide (show o = (0, (2, ts.data.toList, [])) by rw [← HO2.out, finT_ok (.inr (HPP.out.trans hp0))])
              clear hp0
              obtain ⟨g0, g1, g2, -, -, -⟩ := HD9.out.g.facts
              obtain ⟨r0, r1, r2, rf0, rf1, rf2⟩ := HD9.out.r.facts
              go_wp2_with fail
              obtain ⟨W9, hW9, hgb9, hb9, hsl9⟩ := HD9.out.fin 2 ts [] none 0 (Sl.nil _ _ _ _)
              try simp only [List.length_nil] at hW9 hgb9
              obtain ⟨q0, q1, q2, -⟩ := hgb9.facts
              try rw [← hW9]
              exact bodyPost_ret (v := .tuple #[.agg #[.int .i64 2, .string ts, .slice none 0 0], .int .i64 0]) (by simp [results, Tryz.results11, go_sem, q0, q1, q2]) rfl (GpPost.text HOK.out rfl hb9 htss)
            · have hpt : (p != 0) = true := by simp [hp0]
              have HZ := hide (show o = (q, zeroG) by rw [← HO2.out, finT_bad (by rw [HQ.out]; exact HQ0.out) (by rw [HPP.out]; exact hp0), HQ.out])
              clear hp0
              have HDz := HD9
              obtain ⟨r0, r1, r2, rf0, rf1, rf2⟩ := HDz.out.r.facts
              go_wp2_with fail
              obtain ⟨W9, hW9, hgb9, hb9⟩ := HDz.out.fin0
              obtain ⟨q0, q1, q2, -⟩ := hgb9.facts
              try rw [← hW9]
              exact bodyPost_ret (v := .tuple #[.agg #[.int .i64 0, .string ⟨#[]⟩, .slice none 0 0], .int .i64 q]) (by simp [results, Tryz.results11, go_sem, q0, q1, q2]) rfl (GpPost.zero HZ.out rfl hb9)
    | 2, _ =>
      obtain ⟨w0, rfl⟩ : ∃ wo : World, wo = wr := ⟨_, rfl⟩
      obtain ⟨rest, hrest⟩ : ∃ x : ByteArray, x = ⟨(Lib.trimPrefix s.data.toList wDir).toArray⟩ := ⟨_, rfl⟩
      obtain ⟨pf, hpf⟩ : ∃ p, Lib.hasPrefix s.data.toList wDir = p := ⟨_, rfl⟩
      have HCP := hide (show ∀ W : World, Calls Tryz.prog 35 #[.string s, .string bDirW] W fun e w' => e = .returned (.tuple #[.string rest, .bool pf]) ∧ w' = W from fun W => by
        have := Tryz.strings_CutPrefix s bDirW W
        rw [show (bDirW).data.toList = wDir from rfl, ← hrest, hpf] at this
        exact this)
      have HPF := hide hpf
      have HREST := hide hrest
      clear hrest hpf hb hgr
      go_wp2_with fail
      refine (word_2 w0).mono ?_
      rintro e w2 ⟨rfl, hb2⟩
      have HG2 := hide (HGR.out.below hb2)
      have HB2 := hide (HB.out.trans (hb2.mono HB.out.size))
      clear hb2
      go_wp2_with fail
      refine (HCP.out w2).mono ?_
      rintro e w3 ⟨rfl, rfl⟩
      cases pf
      · have HN := hide (show pkN (2 + 1) s.data.toList = o by
          rw [← HP.out]
          first
          | (show pk1 _ = parseG _; rw [parseG_eq, HPF.out]; rfl)
          | (show pk2 _ = pk1 _; rw [pk1, HPF.out]; rfl)
          | (show pk3 _ = pk2 _; rw [pk2, HPF.out]; rfl))
        go_wp2_with fail
        go_roundw
        case rel => exact ⟨2 + 1, by omega, rfl, HB2.out, HG2.out, HN⟩
        case measure => simp [intOf]
      · have hrl : rest.data.toList = s.data.toList.drop 4 := by rw [HREST.out, trim_drop HPF.out]; rfl
        have hrs : rest.size ≤ 100000 := by
          rw [← size_string, hrl, List.length_drop, size_string]; omega
        obtain ⟨kp, n, hpp⟩ : ∃ k n, parseP rest.data.toList = (k, n) := ⟨_, _, rfl⟩
        have HO := hide (show finD (kp, n) = o by
          rw [← HP.out, ← hpp, hrl]
          show _ = pk2 _; rw [pk2, HPF.out]; rfl)
        have HPC := hide (show ∀ W, Mx W → Calls Tryz.prog 37 #[.string rest] W (ParsePostB W (kp, n)) from fun W h => by
          have := ParseB_any rest hrs W h
          rw [hpp] at this
          exact this)
        have HPZ := hide (show kp = 0 → chkG (4, [], n) false = 0 from fun h => parseP_chk (by rw [hpp, h]))
        clear hpp
        clear hrl
        go_wp2_with fail
        refine (number_2 _).mono ?_
        rintro e w4 ⟨rfl, hb4⟩
        have HG4 := hide (HG2.out.below hb4)
        have HB4 := hide (HB2.out.trans (hb4.mono HB2.out.size))
        obtain ⟨w5, hw5⟩ : ∃ W, W = w4.alloc (.cells #[.int .i64 4, .string ⟨#[]⟩, .slice none 0 0] 26) := ⟨_, rfl⟩
        have hb45 : Below w4.heap.size w4 w5 := by rw [hw5]; exact (Below.refl _ _).alloc (Nat.le_refl _) _
        have hg5 : GB w4.heap.size 4 ⟨#[]⟩ (.slice none 0 0) w5 := by rw [hw5]; exact heap_alloc_new w4 _
        obtain ⟨gG, hgG⟩ : ∃ g, w4.heap.size = g := ⟨_, rfl⟩
        have hgRG : gR < gG := by rw [← hgG]; exact HG4.out.lt
        rw [hgG] at hg5
        have HD := hide (show DSt w gR gG 4 ⟨#[]⟩ (.slice none 0 0) w5 from ⟨HB4.out.trans (hb45.mono HB4.out.size), HG4.out.below hb45, hg5, hgRw, hgRG⟩)
        clear hb4 hb45 hg5
        go_upto_region 11 with fail
        rw [← hw5]
        try rw [hgG]
        clear hw5 hgG
        go_wp2_with fail
        refine (HPC.out w5 (HMX.out.below HD.out.below)).mono ?_
        rintro e w6 ⟨v, rfl, hslv, hb6, hsm⟩
        obtain ⟨A, c, hv⟩ := hslv.shape
        subst hv
        have hsl7 : Sl RRdn 1 (w6.setCell ⟨gG, 2, none⟩ (.slice A n.length c)) (fun j => w.heap.size ≤ j ∧ j < (w6.setCell ⟨gG, 2, none⟩ (.slice A n.length c)).heap.size ∧ j ≠ gR) n [.slice A n.length c] := by
          have hl := HD.out.g.lt
          have hRG := HD.out.hG
          have hRw := HD.out.hR
          refine (Sl.ok RRdn.ok).mono hslv (fun j hj => Below.heap_setCell _ ⟨gG, 2, none⟩ _ j (by have := hj.1; show j ≠ gG; omega)) (fun j hj => ⟨by have := hj.1; omega, by have := hj.2; simpa using this, by have := hj.1; omega⟩)
        have HD6 := hide (HD.out.grow hb6)
        obtain ⟨g0, g1, g2, gf0, gf1, gf2⟩ := HD6.out.g.facts
        obtain ⟨w7, hw7⟩ : ∃ W, W = w6.setCell ⟨gG, 2, none⟩ (.slice A n.length c) := ⟨_, rfl⟩
        have HD7 := hide (show DSt w gR gG 4 ⟨#[]⟩ (.slice A n.length c) w7 by rw [hw7]; exact HD6.out.set2 _)
        rw [← hw7] at hsl7
        have HSL7 := hide hsl7
        have HSM := hide hsm
        clear hb6 hslv hsl7 hsm
        by_cases hk0 : kp = 0
        · subst hk0
          have HCK := hide (gCheck_any 4 ⟨#[]⟩ n false A c (by decide) HSM.out 0 (HPZ.out rfl) w7 (HMX.out.below HD7.out.below) ((Sl.ok RRdn.ok).mono HSL7.out (fun _ _ => rfl) (fun _ hj => hj.2.1)))
          have HOK := hide (show o = (0, (4, [], n)) by rw [← HO.out]; rfl)
          go_upto_region 17 with fail
          rw [← hw7]
          clear hw7 g0 g1 g2 gf0 gf1 gf2
          obtain ⟨g0, g1, g2, -, -, -⟩ := HD7.out.g.facts
          go_wp2_with fail
          refine HCK.out.mono ?_
          rintro e w8 ⟨rfl, hb8⟩
          have HD8 := hide (HD7.out.grow hb8)
          have HSL8 := hide ((Sl.ok RRdn.ok).mono HSL7.out (S' := fun j => w.heap.size ≤ j ∧ j < w8.heap.size ∧ j ≠ gR) (fun j hj => hb8.block j hj.2.1) (fun j hj => ⟨hj.1, Nat.lt_of_lt_of_le hj.2.1 hb8.size, hj.2.2⟩))
          clear hb8 g0 g1 g2
          obtain ⟨g0, g1, g2, -, -, -⟩ := HD8.out.g.facts
          obtain ⟨r0, r1, r2, rf0, rf1, rf2⟩ := HD8.out.r.facts
          go_wp2_with fail
          obtain ⟨W9, hW9, hgb9, hb9, hsl9⟩ := HD8.out.fin 4 ⟨#[]⟩ n A c HSL8.out
          obtain ⟨q0, q1, q2, -⟩ := hgb9.facts
          try rw [← hW9]
          refine bodyPost_ret (v := .tuple #[.agg #[.int .i64 4, .string ⟨#[]⟩, .slice A n.length c], .int .i64 0]) (by simp [results, Tryz.results11, go_sem, q0, q1, q2]) rfl ?_
          rw [HOK.out]
          exact ⟨⟨#[]⟩, A, c, rfl, rfl, hsl9, hb9, by show ([] : List UInt8).length ≤ 1000000; decide, HSM.out⟩
        · have hkf : (kp == 0) = false := by simp [hk0]
          have hkt : (kp != 0) = true := by simp [hk0]
          have HZ := hide (show o = (kp, zeroG) by rw [← HO.out, finD, if_neg hk0])
          clear hk0
          obtain ⟨p, hp⟩ : ∃ q, chkG (4, [], n) true = q := ⟨_, rfl⟩
          have HCK := hide (gCheck_any 4 ⟨#[]⟩ n true A c (by decide) HSM.out p hp w7 (HMX.out.below HD7.out.below) ((Sl.ok RRdn.ok).mono HSL7.out (fun _ _ => rfl) (fun _ hj => hj.2.1)))
          clear hp
          go_upto_region 18 with fail
          rw [← hw7]
          clear hw7 g0 g1 g2 gf0 gf1 gf2
          obtain ⟨g0, g1, g2, -, -, -⟩ := HD7.out.g.facts
          go_wp2_with fail
          refine HCK.out.mono ?_
          rintro e w8 ⟨rfl, hb8⟩
          have HDz := hide (HD7.out.grow hb8)
          clear hb8 g0 g1 g2
          by_cases hp0 : p = 0
          · have hpf : (p != 0) = false := by simp [hp0]
            clear hp0
            obtain ⟨r0, r1, r2, rf0, rf1, rf2⟩ := HDz.out.r.facts
            go_wp2_with fail
            obtain ⟨W9, hW9, hgb9, hb9⟩ := HDz.out.fin0
            obtain ⟨q0, q1, q2, -⟩ := hgb9.facts
            try rw [← hW9]
            exact bodyPost_ret (v := .tuple #[.agg #[.int .i64 0, .string ⟨#[]⟩, .slice none 0 0], .int .i64 kp]) (by simp [results, Tryz.results11, go_sem, q0, q1, q2]) rfl (GpPost.zero HZ.out rfl hb9)
          · have hpt : (p != 0) = true := by simp [hp0]
            clear hp0
            obtain ⟨r0, r1, r2, rf0, rf1, rf2⟩ := HDz.out.r.facts
            go_wp2_with fail
            obtain ⟨W9, hW9, hgb9, hb9⟩ := HDz.out.fin0
            obtain ⟨q0, q1, q2, -⟩ := hgb9.facts
            try rw [← hW9]
            exact bodyPost_ret (v := .tuple #[.agg #[.int .i64 0, .string ⟨#[]⟩, .slice none 0 0], .int .i64 kp]) (by simp [results, Tryz.results11, go_sem, q0, q1, q2]) rfl (GpPost.zero HZ.out rfl hb9)
    | 3, _ =>
      obtain ⟨w0, rfl⟩ : ∃ wo : World, wo = wr := ⟨_, rfl⟩
      obtain ⟨rest, hrest⟩ : ∃ x : ByteArray, x = ⟨(Lib.trimPrefix s.data.toList wIp).toArray⟩ := ⟨_, rfl⟩
      obtain ⟨pf, hpf⟩ : ∃ p, Lib.hasPrefix s.data.toList wIp = p := ⟨_, rfl⟩
      have HCP := hide (show ∀ W : World, Calls Tryz.prog 35 #[.string s, .string bIpW] W fun e w' => e = .returned (.tuple #[.string rest, .bool pf]) ∧ w' = W from fun W => by
        have := Tryz.strings_CutPrefix s bIpW W
        rw [show (bIpW).data.toList = wIp from rfl, ← hrest, hpf] at this
        exact this)
      have HPF := hide hpf
      have HREST := hide hrest
      clear hrest hpf hb hgr
      go_wp2_with fail
      refine (word_3 w0).mono ?_
      rintro e w2 ⟨rfl, hb2⟩
      have HG2 := hide (HGR.out.below hb2)
      have HB2 := hide (HB.out.trans (hb2.mono HB.out.size))
      clear hb2
      go_wp2_with fail
      refine (HCP.out w2).mono ?_
      rintro e w3 ⟨rfl, rfl⟩
      cases pf
      · have HN := hide (show pkN (3 + 1) s.data.toList = o by
          rw [← HP.out]
          first
          | (show pk1 _ = parseG _; rw [parseG_eq, HPF.out]; rfl)
          | (show pk2 _ = pk1 _; rw [pk1, HPF.out]; rfl)
          | (show (32, zeroG) = pk3 _; rw [pk3, HPF.out]; rfl))
        go_wp2_with fail
        go_roundw
        case rel => exact ⟨3 + 1, by omega, rfl, HB2.out, HG2.out, HN⟩
        case measure => simp [intOf]
      · have hrl : rest.data.toList = s.data.toList.drop 3 := by rw [HREST.out, trim_drop HPF.out]; rfl
        have hrs : rest.size ≤ 100000 := by
          rw [← size_string, hrl, List.length_drop, size_string]; omega
        have HO := hide (show finT 7 (unhexL rest.data.toList) = o by
          rw [← HP.out, hrl]
          first
          | (show _ = parseG _; rw [parseG_eq, HPF.out]; rfl)
          | (show _ = pk1 _; rw [pk1, HPF.out]; rfl)
          | (show _ = pk3 _; rw [pk3, HPF.out]; rfl))
        clear hrl
        go_wp2_with fail
        refine (number_3 _).mono ?_
        rintro e w4 ⟨rfl, hb4⟩
        have HG4 := hide (HG2.out.below hb4)
        have HB4 := hide (HB2.out.trans (hb4.mono HB2.out.size))
        obtain ⟨w5, hw5⟩ : ∃ W, W = w4.alloc (.cells #[.int .i64 7, .string ⟨#[]⟩, .slice none 0 0] 26) := ⟨_, rfl⟩
        have hb45 : Below w4.heap.size w4 w5 := by rw [hw5]; exact (Below.refl _ _).alloc (Nat.le_refl _) _
        have hg5 : GB w4.heap.size 7 ⟨#[]⟩ (.slice none 0 0) w5 := by rw [hw5]; exact heap_alloc_new w4 _
        obtain ⟨gG, hgG⟩ : ∃ g, w4.heap.size = g := ⟨_, rfl⟩
        have hgRG : gR < gG := by rw [← hgG]; exact HG4.out.lt
        rw [hgG] at hg5
        have HD := hide (show DSt w gR gG 7 ⟨#[]⟩ (.slice none 0 0) w5 from ⟨HB4.out.trans (hb45.mono HB4.out.size), HG4.out.below hb45, hg5, hgRw, hgRG⟩)
        clear hb4 hb45 hg5
        go_upto_region 9 with fail
        rw [← hw5]
        try rw [hgG]
        clear hw5 hgG
        cases hopt : unhexL rest.data.toList with
        | none =>
          have HCU := hide (show Calls Tryz.prog 38 #[.string rest] w5 fun e w' => e = .returned (.tuple #[.string ⟨#[]⟩, .bool false]) ∧ Below w5.heap.size w5 w' by
            have := pUnhex_any rest (by omega) w5
            rw [hopt] at this
            exact this)
          have HZ := hide (show o = (32, zeroG) by rw [← HO.out, hopt]; rfl)
          clear hopt
          go_wp2_with fail
          refine HCU.out.mono ?_
          rintro e w6 ⟨rfl, hb6⟩
          have HD6 := hide (HD.out.grow hb6)
          obtain ⟨g0, g1, g2, gf0, gf1, gf2⟩ := HD6.out.g.facts
          have HDz := hide (HD6.out.set1 ⟨#[]⟩)
          clear hb6
          obtain ⟨r0, r1, r2, rf0, rf1, rf2⟩ := HDz.out.r.facts
          go_wp2_with fail
          obtain ⟨W9, hW9, hgb9, hb9⟩ := HDz.out.fin0
          obtain ⟨q0, q1, q2, -⟩ := hgb9.facts
          try rw [← hW9]
          exact bodyPost_ret (v := .tuple #[.agg #[.int .i64 0, .string ⟨#[]⟩, .slice none 0 0], .int .i64 32]) (by simp [results, Tryz.results11, go_sem, q0, q1, q2]) rfl (GpPost.zero HZ.out rfl hb9)
        | some u =>
          obtain ⟨ts, hts⟩ : ∃ x : ByteArray, x = ⟨u.toArray⟩ := ⟨_, rfl⟩
          have htl : u = ts.data.toList := by rw [hts]
          have HCU := hide (show Calls Tryz.prog 38 #[.string rest] w5 fun e w' => e = .returned (.tuple #[.string ts, .bool true]) ∧ Below w5.heap.size w5 w' by
            have := pUnhex_any rest (by omega) w5
            rw [hopt] at this
            rw [hts]
            exact this)
          have htss : ts.size ≤ 1000000 := by
            have h9 := unhexL_len hopt
            rw [size_string] at h9
            rw [hts, ba_mk]
            omega
          have HO2 := hide (show finT 7 (some ts.data.toList) = o by rw [← htl, ← hopt]; exact HO.out)
          clear hopt hts htl
          go_wp2_with fail
          refine HCU.out.mono ?_
          rintro e w6 ⟨rfl, hb6⟩
          have HD6 := hide (HD.out.grow hb6)
          obtain ⟨g0, g1, g2, gf0, gf1, gf2⟩ := HD6.out.g.facts
          obtain ⟨w7, hw7⟩ : ∃ W, W = w6.setCell ⟨gG, 1, none⟩ (.string ts) := ⟨_, rfl⟩
          have HD7 := hide (show DSt w gR gG 7 ts (.slice none 0 0) w7 by rw [hw7]; exact HD6.out.set1 ts)
          obtain ⟨q, hq⟩ : ∃ q, chkG (7, ts.data.toList, []) false = q := ⟨_, rfl⟩
          obtain ⟨p, hp⟩ : ∃ q, chkG (7, ts.data.toList, []) true = q := ⟨_, rfl⟩
          have HCK := hide (gCheck_any 7 ts [] false none 0 htss nil_small q hq w7 (HMX.out.below HD7.out.below) (Sl.nil _ _ _ _))
          have HQ := hide hq
          have HPP := hide hp
          clear hb6 hq hp
          go_upto_region 17 with fail
          rw [← hw7]
          clear hw7 g0 g1 g2 gf0 gf1 gf2
          obtain ⟨g0, g1, g2, -, -, -⟩ := HD7.out.g.facts
          go_wp2_with fail
          refine HCK.out.mono ?_
          rintro e w8 ⟨rfl, hb8⟩
          have HD8 := hide (HD7.out.grow hb8)
          have HCK2 := hide (gCheck_any 7 ts [] true none 0 htss nil_small p HPP.out w8 (HMX.out.below HD8.out.below) (Sl.nil _ _ _ _))
          clear hb8 g0 g1 g2
          by_cases hq0 : q = 0
          · have hqf : (q != 0) = false := by simp [hq0]
            have HOK := hide (show o = (0, (7, ts.data.toList, [])) by rw [← HO2.out, finT_ok (.inl (HQ.out.trans hq0))])
            clear hq0
            obtain ⟨g0, g1, g2, -, -, -⟩ := HD8.out.g.facts
            obtain ⟨r0, r1, r2, rf0, rf1, rf2⟩ := HD8.out.r.facts
            go_wp2_with fail
            obtain ⟨W9, hW9, hgb9, hb9, hsl9⟩ := HD8.out.fin 7 ts [] none 0 (Sl.nil _ _ _ _)
            try simp only [List.length_nil] at hW9 hgb9
            obtain ⟨q0, q1, q2, -⟩ := hgb9.facts
            try rw [← hW9]
            exact bodyPost_ret (v := .tuple #[.agg #[.int .i64 7, .string ts, .slice none 0 0], .int .i64 0]) (by simp [results, Tryz.results11, go_sem, q0, q1, q2]) rfl (GpPost.text HOK.out rfl hb9 htss)
          · have hqt : (q != 0) = true := by simp [hq0]
            have HQ0 := hide hq0
            clear hq0
            obtain ⟨g0, g1, g2, -, -, -⟩ := HD8.out.g.facts
            go_wp2_with fail
            refine HCK2.out.mono ?_
            rintro e w9 ⟨rfl, hb9⟩
            have HD9 := hide (HD8.out.grow hb9)
            clear hb9 g0 g1 g2
            by_cases hp0 : p = 0
            · have hpf : (p != 0) = false := by simp [hp0]
              have HOK := hide (show o = (0, (7, ts.data.toList, [])) by rw [← HO2.out, finT_ok (.inr (HPP.out.trans hp0))])
              clear hp0
              obtain ⟨g0, g1, g2, -, -, -⟩ := HD9.out.g.facts
              obtain ⟨r0, r1, r2, rf0, rf1, rf2⟩ := HD9.out.r.facts
              go_wp2_with fail
              obtain ⟨W9, hW9, hgb9, hb9, hsl9⟩ := HD9.out.fin 7 ts [] none 0 (Sl.nil _ _ _ _)
              try simp only [List.length_nil] at hW9 hgb9
              obtain ⟨q0, q1, q2, -⟩ := hgb9.facts
              try rw [← hW9]
              exact bodyPost_ret (v := .tuple #[.agg #[.int .i64 7, .string ts, .slice none 0 0], .int .i64 0]) (by simp [results, Tryz.results11, go_sem, q0, q1, q2]) rfl (GpPost.text HOK.out rfl hb9 htss)
            · have hpt : (p != 0) = true := by simp [hp0]
              have HZ := hide (show o = (q, zeroG) by rw [← HO2.out, finT_bad (by rw [HQ.out]; exact HQ0.out) (by rw [HPP.out]; exact hp0), HQ.out])
              clear hp0
              have HDz := HD9
              obtain ⟨r0, r1, r2, rf0, rf1, rf2⟩ := HDz.out.r.facts
              go_wp2_with fail
              obtain ⟨W9, hW9, hgb9, hb9⟩ := HDz.out.fin0
              obtain ⟨q0, q1, q2, -⟩ := hgb9.facts
              try rw [← hW9]
              exact bodyPost_ret (v := .tuple #[.agg #[.int .i64 0, .string ⟨#[]⟩, .slice none 0 0], .int .i64 q]) (by simp [results, Tryz.results11, go_sem, q0, q1, q2]) rfl (GpPost.zero HZ.out rfl hb9)
    | 4, _ =>
      have HZ := hide (show o = (32, zeroG) from HP.out.symm)
      clear hb hgr
      obtain ⟨r0, r1, r2, rf0, rf1, rf2⟩ := HGR.out.facts
      go_wp2_with fail
      obtain ⟨W9, hW9, hgb9, hb9⟩ := HGR.out.fin0 HB.out hgRw
      obtain ⟨q0, q1, q2, -⟩ := hgb9.facts
      try rw [← hW9]
      exact bodyPost_ret (v := .tuple #[.agg #[.int .i64 0, .string ⟨#[]⟩, .slice none 0 0], .int .i64 32]) (by simp [results, Tryz.results11, go_sem, q0, q1, q2]) rfl (GpPost.zero HZ.out rfl hb9)
end Go.Proofs.YtmgnihmjjijdoaaGreatDoor
