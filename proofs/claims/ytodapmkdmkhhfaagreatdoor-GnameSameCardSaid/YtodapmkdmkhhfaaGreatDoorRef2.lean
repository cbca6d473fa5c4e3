/- The reference's Mail, MailBase, MailMatch, MailWithin. -/
import Derived.Test.YtodapmkdmkhhfaaGreatDoorRef1
import Derived.Test.YtodapmkdmkhhfaaGreatDoorHos2
import Derived.Deep.QuietTactic
import Derived.BigQuiet
namespace Go.Proofs.YtodapmkdmkhhfaaGreatDoor
open Go.RowKit

set_option maxHeartbeats 1000000 in
theorem rmail_any (s : ByteArray) (hs : s.size ≤ 1000000) (q : Bool) (hq : mailB s.data.toList = q) (w : World) :
    Calls Tryz.prog 57 #[.string s] w fun e w' => e = .returned (.bool q) ∧ Below w.heap.size w w' := by
  have PT := hide (rparts_any s hs q hq w)
  clear hq
  go_enter Tryz.func57, Tryz.ntmps57
  go_wp2_with fail
  refine PT.out.mono ?_
  rintro e w1 ⟨a, b, H, ha, hb, rfl, hb1⟩
  go_wp2_with fail
  go_ret
  exact ⟨rfl, hb1⟩
theorem mail_len {s : List UInt8} (h : mailB s = true) : s.length ≤ 128 := by
  unfold mailB at h
  simp only [Bool.and_eq_true, decide_eq_true_eq] at h
  exact h.1.1.2
theorem dns_len {s : List UInt8} (h : dnsB s = true) : s.length ≤ 128 := by
  unfold dnsB at h
  simp only [Bool.and_eq_true, decide_eq_true_eq] at h
  exact h.1
theorem dns_dot (r : List UInt8) : dnsB (46 :: r) = false := by
  have h : splitC 46 (46 :: r) = [] :: splitC 46 r := splitC_hit 46 [] r (fun x hx => by cases hx)
  unfold dnsB
  rw [h, List.all_cons, show labB [] = false by decide, Bool.false_and, Bool.and_false]
theorem rmb_eq (s : List UInt8) : mbB s = (mailB s || (dnsB s || (decide (s.length ≤ 128) && decide (1 < s.length) && (s.getD 0 0 == 46) && dnsB (s.drop 1)))) := by
  unfold mbB
  match s with
  | [] => decide
  | b :: r =>
    by_cases hb : b = 46
    · subst hb
      have ht : Lib.trimPrefix (46 :: r) [46] = r := by
        unfold Lib.trimPrefix Lib.hasPrefix
        rw [if_pos (by simp [List.isPrefixOf])]; rfl
      rw [ht, dns_dot]
      simp only [List.getD_cons_zero, List.drop_succ_cons, List.drop_zero, Bool.false_or]
      by_cases hm : mailB (46 :: r) = true
      · rw [hm, decide_eq_true (mail_len hm)]; rfl
      · rw [Bool.eq_false_iff.2 hm, Bool.false_or, Bool.false_or]
        by_cases hr : r = []
        · subst hr; rw [dns_nil]; simp
        · have : 0 < r.length := List.length_pos_iff.2 hr
          rw [decide_eq_true (show 1 < (46 :: r).length by simp; omega)]
          simp
    · have ht : Lib.trimPrefix (b :: r) [46] = b :: r := by
        unfold Lib.trimPrefix Lib.hasPrefix
        rw [if_neg]
        simp only [List.isPrefixOf, Bool.and_true, beq_iff_eq]
        exact fun e => hb e.symm
      rw [ht, show ((b :: r).getD 0 0 == 46) = false from beq_eq_false_iff_ne.2 hb]
      simp only [Bool.and_false, Bool.false_and, Bool.or_false]
      by_cases hm : (mailB (b :: r) || dnsB (b :: r)) = true
      · rw [hm, Bool.and_true]
        rcases Bool.or_eq_true_iff.1 hm with h | h
        · exact decide_eq_true (mail_len h)
        · exact decide_eq_true (dns_len h)
      · rw [Bool.eq_false_iff.2 hm, Bool.and_false]

set_option maxHeartbeats 2000000 in
theorem rmb_any (s : ByteArray) (hs : s.size ≤ 1000000) (q : Bool) (hq : mbB s.data.toList = q) (w : World) :
    Calls Tryz.prog 94 #[.string s] w fun e w' => e = .returned (.bool q) ∧ Below w.heap.size w w' := by
  have hss := size_string s
  rw [rmb_eq, hss] at hq
  obtain ⟨p1, hp1⟩ : ∃ p, mailB s.data.toList = p := ⟨_, rfl⟩
  obtain ⟨p2, hp2⟩ : ∃ p, dnsB s.data.toList = p := ⟨_, rfl⟩
  rw [hp1, hp2] at hq
  have HP1 := hide hp1
  have HP2 := hide hp2
  clear hp1 hp2
  cases p1
  · cases p2
    · by_cases h1 : s.size ≤ 128
      · by_cases h2 : 1 < s.size
        · have hp0 : 0 < s.size := by omega
          rw [decide_eq_true h1, decide_eq_true h2, getD_str s 0 hp0] at hq
          obtain ⟨y, hy⟩ : ∃ y : ByteArray, y = s.extract 1 s.size := ⟨_, rfl⟩
          have hyl : y.data.toList = s.data.toList.drop 1 := by
            rw [hy, Lib.extract_data, List.take_of_length_le]
            rw [List.length_drop, hss]; omega
          have hys : y.size ≤ 1000000 := by rw [hy, ba_size_ex _ _ _ (Nat.le_refl _)]; omega
          have HS2 : ∀ W : World, (Instr.slice 9 (.string s) (some (.int .i64 1)) none none).run Tryz.prog W = .ok (.string y) W := fun W => by
            have h9 := run_slice_string_l (P := Tryz.prog) W 9 s Tryz.underlying9 .i64 1 (by omega) (by omega)
            rw [h9, hy]; rfl
          rw [← hyl] at hq
          obtain ⟨p4, hp4⟩ : ∃ p, dnsB y.data.toList = p := ⟨_, rfl⟩
          rw [hp4] at hq
          have HP4 := hide hp4
          obtain ⟨p3, hp3⟩ : ∃ p, (s[0]'hp0 == 46) = p := ⟨_, rfl⟩
          have t3 : (((s[0]'hp0).toNat : Int) == 46) = p3 := (byte_beq (s[0]'hp0) 46).trans hp3
          rw [hp3] at hq
          have HQ := hide (show (p3 && p4) = q by rw [← hq]; rfl)
          have e1 : (s.size : Int) ≤ 128 := by omega
          have e2 : (1 : Int) < (s.size : Int) := by omega
          clear hq hyl hy hp3 hp4 hss
          go_enter Tryz.func94, Tryz.ntmps94
          go_wp2_with fail
          refine (rmail_any s hs false HP1.out _).mono ?_
          rintro e w1 ⟨rfl, hb1⟩
          have HB1 := hide hb1
          clear hb1
          go_wp2_with fail
          refine (rdns_any s hs false HP2.out _).mono ?_
          rintro e w2 ⟨rfl, hb2⟩
          have HB2 := hide (HB1.out.trans (hb2.mono HB1.out.size))
          clear hb2
          cases p3
          · have HN := hide (show q = false from HQ.out.symm)
            go_wp2_with fail
            go_ret
            exact ⟨ret_bool HN.out.symm, HB2.out⟩
          · go_wp2_with fail
            refine (rdns_any y hys p4 HP4.out _).mono ?_
            rintro e w3 ⟨rfl, hb3⟩
            have HB3 := hide (HB2.out.trans (hb3.mono HB2.out.size))
            clear hb3
            go_wp2_with fail
            go_ret
            exact ⟨ret_bool (by rw [← HQ.out]; rfl), HB3.out⟩
        · have HQ := hide (show q = false by rw [← hq, decide_eq_false h2]; simp)
          have e1 : (s.size : Int) ≤ 128 := by omega
          have e2 : ¬ (1 : Int) < (s.size : Int) := by omega
          clear hq hss
          go_enter Tryz.func94, Tryz.ntmps94
          go_wp2_with fail
          refine (rmail_any s hs false HP1.out _).mono ?_
          rintro e w1 ⟨rfl, hb1⟩
          have HB1 := hide hb1
          clear hb1
          go_wp2_with fail
          refine (rdns_any s hs false HP2.out _).mono ?_
          rintro e w2 ⟨rfl, hb2⟩
          have HN := hide (show q = false from HQ.out)
          go_wp2_with fail
          go_ret
          exact ⟨ret_bool HN.out.symm, HB1.out.trans (hb2.mono HB1.out.size)⟩
      · have HQ := hide (show q = false by rw [← hq, decide_eq_false h1]; simp)
        have e1 : ¬ (s.size : Int) ≤ 128 := by omega
        clear hq hss
        go_enter Tryz.func94, Tryz.ntmps94
        go_wp2_with fail
        refine (rmail_any s hs false HP1.out _).mono ?_
        rintro e w1 ⟨rfl, hb1⟩
        have HB1 := hide hb1
        clear hb1
        go_wp2_with fail
        refine (rdns_any s hs false HP2.out _).mono ?_
        rintro e w2 ⟨rfl, hb2⟩
        have HN := hide (show q = false from HQ.out)
        go_wp2_with fail
        go_ret
        exact ⟨ret_bool HN.out.symm, HB1.out.trans (hb2.mono HB1.out.size)⟩
    · have HQ := hide (show true = q by rw [← hq]; rfl)
      clear hq hss
      go_enter Tryz.func94, Tryz.ntmps94
      go_wp2_with fail
      refine (rmail_any s hs false HP1.out _).mono ?_
      rintro e w1 ⟨rfl, hb1⟩
      have HB1 := hide hb1
      clear hb1
      go_wp2_with fail
      refine (rdns_any s hs true HP2.out _).mono ?_
      rintro e w2 ⟨rfl, hb2⟩
      go_wp2_with fail
      go_ret
      exact ⟨ret_bool HQ.out, HB1.out.trans (hb2.mono HB1.out.size)⟩
  · have HQ := hide (show true = q by rw [← hq]; rfl)
    clear hq hss
    go_enter Tryz.func94, Tryz.ntmps94
    go_wp2_with fail
    refine (rmail_any s hs true HP1.out _).mono ?_
    rintro e w1 ⟨rfl, hb1⟩
    go_wp2_with fail
    go_ret
    exact ⟨ret_bool HQ.out, hb1⟩

set_option maxHeartbeats 4000000 in
theorem rmm_any (a b : ByteArray) (ha : a.size ≤ 1000000) (hb : b.size ≤ 1000000) (q : Bool) (hq : mmB a.data.toList b.data.toList = q) (w : World) :
    Calls Tryz.prog 58 #[.string a, .string b] w fun e w' => e = .returned (.bool q) ∧ Below w.heap.size w w' := by
  obtain ⟨p1, hp1⟩ : ∃ p, mailB a.data.toList = p := ⟨_, rfl⟩
  obtain ⟨p2, hp2⟩ : ∃ p, mailB b.data.toList = p := ⟨_, rfl⟩
  have HQ := hide (show (p1 && p2 && ((cutA a.data.toList).1 == (cutA b.data.toList).1 && eqF (cutA a.data.toList).2.1 (cutA b.data.toList).2.1)) = q by rw [← hq, mmB, hp1, hp2])
  have HP1 := hide hp1
  have HP2 := hide hp2
  clear hq hp1 hp2
  go_enter Tryz.func58, Tryz.ntmps58
  go_wp2_with fail
  refine (rparts_any a ha p1 HP1.out _).mono ?_
  rintro e w1 ⟨a1, a2, HA, ha1, ha2, rfl, hb1⟩
  have HB1 := hide hb1
  clear hb1
  go_wp2_with fail
  refine (rparts_any b hb p2 HP2.out _).mono ?_
  rintro e w2 ⟨b1, b2, HB, hb1, hb2, rfl, hw2⟩
  have HB2 := hide (HB1.out.trans (hw2.mono HB1.out.size))
  clear hw2
  cases p1
  · have HN := hide (show q = false from HQ.out.symm)
    go_wp2_with fail
    go_ret
    exact ⟨ret_bool HN.out.symm, HB2.out⟩
  · cases p2
    · have HN := hide (show q = false from HQ.out.symm)
      go_wp2_with fail
      go_ret
      exact ⟨ret_bool HN.out.symm, HB2.out⟩
    · have HA1 := hide (show a1.data.toList = (cutA a.data.toList).1 from HA.out.1)
      have HB3 := hide (show b1.data.toList = (cutA b.data.toList).1 from HB.out.1)
      obtain ⟨p3, hp3⟩ : ∃ p, (a1.toList == b1.toList) = p := ⟨_, rfl⟩
      obtain ⟨p4, hp4⟩ : ∃ p, eqF a2.data.toList b2.data.toList = p := ⟨_, rfl⟩
      have HQ2 := hide (show (p3 && p4) = q by
        have h2 : a2.data.toList = (cutA a.data.toList).2.1 := HA.out.2
        have h3 : b2.data.toList = (cutA b.data.toList).2.1 := HB.out.2
        rw [← HQ.out, ← HA1.out, ← HB3.out, ← h2, ← h3, hp4, ← hp3, str_beq]; rfl)
      have HP4 := hide hp4
      clear hp4
      cases p3
      · have n1 : ¬ a1.toList = b1.toList := beq_eq_false_iff_ne.1 hp3
        have HN := hide (show q = false from HQ2.out.symm)
        go_wp2_with fail
        go_ret
        exact ⟨ret_bool HN.out.symm, HB2.out⟩
      · have n1 : a1.toList = b1.toList := eq_of_beq hp3
        go_wp2_with fail
        refine (ralike_any a2 b2 (by omega) (by omega) p4 HP4.out _).mono ?_
        rintro e w3 ⟨rfl, hw3⟩
        go_wp2_with fail
        go_ret
        exact ⟨ret_bool (by rw [← HQ2.out]; rfl), HB2.out.trans (hw3.mono HB2.out.size)⟩

theorem mem_split (c : UInt8) : ∀ (l : List UInt8) (x : UInt8), x ∈ l → x = c ∨ ∃ p ∈ splitC c l, x ∈ p
  | [], x, hx => by cases hx
  | b :: l, x, hx => by
    by_cases hxc : x = c
    · exact .inl hxc
    · right
      unfold splitC
      by_cases hb : b = c
      · rw [if_pos hb]
        rcases List.mem_cons.1 hx with rfl | hx
        · exact absurd hb hxc
        · rcases mem_split c l x hx with h | ⟨p, hp, hxp⟩
          · exact absurd h hxc
          · exact ⟨p, by simp [hp], hxp⟩
      · rw [if_neg hb]
        rcases hsp : splitC c l with _ | ⟨p, ps⟩
        · exact absurd hsp (splitC_ne c l)
        · rcases List.mem_cons.1 hx with rfl | hx
          · exact ⟨x :: p, by simp, by simp⟩
          · rcases mem_split c l x hx with h | ⟨p', hp', hxp⟩
            · exact absurd h hxc
            · rw [hsp] at hp'
              rcases List.mem_cons.1 hp' with rfl | hp'
              · exact ⟨b :: p', by simp, by simp [hxp]⟩
              · exact ⟨p', by simp [hp'], hxp⟩
theorem dns_noat {s : List UInt8} (h : dnsB s = true) : ∀ x ∈ s, x ≠ 64 := by
  rintro x hx rfl
  rcases mem_split 46 s 64 hx with h2 | ⟨p, hp, hxp⟩
  · exact absurd h2 (by decide)
  · unfold dnsB at h
    simp only [Bool.and_eq_true, decide_eq_true_eq, List.all_eq_true] at h
    have hl := h.2 p hp
    unfold labB at hl
    simp only [Bool.and_eq_true, List.all_eq_true] at hl
    exact absurd (hl.2 64 hxp) (by decide)
theorem where_plain {s : List UInt8} (h1 : mbB s = true) (h2 : mailB s = false) : whereS s = s := by
  have hn : ∀ x ∈ s, x ≠ 64 := by
    rw [rmb_eq, h2, Bool.false_or, Bool.or_eq_true] at h1
    rcases h1 with h1 | h1
    · exact dns_noat h1
    · simp only [Bool.and_eq_true, decide_eq_true_eq, beq_iff_eq] at h1
      match s, h1 with
      | [], _ => exact fun x hx => by cases hx
      | b :: r, h1 =>
        intro x hx
        rcases List.mem_cons.1 hx with rfl | hx
        · have : x = 46 := h1.1.2
          rw [this]; decide
        · exact dns_noat h1.2 x hx
  rw [whereS, cutA_none s hn]
  rfl

set_option maxHeartbeats 4000000 in
theorem rmw_any (s b : ByteArray) (hs : s.size ≤ 1000000) (hb : b.size ≤ 1000000) (q : Bool) (hq : mwB s.data.toList b.data.toList = q) (w : World) :
    Calls Tryz.prog 67 #[.string s, .string b] w fun e w' => e = .returned (.bool q) ∧ Below w.heap.size w w' := by
  obtain ⟨p1, hp1⟩ : ∃ p, mbB b.data.toList = p := ⟨_, rfl⟩
  obtain ⟨p2, hp2⟩ : ∃ p, mbB s.data.toList = p := ⟨_, rfl⟩
  obtain ⟨p3, hp3⟩ : ∃ p, mailB b.data.toList = p := ⟨_, rfl⟩
  obtain ⟨p6, hp6⟩ : ∃ p, mailB s.data.toList = p := ⟨_, rfl⟩
  have HN := hide (show (p1 && p2 && (if p3 = true then mmB s.data.toList b.data.toList else eqF (whereS s.data.toList) b.data.toList || (b.data.toList.getD 0 0 == 46 && endsF (whereS s.data.toList) b.data.toList))) = q by rw [← hq, mwB, hp1, hp2, hp3])
  have HP1 := hide hp1
  have HP2 := hide hp2
  have HP3 := hide hp3
  have HP6 := hide hp6
  clear hq hp1 hp2 hp3 hp6
  go_enter Tryz.func67, Tryz.ntmps67
  go_wp2_with fail
  refine (rmb_any b hb p1 HP1.out _).mono ?_
  rintro e w1 ⟨rfl, hw1⟩
  have HB1 := hide hw1
  clear hw1
  cases p1
  · have HN := hide (show q = false from HN.out.symm)
    go_wp2_with fail
    go_ret
    exact ⟨ret_bool HN.out.symm, HB1.out⟩
  · have hpos : 0 < b.size := by
      rcases Nat.eq_zero_or_pos b.size with h | h
      · have h1 := HP1.out
        rw [List.eq_nil_of_length_eq_zero (by rw [size_string, h] : b.data.toList.length = 0), mb_nil] at h1
        cases h1
      · exact h
    go_wp2_with fail
    refine (rparts_any s hs p6 HP6.out _).mono ?_
    rintro e w2 ⟨a1, a2, HA, ha1, ha2, rfl, hw2⟩
    have HB2 := hide (HB1.out.trans (hw2.mono HB1.out.size))
    clear hw2
    cases p6
    · go_wp2_with fail
      refine (rmb_any s hs p2 HP2.out _).mono ?_
      rintro e w3 ⟨rfl, hw3⟩
      have HB3 := hide (HB2.out.trans (hw3.mono HB2.out.size))
      clear hw3
      cases p2
      · have HN := hide (show q = false from HN.out.symm)
        go_wp2_with fail
        go_ret
        exact ⟨ret_bool HN.out.symm, HB3.out⟩
      · go_wp2_with fail
        refine (rmail_any b hb p3 HP3.out _).mono ?_
        rintro e w4 ⟨rfl, hw4⟩
        have HB4 := hide (HB3.out.trans (hw4.mono HB3.out.size))
        clear hw4
        cases p3
        · have hx : whereS s.data.toList = s.data.toList := where_plain HP2.out HP6.out
          obtain ⟨p4, hp4⟩ : ∃ p, eqF s.data.toList b.data.toList = p := ⟨_, rfl⟩
          obtain ⟨p5, hp5⟩ : ∃ p, endsF s.data.toList b.data.toList = p := ⟨_, rfl⟩
          have HN4 := hide (show (p4 || (b[0] == 46 && p5)) = q by rw [← HN.out, hx, hp4, hp5, getD_str b 0 hpos]; rfl)
          have HP4 := hide hp4
          have HP5 := hide hp5
          clear hx hp4 hp5
          go_wp2_with fail
          refine (ralike_any s b (by omega) (by omega) p4 HP4.out _).mono ?_
          rintro e w5 ⟨rfl, hw5⟩
          have HB5 := hide (HB4.out.trans (hw5.mono HB4.out.size))
          clear hw5
          cases p4
          · by_cases hc : b[0] = 46
            · have t3 : ((b[0].toNat : Int) == 46) = true := by rw [hc]; rfl
              have HN5 := hide (show p5 = q by rw [← HN4.out, hc]; simp)
              clear hc
              go_wp2_with fail
              refine (rends_any s b (by omega) (by omega) p5 HP5.out _).mono ?_
              rintro e w6 ⟨rfl, hw6⟩
              go_wp2_with fail
              go_ret
              exact ⟨ret_bool HN5.out, HB5.out.trans (hw6.mono HB5.out.size)⟩
            · have t3 : ((b[0].toNat : Int) == 46) = false := (byte_beq b[0] 46).trans (by simpa using hc)
              have HN5 := hide (show false = q by rw [← HN4.out, show (b[0] == 46) = false by simpa using hc]; rfl)
              clear hc
              go_wp2_with fail
              go_ret
              exact ⟨ret_bool HN5.out, HB5.out⟩
          · go_wp2_with fail
            go_ret
            exact ⟨ret_bool (by rw [← HN4.out]; rfl), HB5.out⟩
        · have hmm : mmB s.data.toList b.data.toList = false := by rw [mmB, HP6.out]; rfl
          have hqf : q = false := by
            rw [← HN.out, hmm]
            rfl
          have HNF := hide hqf
          clear hmm hqf
          go_wp2_with fail
          go_ret
          exact ⟨ret_bool HNF.out.symm, HB4.out⟩
    · have hp2t : p2 = true := by
        rw [← HP2.out, rmb_eq, HP6.out]; rfl
      subst hp2t
      go_wp2_with fail
      refine (rmail_any b hb p3 HP3.out _).mono ?_
      rintro e w3 ⟨rfl, hw3⟩
      have HB3 := hide (HB2.out.trans (hw3.mono HB2.out.size))
      clear hw3
      cases p3
      · have hx : whereS s.data.toList = a2.data.toList := by
          have hf : (cutA s.data.toList).2.2 = true := by
            have := HP6.out
            unfold mailB at this
            simp only [Bool.and_eq_true] at this
            exact this.1.1.1
          rw [whereS, if_pos hf]
          exact HA.out.2.symm
        obtain ⟨p4, hp4⟩ : ∃ p, eqF a2.data.toList b.data.toList = p := ⟨_, rfl⟩
        obtain ⟨p5, hp5⟩ : ∃ p, endsF a2.data.toList b.data.toList = p := ⟨_, rfl⟩
        have HN4 := hide (show (p4 || (b[0] == 46 && p5)) = q by rw [← HN.out, hx, hp4, hp5, getD_str b 0 hpos]; rfl)
        have HP4 := hide hp4
        have HP5 := hide hp5
        clear hx hp4 hp5
        go_wp2_with fail
        refine (ralike_any a2 b (by omega) (by omega) p4 HP4.out _).mono ?_
        rintro e w5 ⟨rfl, hw5⟩
        have HB5 := hide (HB3.out.trans (hw5.mono HB3.out.size))
        clear hw5
        cases p4
        · by_cases hc : b[0] = 46
          · have t3 : ((b[0].toNat : Int) == 46) = true := by rw [hc]; rfl
            have HN5 := hide (show p5 = q by rw [← HN4.out, hc]; simp)
            clear hc
            go_wp2_with fail
            refine (rends_any a2 b (by omega) (by omega) p5 HP5.out _).mono ?_
            rintro e w6 ⟨rfl, hw6⟩
            go_wp2_with fail
            go_ret
            exact ⟨ret_bool HN5.out, HB5.out.trans (hw6.mono HB5.out.size)⟩
          · have t3 : ((b[0].toNat : Int) == 46) = false := (byte_beq b[0] 46).trans (by simpa using hc)
            have HN5 := hide (show false = q by rw [← HN4.out, show (b[0] == 46) = false by simpa using hc]; rfl)
            clear hc
            go_wp2_with fail
            go_ret
            exact ⟨ret_bool HN5.out, HB5.out⟩
        · go_wp2_with fail
          go_ret
          exact ⟨ret_bool (by rw [← HN4.out]; rfl), HB5.out⟩
      · have HN3 := hide (show mmB s.data.toList b.data.toList = q by rw [← HN.out]; rfl)
        go_wp2_with fail
        refine (rmm_any s b hs hb q HN3.out _).mono ?_
        rintro e w4 ⟨rfl, hw4⟩
        go_wp2_with fail
        go_ret
        exact ⟨rfl, HB3.out.trans (hw4.mono HB3.out.size)⟩
end Go.Proofs.YtodapmkdmkhhfaaGreatDoor

/- The reference's Address, Range, AddressWithin. -/
namespace Go.Proofs.YtodapmkdmkhhfaaGreatDoor
open Go.RowKit

theorem str_i (s : ByteArray) (i : Nat) (hi : i < s.size) (I : Int) (hI : I = i) : ∀ W : World, (Instr.index 9 (.string s) (.int .i64 I)).run Tryz.prog W = .ok (.int .u8 (s[i].toNat : Int)) W := fun W => by
  subst hI
  have h9 := run_index_string (P := Tryz.prog) (w := W) 9 s .i64 (i : Int) Tryz.underlying9
  rw [h9, dif_pos (by omega)]
  simp only [Int.toNat_natCast]
theorem bit_t (c r : Nat) : (((c : Int) / 2 ^ r).tmod 2 == 1) = (c / 2 ^ r % 2 == 1) := by
  have hx : ((c : Int) / 2 ^ r) = ((c / 2 ^ r : Nat) : Int) := by simp
  obtain ⟨n, hn⟩ : ∃ n, c / 2 ^ r = n := ⟨_, rfl⟩
  rw [hx, hn, Int.tmod_eq_emod_of_nonneg (Int.natCast_nonneg n), Bool.eq_iff_iff]
  simp only [beq_iff_eq]
  omega
set_option maxHeartbeats 4000000 in
theorem rrange_any (s : ByteArray) (hs : s.size ≤ 1000000) (q : Bool) (hq : rangeB s.data.toList = q) (w : World) :
    Calls Tryz.prog 98 #[.string s] w fun e w' => e = .returned (.bool q) ∧ Below w.heap.size w w' := by
  have hss := size_string s
  by_cases h8 : s.size = 8 ∨ s.size = 32
  · obtain ⟨h, hh⟩ : ∃ h, h = s.size / 2 := ⟨_, rfl⟩
    have hh2 : s.size = 2 * h := by omega
    have hh16 : h ≤ 16 := by omega
    obtain ⟨a, ha⟩ : ∃ a, s.data.toList.take h = a := ⟨_, rfl⟩
    obtain ⟨m, hm⟩ : ∃ m, s.data.toList.drop h = m := ⟨_, rfl⟩
    have HQ := hide (show rgG a m (8 * h) 0 false = q by
      rw [← hq, rangeB, hss, ← ha, ← hm, ← hh, show s.size - h = h by omega]
      rcases h8 with h | h <;> simp [h])
    have HA := hide (fun (j : Nat) (hj : j < h) => (show ∃ c : UInt8, a.getD j 0 = c ∧ ∀ W : World, (Instr.index 9 (.string s) (.int .i64 (j : Int))).run Tryz.prog W = .ok (.int .u8 (c.toNat : Int)) W from
      ⟨s[j], by rw [← ha, List.getD_eq_getElem?_getD, List.getElem?_take, if_pos hj, List.getElem?_eq_getElem (by rw [hss]; omega)]; rfl, str_i s j (by omega) _ rfl⟩))
    have HM := hide (fun (j : Nat) (hj : j < h) => (show ∃ c : UInt8, m.getD j 0 = c ∧ ∀ W : World, (Instr.index 9 (.string s) (.int .i64 ((h : Int) + (j : Int)))).run Tryz.prog W = .ok (.int .u8 (c.toNat : Int)) W from
      ⟨s[h + j], by rw [← hm, List.getD_eq_getElem?_getD, List.getElem?_drop, List.getElem?_eq_getElem (by rw [hss]; omega)]; rfl, str_i s (h + j) (by omega) _ (by omega)⟩))
    have t1 : ((s.size : Int) != 8) = false ∨ ((s.size : Int) != 8) = true ∧ ((s.size : Int) != 32) = false := by
      rcases h8 with h | h
      · left; rw [h]; rfl
      · right; rw [h]; exact ⟨rfl, rfl⟩
    have hdv : (s.size : Int) / 2 = (h : Int) := by omega
    clear hq ha hm hh h8 hss
    rcases t1 with t1 | ⟨t1, t2⟩
    all_goals
      have HHD := hide hdv
      have HH2 := hide hh2
      clear hh2
      go_enter Tryz.func98, Tryz.ntmps98
      go_wp2_with fail
      clear t1 hdv
      go_loop [4, 5] (fun x4 x5 => ∃ (i : Nat) (ov : Bool), i ≤ 8 * h ∧ x4 = .bool ov ∧ x5 = .int .i64 i ∧ Hid (rgG a m (8 * h - i) i ov = q)) (fun _ x5 => 8 * h - (intOf x5).toNat)
      case atStart => exact ⟨0, false, by omega, rfl, rfl, HQ⟩
      case round =>
        obtain ⟨i, ov, hi, rfl, rfl, H⟩ := hrel
        by_cases hlt : i < 8 * h
        · obtain ⟨j, r, hr, hij⟩ : ∃ j r, r < 8 ∧ i = 8 * j + r := ⟨i / 8, i % 8, by omega, by omega⟩
          have hjh : j < h := by omega
          obtain ⟨cm, hcm, ixm⟩ := HM.out j hjh
          obtain ⟨ca, hca, ixa⟩ := HA.out j hjh
          obtain ⟨I, hI⟩ : ∃ I : Int, I = (i : Int) := ⟨_, rfl⟩
          rw [← hI]
          have g1 : I / 8 = (j : Int) := by omega
          have g2 : I % 8 = (r : Int) := by omega
          have g3 : 0 ≤ I := by omega
          have g4 : I ≤ 8000 := by omega
          have g5 : I < 8 * (h : Int) := by omega
          have hc1 := byte_lt cm
          have hc2 := byte_lt ca
          have hr2 : (r : Int) < 8 := by omega
          obtain ⟨p1, hp1⟩ : ∃ p, bitAt m i = p := ⟨_, rfl⟩
          obtain ⟨p2, hp2⟩ : ∃ p, bitAt a i = p := ⟨_, rfl⟩
          have hb1 : (((cm.toNat : Int) / 2 ^ (7 - r)).tmod 2 == 1) = p1 := by
            rw [bit_t, ← hp1, bitAt, hij, show (8 * j + r) / 8 = j by omega, show (8 * j + r) % 8 = r by omega, hcm]
          have hb2 : (((ca.toNat : Int) / 2 ^ (7 - r)).tmod 2 == 1) = p2 := by
            rw [bit_t, ← hp2, bitAt, hij, show (8 * j + r) / 8 = j by omega, show (8 * j + r) % 8 = r by omega, hca]
          have HX := hide (show (if (p1 && ov) || (!p1 && p2) then false else rgG a m (8 * h - (i + 1)) (i + 1) (ov || !p1)) = q by
            rw [← H.out, show 8 * h - i = (8 * h - (i + 1)) + 1 by omega, rgG, hp1, hp2])
          have HI := hide hI
          have HN := hide (show I + 1 = ((i + 1 : Nat) : Int) by omega)
          clear hI hp1 hp2 hcm hca hij
          cases p1
          · cases p2
            · have HY := hide (show rgG a m (8 * h - (i + 1)) (i + 1) true = q by rw [← HX.out]; simp)
              cases ov
              all_goals
                go_wp2_with fail
                go_round
                case rel => exact ⟨i + 1, true, by omega, rfl, by rw [HN.out], HY⟩
                case measure => simp [intOf]; omega
            · have HY := hide (show false = q by rw [← HX.out]; simp)
              cases ov
              all_goals
                go_wp2_with fail
                go_ret
                exact ⟨ret_bool HY.out, Below.refl _ _⟩
          · cases ov
            · have HY := hide (show rgG a m (8 * h - (i + 1)) (i + 1) false = q by rw [← HX.out]; simp)
              go_wp2_with fail
              go_round
              case rel => exact ⟨i + 1, false, by omega, rfl, by rw [HN.out], HY⟩
              case measure => simp [intOf]; omega
            · have HY := hide (show false = q by rw [← HX.out]; simp)
              go_wp2_with fail
              go_ret
              exact ⟨ret_bool HY.out, Below.refl _ _⟩
        · have HY := hide (show true = q by rw [← H.out, show 8 * h - i = 0 by omega, rgG])
          have hlti : ¬ (i : Int) < 8 * (h : Int) := by omega
          go_wp2_with fail
          go_ret
          exact ⟨ret_bool HY.out, Below.refl _ _⟩
  · have t1 : ((s.size : Int) != 8) = true := by rw [bne_iff_ne]; omega
    have t2 : ((s.size : Int) != 32) = true := by rw [bne_iff_ne]; omega
    have HN := hide (show false = q by
      rw [← hq, rangeB, hss]
      have e1 : (s.size == 8) = false := by rw [beq_eq_false_iff_ne]; omega
      have e2 : (s.size == 32) = false := by rw [beq_eq_false_iff_ne]; omega
      rw [e1, e2]; rfl)
    clear hq h8
    go_enter Tryz.func98, Tryz.ntmps98
    go_wp2_with fail
    go_ret
    exact ⟨ret_bool HN.out, Below.refl _ _⟩
end Go.Proofs.YtodapmkdmkhhfaaGreatDoor

/- The reference's Address, AddressWithin. -/
namespace Go.Proofs.YtodapmkdmkhhfaaGreatDoor
open Go.RowKit

set_option maxHeartbeats 1000000 in
theorem raddr_any (s : ByteArray) (q : Bool) (hq : addrB s.data.toList = q) (w : World) : Calls Tryz.prog 99 #[.string s] w fun e w' => e = .returned (.bool q) ∧ w = w' := by
  have hss := size_string s
  rw [addrB, hss] at hq
  by_cases h4 : s.size = 4
  · have t1 : ((s.size : Int) == 4) = true := by rw [h4]; rfl
    have HQ := hide (show true = q by rw [← hq, h4]; rfl)
    clear hq h4 hss
    go_enter Tryz.func99, Tryz.ntmps99
    go_wp2_with fail
    go_ret
    exact ⟨ret_bool HQ.out, rfl⟩
  · have t1 : ((s.size : Int) == 4) = false := by rw [beq_eq_false_iff_ne]; omega
    by_cases h16 : s.size = 16
    · have t2 : ((s.size : Int) == 16) = true := by rw [h16]; rfl
      have HQ := hide (show true = q by rw [← hq, h16]; rfl)
      clear hq h4 h16 hss
      go_enter Tryz.func99, Tryz.ntmps99
      go_wp2_with fail
      go_ret
      exact ⟨ret_bool HQ.out, rfl⟩
    · have t2 : ((s.size : Int) == 16) = false := by rw [beq_eq_false_iff_ne]; omega
      have HQ := hide (show false = q by
        rw [← hq, show (s.size == 4) = false by rw [beq_eq_false_iff_ne]; exact h4, show (s.size == 16) = false by rw [beq_eq_false_iff_ne]; exact h16]; rfl)
      clear hq h4 h16 hss
      go_enter Tryz.func99, Tryz.ntmps99
      go_wp2_with fail
      go_ret
      exact ⟨ret_bool HQ.out, rfl⟩

/-- byte by byte: an address within a range; if 'two', a range within it -/
def awG (two : Bool) (x m b o : List UInt8) : Nat → Nat → Bool
  | 0, _ => true
  | n + 1, i => (msk1 (x.getD i 0) (m.getD i 0) (b.getD i 0) && (!two || msk1 (o.getD i 0) (m.getD i 0) (m.getD i 0))) && awG two x m b o n (i + 1)
theorem sub_msk (m o : UInt8) : sub1 m o = msk1 o m m := by
  unfold sub1 msk1
  have key : ∀ a b : Fin 256, ((a.1 &&& (255 - b.1)) == 0) = ((b.1 &&& a.1) == a.1) := by decide +kernel
  exact key ⟨m.toNat, m.toNat_lt⟩ ⟨o.toNat, o.toNat_lt⟩
theorem awG_one (x m b o : List UInt8) : ∀ n i, awG false x m b o n i = mskG x m b n i
  | 0, _ => rfl
  | n + 1, i => by
    unfold awG mskG
    rw [awG_one x m b o n (i + 1)]
    simp
theorem awG_two (x m b o : List UInt8) : ∀ n i, awG true x m b o n i = (subG m o n i && mskG x m b n i)
  | 0, _ => rfl
  | n + 1, i => by
    unfold awG subG mskG
    rw [awG_two x m b o n (i + 1), sub_msk]
    cases msk1 (x.getD i 0) (m.getD i 0) (b.getD i 0) <;> cases msk1 (o.getD i 0) (m.getD i 0) (m.getD i 0) <;> simp
end Go.Proofs.YtodapmkdmkhhfaaGreatDoor

/- The reference's AddressWithin. -/
namespace Go.Proofs.YtodapmkdmkhhfaaGreatDoor
open Go.RowKit

theorem aw_len {r : List UInt8} (h : rangeB r = true) : r.length = 8 ∨ r.length = 32 := by
  unfold rangeB at h
  simp only [Bool.and_eq_true, Bool.or_eq_true, beq_iff_eq] at h
  exact h.1

set_option maxHeartbeats 8000000 in
theorem raw_any (a r : ByteArray) (ha : a.size ≤ 1000000) (hr : r.size ≤ 1000000) (q : Bool) (hq : awB a.data.toList r.data.toList = q) (w : World) :
    Calls Tryz.prog 70 #[.string a, .string r] w fun e w' => e = .returned (.bool q) ∧ Below w.heap.size w w' := by
  have hsa := size_string a
  have hsr := size_string r
  obtain ⟨p1, hp1⟩ : ∃ p, rangeB r.data.toList = p := ⟨_, rfl⟩
  obtain ⟨p2, hp2⟩ : ∃ p, rangeB a.data.toList = p := ⟨_, rfl⟩
  obtain ⟨p3, hp3⟩ : ∃ p, addrB a.data.toList = p := ⟨_, rfl⟩
  have P1 := hide hp1
  have P2 := hide hp2
  have P3 := hide hp3
  cases p1
  · have HN := hide (show false = q by rw [← hq, awB, hp1]; rfl)
    clear hq hp1 hp2 hp3
    go_enter Tryz.func70, Tryz.ntmps70
    go_wp2_with fail
    refine (rrange_any r hr false P1.out _).mono ?_
    rintro e w1 ⟨rfl, hb1⟩
    go_wp2_with fail
    go_ret
    exact ⟨ret_bool HN.out, hb1⟩
  · have hr32 : r.size = 8 ∨ r.size = 32 := by
      have := aw_len hp1
      rw [hsr] at this
      exact this
    obtain ⟨h, hh⟩ : ∃ h, h = r.size / 2 := ⟨_, rfl⟩
    have hh2 : r.size = 2 * h := by omega
    have hh16 : h ≤ 16 := by omega
    obtain ⟨m, hm⟩ : ∃ m, hiH r.data.toList = m := ⟨_, rfl⟩
    obtain ⟨b, hb⟩ : ∃ b, loH r.data.toList = b := ⟨_, rfl⟩
    have IB := hide (fun (j : Nat) (hj : j < h) => (show ∃ c : UInt8, b.getD j 0 = c ∧ ∀ W : World, (Instr.index 9 (.string r) (.int .i64 (j : Int))).run Tryz.prog W = .ok (.int .u8 (c.toNat : Int)) W from
      ⟨r[j], by rw [← hb, loH, hsr, ← hh, List.getD_eq_getElem?_getD, List.getElem?_take, if_pos hj, List.getElem?_eq_getElem (by rw [hsr]; omega)]; rfl, str_i r j (by omega) _ rfl⟩))
    have IM := hide (fun (j : Nat) (hj : j < h) => (show ∃ c : UInt8, m.getD j 0 = c ∧ ∀ W : World, (Instr.index 9 (.string r) (.int .i64 ((h : Int) + (j : Int)))).run Tryz.prog W = .ok (.int .u8 (c.toNat : Int)) W from
      ⟨r[h + j], by rw [← hm, hiH, hsr, ← hh, List.getD_eq_getElem?_getD, List.getElem?_drop, List.getElem?_eq_getElem (by rw [hsr]; omega)]; rfl, str_i r (h + j) (by omega) _ (by omega)⟩))
    have hml : m.length = h := by rw [← hm, hiH, List.length_drop, hsr]; omega
    have hbl : b.length = h := by rw [← hb, loH, List.length_take, hsr]; omega
    have hdv : (r.size : Int) / 2 = (h : Int) := by omega
    have hq0 : (if (a.size == r.size && p2) = true then subG m (hiH a.data.toList) h 0 && mskG (loH a.data.toList) m b h 0 else (a.size == h && p3) && mskG a.data.toList m b h 0) = q := by
      rw [← hq, awB, hp1, hp2, hp3, hsa, hsr, hm, hb, hml, hbl]; rfl
    have HQ0 := hide hq0
    clear hq hp1 hp2 hp3 hm hb hml hbl hq0
    by_cases hw : p3 = true ∧ a.size = h
    · obtain ⟨rfl, hah⟩ := hw
      have HM := hide (show awG false a.data.toList m b [] (h - 0) 0 = q by
        rw [awG_one, ← HQ0.out, show (a.size == r.size) = false by rw [beq_eq_false_iff_ne]; omega, show (a.size == h) = true by rw [hah]; simp]; rfl)
      have IX := hide (fun (j : Nat) (hj : j < h) => (show ∃ c : UInt8, a.data.toList.getD j 0 = c ∧ ∀ W : World, (Instr.index 9 (.string a) (.int .i64 (j : Int))).run Tryz.prog W = .ok (.int .u8 (c.toNat : Int)) W from
        ⟨a[j], getD_str a j (by omega), str_i a j (by omega) _ rfl⟩))
      have t1 : ((a.size : Int) == (h : Int)) = true := by rw [hah]; simp
      have t1' : decide (a.size = h) = true := by simpa using hah
      obtain ⟨x, hx⟩ : ∃ x, a.data.toList = x := ⟨_, rfl⟩
      rw [hx] at HM IX
      clear hsa hsr hr32 hh hh2 hah hx
      go_enter Tryz.func70, Tryz.ntmps70
      go_wp2_with fail
      refine (rrange_any r hr true P1.out _).mono ?_
      rintro e w1 ⟨rfl, hb1⟩
      have HB1 := hide hb1
      clear hb1
      go_wp2_with fail
      refine (raddr_any a true P3.out _).mono ?_
      rintro e w2 ⟨rfl, rfl⟩
      go_wp2_with fail
      go_loopw [7] (fun i wr => ∃ k : Nat, k ≤ h ∧ i = .int .i64 k ∧ Below w.heap.size w wr ∧ Hid (awG false x m b [] (h - k) k = q)) (fun i _ => h - (intOf i).toNat)
      case atStart => exact ⟨0, Nat.zero_le _, rfl, HB1.out, HM⟩
      case round =>
        obtain ⟨k, hk, rfl, hbr, H⟩ := hrel
        have HBR := hide hbr
        by_cases hlt : k < h
        · obtain ⟨cx, hcx, ixx⟩ := IX.out k hlt
          obtain ⟨cb, hcb, ixb⟩ := IB.out k hlt
          obtain ⟨cm, hcm, ixm⟩ := IM.out k hlt
          have hk0 : (0 : Int) ≤ (k : Int) := by omega
          have hki : (k : Int) < (h : Int) := by omega
          obtain ⟨p, hp⟩ : ∃ p, msk1 cx cm cb = p := ⟨_, rfl⟩
          have t5 := (msk1_eq cx cm cb).trans (by rw [hp])
          have HX := hide (show (p && awG false x m b [] (h - (k + 1)) (k + 1)) = q by
            rw [← H.out, show h - k = (h - (k + 1)) + 1 by omega, awG, hcx, hcb, hcm, hp]; simp)
          clear hbr hp hcx hcb hcm
          cases p
          · have HY := hide (show false = q from HX.out)
            go_wp2_with fail
            go_quiet (fail)
            go_wp2_with fail
            go_ret
            exact ⟨ret_bool HY.out, below_drewN HBR.out _⟩
          · have HY := hide (show awG false x m b [] (h - (k + 1)) (k + 1) = q from HX.out)
            go_wp2_with fail
            go_quiet (fail)
            go_wp2_with fail
            go_roundw
            case rel => exact ⟨k + 1, by omega, by go_num, below_drewN HBR.out _, HY⟩
            case measure => simp [intOf]; omega
        · have HY := hide (show true = q by rw [← H.out, show h - k = 0 by omega, awG])
          clear hbr
          go_wp2_with fail
          go_ret
          exact ⟨ret_bool HY.out, HBR.out⟩
    · have hwf : (a.size == h && p3) = false := by
        rw [Bool.eq_false_iff]
        intro h2
        simp only [Bool.and_eq_true, beq_iff_eq] at h2
        exact hw ⟨h2.2, h2.1⟩
      have HWF := hide hwf
      by_cases hl : a.size = r.size
      · have t2 : ((a.size : Int) != (r.size : Int)) = false := by rw [hl]; simp
        have t2' : ¬ a.size = h := by omega
        have t1 : ((a.size : Int) == (h : Int)) = false := by rw [beq_eq_false_iff_ne]; omega
        cases p2
        · have HN := hide (show false = q by rw [← HQ0.out, hwf, Bool.and_false]; rfl)
          clear hsa hsr hr32 hh hh2 hw hwf hl
          go_enter Tryz.func70, Tryz.ntmps70
          go_wp2_with fail
          refine (rrange_any r hr true P1.out _).mono ?_
          rintro e w1 ⟨rfl, hb1⟩
          have HB1 := hide hb1
          clear hb1
          go_wp2_with fail
          refine (raddr_any a p3 P3.out _).mono ?_
          rintro e w2 ⟨rfl, rfl⟩
          cases p3
          all_goals
            go_wp2_with fail
            refine (rrange_any a ha false P2.out _).mono ?_
            rintro e w3 ⟨rfl, hb3⟩
            go_wp2_with fail
            go_ret
            exact ⟨ret_bool HN.out, HB1.out.trans (hb3.mono HB1.out.size)⟩
        · obtain ⟨x, hx⟩ : ∃ x, loH a.data.toList = x := ⟨_, rfl⟩
          obtain ⟨o, ho⟩ : ∃ o, hiH a.data.toList = o := ⟨_, rfl⟩
          have has : a.size = 2 * h := by omega
          have HM := hide (show awG true x m b o (h - 0) 0 = q by
            rw [awG_two, ← HQ0.out, show (a.size == r.size) = true by rw [hl]; simp, hx, ho]; rfl)
          have IX := hide (fun (j : Nat) (hj : j < h) => (show ∃ c : UInt8, x.getD j 0 = c ∧ ∀ W : World, (Instr.index 9 (.string a) (.int .i64 (j : Int))).run Tryz.prog W = .ok (.int .u8 (c.toNat : Int)) W from
            ⟨a[j], by rw [← hx, loH, hsa, show a.size / 2 = h by omega, List.getD_eq_getElem?_getD, List.getElem?_take, if_pos hj, List.getElem?_eq_getElem (by rw [hsa]; omega)]; rfl, str_i a j (by omega) _ rfl⟩))
          have IO := hide (fun (j : Nat) (hj : j < h) => (show ∃ c : UInt8, o.getD j 0 = c ∧ ∀ W : World, (Instr.index 9 (.string a) (.int .i64 ((h : Int) + (j : Int)))).run Tryz.prog W = .ok (.int .u8 (c.toNat : Int)) W from
            ⟨a[h + j], by rw [← ho, hiH, hsa, show a.size / 2 = h by omega, List.getD_eq_getElem?_getD, List.getElem?_drop, List.getElem?_eq_getElem (by rw [hsa]; omega)]; rfl, str_i a (h + j) (by omega) _ (by omega)⟩))
          clear hsa hsr hr32 hh hh2 hw hwf hl hx ho has
          go_enter Tryz.func70, Tryz.ntmps70
          go_wp2_with fail
          refine (rrange_any r hr true P1.out _).mono ?_
          rintro e w1 ⟨rfl, hb1⟩
          have HB1 := hide hb1
          clear hb1
          go_wp2_with fail
          refine (raddr_any a p3 P3.out _).mono ?_
          rintro e w2 ⟨rfl, rfl⟩
          cases p3
          all_goals
            go_wp2_with fail
            refine (rrange_any a ha true P2.out _).mono ?_
            rintro e w3 ⟨rfl, hb3⟩
            have HB3 := hide (HB1.out.trans (hb3.mono HB1.out.size))
            clear hb3
            go_wp2_with fail
            go_loopw [7] (fun i wr => ∃ k : Nat, k ≤ h ∧ i = .int .i64 k ∧ Below w.heap.size w wr ∧ Hid (awG true x m b o (h - k) k = q)) (fun i _ => h - (intOf i).toNat)
            case atStart => exact ⟨0, Nat.zero_le _, rfl, HB3.out, HM⟩
            case round =>
              obtain ⟨k, hk, rfl, hbr, H⟩ := hrel
              have HBR := hide hbr
              by_cases hlt : k < h
              · obtain ⟨cx, hcx, ixx⟩ := IX.out k hlt
                obtain ⟨cb, hcb, ixb⟩ := IB.out k hlt
                obtain ⟨cm, hcm, ixm⟩ := IM.out k hlt
                obtain ⟨co, hco, ixo⟩ := IO.out k hlt
                have hk0 : (0 : Int) ≤ (k : Int) := by omega
                have hki : (k : Int) < (h : Int) := by omega
                obtain ⟨p, hp⟩ : ∃ p, msk1 cx cm cb = p := ⟨_, rfl⟩
                obtain ⟨p5, hp5⟩ : ∃ p, msk1 co cm cm = p := ⟨_, rfl⟩
                have t5 := (msk1_eq cx cm cb).trans (by rw [hp])
                have t6 := (msk1_eq co cm cm).trans (by rw [hp5])
                have HX := hide (show ((p && p5) && awG true x m b o (h - (k + 1)) (k + 1)) = q by
                  rw [← H.out, show h - k = (h - (k + 1)) + 1 by omega, awG, hcx, hcb, hcm, hco, hp, hp5]; simp)
                clear hbr hp hp5 hcx hcb hcm hco
                cases p
                · have HY := hide (show false = q from HX.out)
                  go_wp2_with fail
                  go_quiet (fail)
                  go_wp2_with fail
                  go_ret
                  exact ⟨ret_bool HY.out, below_drewN HBR.out _⟩
                · cases p5
                  · have HY := hide (show false = q from HX.out)
                    go_wp2_with fail
                    go_quiet (fail)
                    go_wp2_with fail
                    go_ret
                    exact ⟨ret_bool HY.out, below_drewN HBR.out _⟩
                  · have HY := hide (show awG true x m b o (h - (k + 1)) (k + 1) = q from HX.out)
                    go_wp2_with fail
                    go_quiet (fail)
                    go_wp2_with fail
                    go_roundw
                    case rel => exact ⟨k + 1, by omega, by go_num, below_drewN HBR.out _, HY⟩
                    case measure => simp [intOf]; omega
              · have HY := hide (show true = q by rw [← H.out, show h - k = 0 by omega, awG])
                clear hbr
                go_wp2_with fail
                go_ret
                exact ⟨ret_bool HY.out, HBR.out⟩
      · have t2 : ((a.size : Int) != (r.size : Int)) = true := by rw [bne_iff_ne]; omega
        have HN := hide (show false = q by rw [← HQ0.out, show (a.size == r.size) = false by rw [beq_eq_false_iff_ne]; exact hl, hwf]; rfl)
        by_cases hah : a.size = h
        · have hp3 : p3 = false := by
            cases p3
            · rfl
            · exact absurd ⟨rfl, hah⟩ hw
          subst hp3
          clear hsa hsr hr32 hh hh2 hw hwf hl hah
          go_enter Tryz.func70, Tryz.ntmps70
          go_wp2_with fail
          refine (rrange_any r hr true P1.out _).mono ?_
          rintro e w1 ⟨rfl, hb1⟩
          have HB1 := hide hb1
          clear hb1
          go_wp2_with fail
          refine (raddr_any a false P3.out _).mono ?_
          rintro e w2 ⟨rfl, rfl⟩
          go_wp2_with fail
          refine (rrange_any a ha p2 P2.out _).mono ?_
          rintro e w3 ⟨rfl, hb3⟩
          cases p2
          all_goals
            go_wp2_with fail
            go_ret
            exact ⟨ret_bool HN.out, HB1.out.trans (hb3.mono HB1.out.size)⟩
        · have t1 : ((a.size : Int) == (h : Int)) = false := by rw [beq_eq_false_iff_ne]; omega
          have t1' : ¬ a.size = h := hah
          clear hsa hsr hr32 hh hh2 hw hwf hl hah
          go_enter Tryz.func70, Tryz.ntmps70
          go_wp2_with fail
          refine (rrange_any r hr true P1.out _).mono ?_
          rintro e w1 ⟨rfl, hb1⟩
          have HB1 := hide hb1
          clear hb1
          go_wp2_with fail
          refine (raddr_any a p3 P3.out _).mono ?_
          rintro e w2 ⟨rfl, rfl⟩
          cases p3
          all_goals
            go_wp2_with fail
            refine (rrange_any a ha p2 P2.out _).mono ?_
            rintro e w3 ⟨rfl, hb3⟩
            cases p2
            all_goals
              go_wp2_with fail
              go_ret
              exact ⟨ret_bool HN.out, HB1.out.trans (hb3.mono HB1.out.size)⟩
end Go.Proofs.YtodapmkdmkhhfaaGreatDoor
