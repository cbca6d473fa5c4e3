/- The reference's Mail, MailBase, MailMatch, MailWithin. -/
import Derived.Test.YtodapmkdmkhhfaaGreatDoorRefD
namespace Go.Proofs.YtodapmkdmkhhfaaGreatDoor
open Go.RowKit

set_option maxHeartbeats 1000000 in
theorem rmail_any (s : ByteArray) (hs : s.size ≤ 1000000) (q : Bool) (hq : mailB s.data.toList = q) (w : World) :
    Calls Tryz.prog 57 #[.string s] w fun e w' => e = .returned (.bool q) ∧ Below w.heap.size w w' := by
  have PT := hide (rparts_any s hs q hq w)
  clear hq
  go_enter Tryz.func57, Tryz.ntmps57
  go_wp2_with fail
  refine PT.out.mono ?_
  rintro e w1 ⟨a, b, H, ha, hb, rfl, hb1⟩
  go_wp2_with fail
  go_ret
  exact ⟨rfl, hb1⟩
theorem mail_len {s : List UInt8} (h : mailB s = true) : s.length ≤ 128 := by
  unfold mailB at h
  simp only [Bool.and_eq_true, decide_eq_true_eq] at h
  exact h.1.1.2
theorem dns_len {s : List UInt8} (h : dnsB s = true) : s.length ≤ 128 := by
  unfold dnsB at h
  simp only [Bool.and_eq_true, decide_eq_true_eq] at h
  exact h.1
theorem dns_dot (r : List UInt8) : dnsB (46 :: r) = false := by
  have h : splitC 46 (46 :: r) = [] :: splitC 46 r := splitC_hit 46 [] r (fun x hx => by cases hx)
  unfold dnsB
  rw [h, List.all_cons, show labB [] = false by decide, Bool.false_and, Bool.and_false]
theorem rmb_eq (s : List UInt8) : mbB s = (mailB s || (dnsB s || (decide (s.length ≤ 128) && decide (1 < s.length) && (s.getD 0 0 == 46) && dnsB (s.drop 1)))) := by
  unfold mbB
  match s with
  | [] => decide
  | b :: r =>
    by_cases hb : b = 46
    · subst hb
      have ht : Lib.trimPrefix (46 :: r) [46] = r := by
        unfold Lib.trimPrefix Lib.hasPrefix
        rw [if_pos (by simp [List.isPrefixOf])]; rfl
      rw [ht, dns_dot]
      simp only [List.getD_cons_zero, List.drop_succ_cons, List.drop_zero, Bool.false_or]
      by_cases hm : mailB (46 :: r) = true
      · rw [hm, decide_eq_true (mail_len hm)]; rfl
      · rw [Bool.eq_false_iff.2 hm, Bool.false_or, Bool.false_or]
        by_cases hr : r = []
        · subst hr; rw [dns_nil]; simp
        · have : 0 < r.length := List.length_pos_iff.2 hr
          rw [decide_eq_true (show 1 < (46 :: r).length by simp; omega)]
          simp
    · have ht : Lib.trimPrefix (b :: r) [46] = b :: r := by
        unfold Lib.trimPrefix Lib.hasPrefix
        rw [if_neg]
        simp only [List.isPrefixOf, Bool.and_true, beq_iff_eq]
        exact fun e => hb e.symm
      rw [ht, show ((b :: r).getD 0 0 == 46) = false from beq_eq_false_iff_ne.2 hb]
      simp only [Bool.and_false, Bool.false_and, Bool.or_false]
      by_cases hm : (mailB (b :: r) || dnsB (b :: r)) = true
      · rw [hm, Bool.and_true]
        rcases Bool.or_eq_true_iff.1 hm with h | h
        · exact decide_eq_true (mail_len h)
        · exact decide_eq_true (dns_len h)
      · rw [Bool.eq_false_iff.2 hm, Bool.and_false]

set_option maxHeartbeats 2000000 in
theorem rmb_any (s : ByteArray) (hs : s.size ≤ 1000000) (q : Bool) (hq : mbB s.data.toList = q) (w : World) :
    Calls Tryz.prog 94 #[.string s] w fun e w' => e = .returned (.bool q) ∧ Below w.heap.size w w' := by
  have hss := size_string s
  rw [rmb_eq, hss] at hq
  obtain ⟨p1, hp1⟩ : ∃ p, mailB s.data.toList = p := ⟨_, rfl⟩
  obtain ⟨p2, hp2⟩ : ∃ p, dnsB s.data.toList = p := ⟨_, rfl⟩
  rw [hp1, hp2] at hq
  have HP1 := hide hp1
  have HP2 := hide hp2
  clear hp1 hp2
  cases p1
  · cases p2
    · by_cases h1 : s.size ≤ 128
      · by_cases h2 : 1 < s.size
        · have hp0 : 0 < s.size := by omega
          rw [decide_eq_true h1, decide_eq_true h2, getD_str s 0 hp0] at hq
          obtain ⟨y, hy⟩ : ∃ y : ByteArray, y = s.extract 1 s.size := ⟨_, rfl⟩
          have hyl : y.data.toList = s.data.toList.drop 1 := by
            rw [hy, Lib.extract_data, List.take_of_length_le]
            rw [List.length_drop, hss]; omega
          have hys : y.size ≤ 1000000 := by rw [hy, ba_size_ex _ _ _ (Nat.le_refl _)]; omega
          have HS2 : ∀ W : World, (Instr.slice 9 (.string s) (some (.int .i64 1)) none none).run Tryz.prog W = .ok (.string y) W := fun W => by
            have h9 := run_slice_string_l (P := Tryz.prog) W 9 s Tryz.underlying9 .i64 1 (by omega) (by omega)
            rw [h9, hy]; rfl
          rw [← hyl] at hq
          obtain ⟨p4, hp4⟩ : ∃ p, dnsB y.data.toList = p := ⟨_, rfl⟩
          rw [hp4] at hq
          have HP4 := hide hp4
          obtain ⟨p3, hp3⟩ : ∃ p, (s[0]'hp0 == 46) = p := ⟨_, rfl⟩
          have t3 : (((s[0]'hp0).toNat : Int) == 46) = p3 := (byte_beq (s[0]'hp0) 46).trans hp3
          rw [hp3] at hq
          have HQ := hide (show (p3 && p4) = q by rw [← hq]; rfl)
          have e1 : (s.size : Int) ≤ 128 := by omega
          have e2 : (1 : Int) < (s.size : Int) := by omega
          clear hq hyl hy hp3 hp4 hss
          go_enter Tryz.func94, Tryz.ntmps94
          go_wp2_with fail
          refine (rmail_any s hs false HP1.out _).mono ?_
          rintro e w1 ⟨rfl, hb1⟩
          have HB1 := hide hb1
          clear hb1
          go_wp2_with fail
          refine (rdns_any s hs false HP2.out _).mono ?_
          rintro e w2 ⟨rfl, hb2⟩
          have HB2 := hide (HB1.out.trans (hb2.mono HB1.out.size))
          clear hb2
          cases p3
          · have HN := hide (show q = false from HQ.out.symm)
            go_wp2_with fail
            go_ret
            exact ⟨ret_bool HN.out.symm, HB2.out⟩
          · go_wp2_with fail
            refine (rdns_any y hys p4 HP4.out _).mono ?_
            rintro e w3 ⟨rfl, hb3⟩
            have HB3 := hide (HB2.out.trans (hb3.mono HB2.out.size))
            clear hb3
            go_wp2_with fail
            go_ret
            exact ⟨ret_bool (by rw [← HQ.out]; rfl), HB3.out⟩
        · have HQ := hide (show q = false by rw [← hq, decide_eq_false h2]; simp)
          have e1 : (s.size : Int) ≤ 128 := by omega
          have e2 : ¬ (1 : Int) < (s.size : Int) := by omega
          clear hq hss
          go_enter Tryz.func94, Tryz.ntmps94
          go_wp2_with fail
          refine (rmail_any s hs false HP1.out _).mono ?_
          rintro e w1 ⟨rfl, hb1⟩
          have HB1 := hide hb1
          clear hb1
          go_wp2_with fail
          refine (rdns_any s hs false HP2.out _).mono ?_
          rintro e w2 ⟨rfl, hb2⟩
          have HN := hide (show q = false from HQ.out)
          go_wp2_with fail
          go_ret
          exact ⟨ret_bool HN.out.symm, HB1.out.trans (hb2.mono HB1.out.size)⟩
      · have HQ := hide (show q = false by rw [← hq, decide_eq_false h1]; simp)
        have e1 : ¬ (s.size : Int) ≤ 128 := by omega
        clear hq hss
        go_enter Tryz.func94, Tryz.ntmps94
        go_wp2_with fail
        refine (rmail_any s hs false HP1.out _).mono ?_
        rintro e w1 ⟨rfl, hb1⟩
        have HB1 := hide hb1
        clear hb1
        go_wp2_with fail
        refine (rdns_any s hs false HP2.out _).mono ?_
        rintro e w2 ⟨rfl, hb2⟩
        have HN := hide (show q = false from HQ.out)
        go_wp2_with fail
        go_ret
        exact ⟨ret_bool HN.out.symm, HB1.out.trans (hb2.mono HB1.out.size)⟩
    · have HQ := hide (show true = q by rw [← hq]; rfl)
      clear hq hss
      go_enter Tryz.func94, Tryz.ntmps94
      go_wp2_with fail
      refine (rmail_any s hs false HP1.out _).mono ?_
      rintro e w1 ⟨rfl, hb1⟩
      have HB1 := hide hb1
      clear hb1
      go_wp2_with fail
      refine (rdns_any s hs true HP2.out _).mono ?_
      rintro e w2 ⟨rfl, hb2⟩
      go_wp2_with fail
      go_ret
      exact ⟨ret_bool HQ.out, HB1.out.trans (hb2.mono HB1.out.size)⟩
  · have HQ := hide (show true = q by rw [← hq]; rfl)
    clear hq hss
    go_enter Tryz.func94, Tryz.ntmps94
    go_wp2_with fail
    refine (rmail_any s hs true HP1.out _).mono ?_
    rintro e w1 ⟨rfl, hb1⟩
    go_wp2_with fail
    go_ret
    exact ⟨ret_bool HQ.out, hb1⟩

set_option maxHeartbeats 4000000 in
theorem rmm_any (a b : ByteArray) (ha : a.size ≤ 1000000) (hb : b.size ≤ 1000000) (q : Bool) (hq : mmB a.data.toList b.data.toList = q) (w : World) :
    Calls Tryz.prog 58 #[.string a, .string b] w fun e w' => e = .returned (.bool q) ∧ Below w.heap.size w w' := by
  obtain ⟨p1, hp1⟩ : ∃ p, mailB a.data.toList = p := ⟨_, rfl⟩
  obtain ⟨p2, hp2⟩ : ∃ p, mailB b.data.toList = p := ⟨_, rfl⟩
  have HQ := hide (show (p1 && p2 && ((cutA a.data.toList).1 == (cutA b.data.toList).1 && eqF (cutA a.data.toList).2.1 (cutA b.data.toList).2.1)) = q by rw [← hq, mmB, hp1, hp2])
  have HP1 := hide hp1
  have HP2 := hide hp2
  clear hq hp1 hp2
  go_enter Tryz.func58, Tryz.ntmps58
  go_wp2_with fail
  refine (rparts_any a ha p1 HP1.out _).mono ?_
  rintro e w1 ⟨a1, a2, HA, ha1, ha2, rfl, hb1⟩
  have HB1 := hide hb1
  clear hb1
  go_wp2_with fail
  refine (rparts_any b hb p2 HP2.out _).mono ?_
  rintro e w2 ⟨b1, b2, HB, hb1, hb2, rfl, hw2⟩
  have HB2 := hide (HB1.out.trans (hw2.mono HB1.out.size))
  clear hw2
  cases p1
  · have HN := hide (show q = false from HQ.out.symm)
    go_wp2_with fail
    go_ret
    exact ⟨ret_bool HN.out.symm, HB2.out⟩
  · cases p2
    · have HN := hide (show q = false from HQ.out.symm)
      go_wp2_with fail
      go_ret
      exact ⟨ret_bool HN.out.symm, HB2.out⟩
    · have HA1 := hide (show a1.data.toList = (cutA a.data.toList).1 from HA.out.1)
      have HB3 := hide (show b1.data.toList = (cutA b.data.toList).1 from HB.out.1)
      obtain ⟨p3, hp3⟩ : ∃ p, (a1.toList == b1.toList) = p := ⟨_, rfl⟩
      obtain ⟨p4, hp4⟩ : ∃ p, eqF a2.data.toList b2.data.toList = p := ⟨_, rfl⟩
      have HQ2 := hide (show (p3 && p4) = q by
        have h2 : a2.data.toList = (cutA a.data.toList).2.1 := HA.out.2
        have h3 : b2.data.toList = (cutA b.data.toList).2.1 := HB.out.2
        rw [← HQ.out, ← HA1.out, ← HB3.out, ← h2, ← h3, hp4, ← hp3, str_beq]; rfl)
      have HP4 := hide hp4
      clear hp4
      cases p3
      · have n1 : ¬ a1.toList = b1.toList := beq_eq_false_iff_ne.1 hp3
        have HN := hide (show q = false from HQ2.out.symm)
        go_wp2_with fail
        go_ret
        exact ⟨ret_bool HN.out.symm, HB2.out⟩
      · have n1 : a1.toList = b1.toList := eq_of_beq hp3
        go_wp2_with fail
        refine (ralike_any a2 b2 (by omega) (by omega) p4 HP4.out _).mono ?_
        rintro e w3 ⟨rfl, hw3⟩
        go_wp2_with fail
        go_ret
        exact ⟨ret_bool (by rw [← HQ2.out]; rfl), HB2.out.trans (hw3.mono HB2.out.size)⟩

theorem mem_split (c : UInt8) : ∀ (l : List UInt8) (x : UInt8), x ∈ l → x = c ∨ ∃ p ∈ splitC c l, x ∈ p
  | [], x, hx => by cases hx
  | b :: l, x, hx => by
    by_cases hxc : x = c
    · exact .inl hxc
    · right
      unfold splitC
      by_cases hb : b = c
      · rw [if_pos hb]
        rcases List.mem_cons.1 hx with rfl | hx
        · exact absurd hb hxc
        · rcases mem_split c l x hx with h | ⟨p, hp, hxp⟩
          · exact absurd h hxc
          · exact ⟨p, by simp [hp], hxp⟩
      · rw [if_neg hb]
        rcases hsp : splitC c l with _ | ⟨p, ps⟩
        · exact absurd hsp (splitC_ne c l)
        · rcases List.mem_cons.1 hx with rfl | hx
          · exact ⟨x :: p, by simp, by simp⟩
          · rcases mem_split c l x hx with h | ⟨p', hp', hxp⟩
            · exact absurd h hxc
            · rw [hsp] at hp'
              rcases List.mem_cons.1 hp' with rfl | hp'
              · exact ⟨b :: p', by simp, by simp [hxp]⟩
              · exact ⟨p', by simp [hp'], hxp⟩
theorem dns_noat {s : List UInt8} (h : dnsB s = true) : ∀ x ∈ s, x ≠ 64 := by
  rintro x hx rfl
  rcases mem_split 46 s 64 hx with h2 | ⟨p, hp, hxp⟩
  · exact absurd h2 (by decide)
  · unfold dnsB at h
    simp only [Bool.and_eq_true, decide_eq_true_eq, List.all_eq_true] at h
    have hl := h.2 p hp
    unfold labB at hl
    simp only [Bool.and_eq_true, List.all_eq_true] at hl
    exact absurd (hl.2 64 hxp) (by decide)
theorem where_plain {s : List UInt8} (h1 : mbB s = true) (h2 : mailB s = false) : whereS s = s := by
  have hn : ∀ x ∈ s, x ≠ 64 := by
    rw [rmb_eq, h2, Bool.false_or, Bool.or_eq_true] at h1
    rcases h1 with h1 | h1
    · exact dns_noat h1
    · simp only [Bool.and_eq_true, decide_eq_true_eq, beq_iff_eq] at h1
      match s, h1 with
      | [], _ => exact fun x hx => by cases hx
      | b :: r, h1 =>
        intro x hx
        rcases List.mem_cons.1 hx with rfl | hx
        · have : x = 46 := h1.1.2
          rw [this]; decide
        · exact dns_noat h1.2 x hx
  rw [whereS, cutA_none s hn]
  rfl

set_option maxHeartbeats 4000000 in
theorem rmw_any (s b : ByteArray) (hs : s.size ≤ 1000000) (hb : b.size ≤ 1000000) (q : Bool) (hq : mwB s.data.toList b.data.toList = q) (w : World) :
    Calls Tryz.prog 67 #[.string s, .string b] w fun e w' => e = .returned (.bool q) ∧ Below w.heap.size w w' := by
  obtain ⟨p1, hp1⟩ : ∃ p, mbB b.data.toList = p := ⟨_, rfl⟩
  obtain ⟨p2, hp2⟩ : ∃ p, mbB s.data.toList = p := ⟨_, rfl⟩
  obtain ⟨p3, hp3⟩ : ∃ p, mailB b.data.toList = p := ⟨_, rfl⟩
  obtain ⟨p6, hp6⟩ : ∃ p, mailB s.data.toList = p := ⟨_, rfl⟩
  have HN := hide (show (p1 && p2 && (if p3 = true then mmB s.data.toList b.data.toList else eqF (whereS s.data.toList) b.data.toList || (b.data.toList.getD 0 0 == 46 && endsF (whereS s.data.toList) b.data.toList))) = q by rw [← hq, mwB, hp1, hp2, hp3])
  have HP1 := hide hp1
  have HP2 := hide hp2
  have HP3 := hide hp3
  have HP6 := hide hp6
  clear hq hp1 hp2 hp3 hp6
  go_enter Tryz.func67, Tryz.ntmps67
  go_wp2_with fail
  refine (rmb_any b hb p1 HP1.out _).mono ?_
  rintro e w1 ⟨rfl, hw1⟩
  have HB1 := hide hw1
  clear hw1
  cases p1
  · have HN := hide (show q = false from HN.out.symm)
    go_wp2_with fail
    go_ret
    exact ⟨ret_bool HN.out.symm, HB1.out⟩
  · have hpos : 0 < b.size := by
      rcases Nat.eq_zero_or_pos b.size with h | h
      · have h1 := HP1.out
        rw [List.eq_nil_of_length_eq_zero (by rw [size_string, h] : b.data.toList.length = 0), mb_nil] at h1
        cases h1
      · exact h
    go_wp2_with fail
    refine (rparts_any s hs p6 HP6.out _).mono ?_
    rintro e w2 ⟨a1, a2, HA, ha1, ha2, rfl, hw2⟩
    have HB2 := hide (HB1.out.trans (hw2.mono HB1.out.size))
    clear hw2
    cases p6
    · go_wp2_with fail
      refine (rmb_any s hs p2 HP2.out _).mono ?_
      rintro e w3 ⟨rfl, hw3⟩
      have HB3 := hide (HB2.out.trans (hw3.mono HB2.out.size))
      clear hw3
      cases p2
      · have HN := hide (show q = false from HN.out.symm)
        go_wp2_with fail
        go_ret
        exact ⟨ret_bool HN.out.symm, HB3.out⟩
      · go_wp2_with fail
        refine (rmail_any b hb p3 HP3.out _).mono ?_
        rintro e w4 ⟨rfl, hw4⟩
        have HB4 := hide (HB3.out.trans (hw4.mono HB3.out.size))
        clear hw4
        cases p3
        · have hx : whereS s.data.toList = s.data.toList := where_plain HP2.out HP6.out
          obtain ⟨p4, hp4⟩ : ∃ p, eqF s.data.toList b.data.toList = p := ⟨_, rfl⟩
          obtain ⟨p5, hp5⟩ : ∃ p, endsF s.data.toList b.data.toList = p := ⟨_, rfl⟩
          have HN4 := hide (show (p4 || (b[0] == 46 && p5)) = q by rw [← HN.out, hx, hp4, hp5, getD_str b 0 hpos]; rfl)
          have HP4 := hide hp4
          have HP5 := hide hp5
          clear hx hp4 hp5
          go_wp2_with fail
          refine (ralike_any s b (by omega) (by omega) p4 HP4.out _).mono ?_
          rintro e w5 ⟨rfl, hw5⟩
          have HB5 := hide (HB4.out.trans (hw5.mono HB4.out.size))
          clear hw5
          cases p4
          · by_cases hc : b[0] = 46
            · have t3 : ((b[0].toNat : Int) == 46) = true := by rw [hc]; rfl
              have HN5 := hide (show p5 = q by rw [← HN4.out, hc]; simp)
              clear hc
              go_wp2_with fail
              refine (rends_any s b (by omega) (by omega) p5 HP5.out _).mono ?_
              rintro e w6 ⟨rfl, hw6⟩
              go_wp2_with fail
              go_ret
              exact ⟨ret_bool HN5.out, HB5.out.trans (hw6.mono HB5.out.size)⟩
            · have t3 : ((b[0].toNat : Int) == 46) = false := (byte_beq b[0] 46).trans (by simpa using hc)
              have HN5 := hide (show false = q by rw [← HN4.out, show (b[0] == 46) = false by simpa using hc]; rfl)
              clear hc
              go_wp2_with fail
              go_ret
              exact ⟨ret_bool HN5.out, HB5.out⟩
          · go_wp2_with fail
            go_ret
            exact ⟨ret_bool (by rw [← HN4.out]; rfl), HB5.out⟩
        · have hmm : mmB s.data.toList b.data.toList = false := by rw [mmB, HP6.out]; rfl
          have hqf : q = false := by
            rw [← HN.out, hmm]
            rfl
          have HNF := hide hqf
          clear hmm hqf
          go_wp2_with fail
          go_ret
          exact ⟨ret_bool HNF.out.symm, HB4.out⟩
    · have hp2t : p2 = true := by
        rw [← HP2.out, rmb_eq, HP6.out]; rfl
      subst hp2t
      go_wp2_with fail
      refine (rmail_any b hb p3 HP3.out _).mono ?_
      rintro e w3 ⟨rfl, hw3⟩
      have HB3 := hide (HB2.out.trans (hw3.mono HB2.out.size))
      clear hw3
      cases p3
      · have hx : whereS s.data.toList = a2.data.toList := by
          have hf : (cutA s.data.toList).2.2 = true := by
            have := HP6.out
            unfold mailB at this
            simp only [Bool.and_eq_true] at this
            exact this.1.1.1
          rw [whereS, if_pos hf]
          exact HA.out.2.symm
        obtain ⟨p4, hp4⟩ : ∃ p, eqF a2.data.toList b.data.toList = p := ⟨_, rfl⟩
        obtain ⟨p5, hp5⟩ : ∃ p, endsF a2.data.toList b.data.toList = p := ⟨_, rfl⟩
        have HN4 := hide (show (p4 || (b[0] == 46 && p5)) = q by rw [← HN.out, hx, hp4, hp5, getD_str b 0 hpos]; rfl)
        have HP4 := hide hp4
        have HP5 := hide hp5
        clear hx hp4 hp5
        go_wp2_with fail
        refine (ralike_any a2 b (by omega) (by omega) p4 HP4.out _).mono ?_
        rintro e w5 ⟨rfl, hw5⟩
        have HB5 := hide (HB3.out.trans (hw5.mono HB3.out.size))
        clear hw5
        cases p4
        · by_cases hc : b[0] = 46
          · have t3 : ((b[0].toNat : Int) == 46) = true := by rw [hc]; rfl
            have HN5 := hide (show p5 = q by rw [← HN4.out, hc]; simp)
            clear hc
            go_wp2_with fail
            refine (rends_any a2 b (by omega) (by omega) p5 HP5.out _).mono ?_
            rintro e w6 ⟨rfl, hw6⟩
            go_wp2_with fail
            go_ret
            exact ⟨ret_bool HN5.out, HB5.out.trans (hw6.mono HB5.out.size)⟩
          · have t3 : ((b[0].toNat : Int) == 46) = false := (byte_beq b[0] 46).trans (by simpa using hc)
            have HN5 := hide (show false = q by rw [← HN4.out, show (b[0] == 46) = false by simpa using hc]; rfl)
            clear hc
            go_wp2_with fail
            go_ret
            exact ⟨ret_bool HN5.out, HB5.out⟩
        · go_wp2_with fail
          go_ret
          exact ⟨ret_bool (by rw [← HN4.out]; rfl), HB5.out⟩
      · have HN3 := hide (show mmB s.data.toList b.data.toList = q by rw [← HN.out]; rfl)
        go_wp2_with fail
        refine (rmm_any s b hs hb q HN3.out _).mono ?_
        rintro e w4 ⟨rfl, hw4⟩
        go_wp2_with fail
        go_ret
        exact ⟨rfl, HB3.out.trans (hw4.mono HB3.out.size)⟩
end Go.Proofs.YtodapmkdmkhhfaaGreatDoor
