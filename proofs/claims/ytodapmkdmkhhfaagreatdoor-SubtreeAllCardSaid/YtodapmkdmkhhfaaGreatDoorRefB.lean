/- The reference's Pattern and DNSWithin. -/
import Derived.Test.YtodapmkdmkhhfaaGreatDoorRefA
import Derived.Test.YtodapmkdmkhhfaaGreatDoorHos1
namespace Go.Proofs.YtodapmkdmkhhfaaGreatDoor
open Go.RowKit

theorem ib_cases : ∀ (l : List UInt8) (c : UInt8), Lib.indexByte l c = -1 ∨ 0 ≤ Lib.indexByte l c
  | [], _ => .inl rfl
  | b :: l, c => by
    unfold Lib.indexByte
    rcases ib_cases l c with h | h
    · rw [h]
      by_cases hb : (b == c) = true
      · rw [if_pos hb]; exact .inr (by omega)
      · rw [if_neg hb]; exact .inl rfl
    · by_cases hb : (b == c) = true
      · rw [if_pos hb]; exact .inr (by omega)
      · rw [if_neg hb]
        have : (Lib.indexByte l c == -1) = false := by rw [beq_eq_false_iff_ne]; omega
        rw [this]
        exact .inr (by show (0 : Int) ≤ Lib.indexByte l c + 1; omega)
theorem split_more (l : List UInt8) (c : UInt8) : decide (1 < (splitC c l).length) = decide (0 ≤ Lib.indexByte l c) := by
  rw [splitC_index]
  rcases ib_cases l c with h | h
  · rw [if_pos h, h]; rfl
  · rw [if_neg (by omega), decide_eq_true h]
    have hn := splitC_ne c (l.drop ((Lib.indexByte l c).toNat + 1))
    have : 0 < (splitC c (l.drop ((Lib.indexByte l c).toNat + 1))).length := List.length_pos_iff.2 hn
    rw [List.length_cons, decide_eq_true (by omega)]
theorem pat_form (s : List UInt8) : (∃ r, s = 42 :: 46 :: r) ∨ (Lib.hasPrefix s [42, 46] = false ∧ (s.take 2 == [42, 46]) = false) := by
  match s with
  | [] => exact .inr ⟨rfl, rfl⟩
  | [a] =>
    refine .inr ⟨?_, ?_⟩
    · unfold Lib.hasPrefix
      cases h : ((42 : UInt8) == a) <;> simp [List.isPrefixOf, h]
    · simp
  | a :: b :: r =>
    by_cases h : a = 42 ∧ b = 46
    · obtain ⟨rfl, rfl⟩ := h
      exact .inl ⟨r, rfl⟩
    · refine .inr ⟨?_, ?_⟩
      · rw [Bool.eq_false_iff]
        intro h2
        unfold Lib.hasPrefix at h2
        simp only [List.isPrefixOf, Bool.and_eq_true, beq_iff_eq] at h2
        exact h ⟨h2.1.symm, h2.2.1.symm⟩
      · rw [beq_eq_false_iff_ne]
        intro h2
        simp only [List.take_succ_cons, List.take_zero, List.cons.injEq, and_true] at h2
        exact h h2
theorem dns_star (r : List UInt8) : dnsB (42 :: 46 :: r) = false := by
  have h := splitC_hit 46 [42] r (by simp)
  have h2 : splitC 46 (42 :: 46 :: r) = [42] :: splitC 46 r := h
  unfold dnsB
  rw [h2, List.all_cons, show labB [42] = false by decide, Bool.false_and, Bool.and_false]
theorem dns_nil : dnsB [] = false := by decide
theorem rpat_eq (s : List UInt8) : patB s = (dnsB s || (decide (s.length ≤ 128) && decide (2 < s.length) && (s.take 2 == [42, 46]) && dnsB (s.drop 2) && decide (2 < (splitC 46 s).length))) := by
  rcases pat_form s with ⟨r, rfl⟩ | ⟨h1, h2⟩
  · have h2 : splitC 46 (42 :: 46 :: r) = [42] :: splitC 46 r := splitC_hit 46 [42] r (by simp)
    rw [dns_star, h2, patB, if_pos (by rfl), ← split_more]
    simp only [List.drop_succ_cons, List.drop_zero, List.take_succ_cons, List.take_zero, List.length_cons, Bool.false_or]
    by_cases hr : r = []
    · subst hr; rw [dns_nil]; simp
    · have hl : 0 < r.length := List.length_pos_iff.2 hr
      rw [decide_eq_true (show 2 < r.length + 1 + 1 by omega), show decide (2 < (splitC 46 r).length + 1) = decide (1 < (splitC 46 r).length) by rw [decide_eq_decide]; omega]
      simp
  · rw [patB, if_neg (by rw [h1]; decide), h2]
    simp

set_option maxHeartbeats 2000000 in
theorem rpattern_any (s : ByteArray) (hs : s.size ≤ 1000000) (q : Bool) (hq : patB s.data.toList = q) (w : World) :
    Calls Tryz.prog 84 #[.string s] w fun e w' => e = .returned (.bool q) ∧ Below w.heap.size w w' := by
  have hss := size_string s
  rw [rpat_eq, hss] at hq
  obtain ⟨p0, hp0⟩ : ∃ p, dnsB s.data.toList = p := ⟨_, rfl⟩
  rw [hp0] at hq
  have HP0 := hide hp0
  clear hp0
  cases p0
  · by_cases h1 : s.size ≤ 128
    · by_cases h2 : 2 < s.size
      · rw [decide_eq_true h1, decide_eq_true h2] at hq
        obtain ⟨x, hx⟩ : ∃ x : ByteArray, x = s.extract 0 2 := ⟨_, rfl⟩
        obtain ⟨y, hy⟩ : ∃ y : ByteArray, y = s.extract 2 s.size := ⟨_, rfl⟩
        have hxl : x.data.toList = s.data.toList.take 2 := by rw [hx, Lib.extract_data]; simp
        have hyl : y.data.toList = s.data.toList.drop 2 := by
          rw [hy, Lib.extract_data, List.take_of_length_le]
          rw [List.length_drop, hss]; omega
        have hys : y.size ≤ 1000000 := by rw [hy, ba_size_ex _ _ _ (Nat.le_refl _)]; omega
        have HS1 : ∀ W : World, (Instr.slice 9 (.string s) none (some (.int .i64 2)) none).run Tryz.prog W = .ok (.string x) W := fun W => by
          have h9 := run_slice_string_h (P := Tryz.prog) W 9 s Tryz.underlying9 .i64 2 (by omega) (by omega)
          rw [h9, hx]; rfl
        have HS2 : ∀ W : World, (Instr.slice 9 (.string s) (some (.int .i64 2)) none none).run Tryz.prog W = .ok (.string y) W := fun W => by
          have h9 := run_slice_string_l (P := Tryz.prog) W 9 s Tryz.underlying9 .i64 2 (by omega) (by omega)
          rw [h9, hy]; rfl
        rw [← hxl, ← hyl] at hq
        obtain ⟨p1, hp1⟩ : ∃ p, (x.data.toList == [42, 46]) = p := ⟨_, rfl⟩
        have t1 : (x.toList == (⟨#[42, 46]⟩ : ByteArray).toList) = p1 := by rw [str_beq]; exact hp1
        obtain ⟨p2, hp2⟩ : ∃ p, dnsB y.data.toList = p := ⟨_, rfl⟩
        obtain ⟨ps, hps⟩ : ∃ ps, splitC 46 s.data.toList = ps := ⟨_, rfl⟩
        rw [hp1, hp2, hps] at hq
        have HP2 := hide hp2
        have SP := hide (fun W => hps ▸ rSplit_any s (by omega) 46 W)
        have HQ := hide (show (p1 && p2 && decide (2 < ps.length)) = q by rw [← hq]; rfl)
        have e1 : (s.size : Int) ≤ 128 := by omega
        have e2 : (2 : Int) < (s.size : Int) := by omega
        clear hq hxl hyl hx hy hp1 hp2 hps hss
        go_enter Tryz.func84, Tryz.ntmps84
        go_wp2_with fail
        refine (rdns_any s hs false HP0.out _).mono ?_
        rintro e w1 ⟨rfl, hb1⟩
        cases p1
        · have n1 : ¬ x.toList = [42, 46] := fun h => by
            rw [h] at t1
            rw [ByteArray.toList_eq] at t1
            exact absurd t1 (by decide)
          have HN := hide (show q = false from HQ.out.symm)
          go_wp2_with fail
          go_ret
          exact ⟨ret_bool HN.out.symm, hb1⟩
        · have n1 : x.toList = [42, 46] := by
            rw [eq_of_beq t1, ByteArray.toList_eq]
          have HB1 := hide hb1
          clear hb1
          go_wp2_with fail
          refine (rdns_any y hys p2 HP2.out _).mono ?_
          rintro e w2 ⟨rfl, hb2⟩
          have HB2 := hide (HB1.out.trans (hb2.mono HB1.out.size))
          clear hb2
          cases p2
          · have HN := hide (show q = false from HQ.out.symm)
            go_wp2_with fail
            go_ret
            exact ⟨ret_bool HN.out.symm, HB2.out⟩
          · go_wp2_with fail
            refine (SP.out _).mono ?_
            rintro e w3 ⟨v, rfl, hb3, hsl⟩
            obtain ⟨A, c, hv⟩ := hsl.shape
            subst hv
            have HB3 := hide (HB2.out.trans (hb3.mono HB2.out.size))
            clear hb3 hsl
            go_wp2_with fail
            go_ret
            exact ⟨ret_bool (by rw [← HQ.out]; simp; omega), HB3.out⟩
      · have HQ := hide (show q = false by rw [← hq, decide_eq_false h2]; simp)
        have e1 : (s.size : Int) ≤ 128 := by omega
        have e2 : ¬ (2 : Int) < (s.size : Int) := by omega
        clear hq hss
        go_enter Tryz.func84, Tryz.ntmps84
        go_wp2_with fail
        refine (rdns_any s hs false HP0.out _).mono ?_
        rintro e w1 ⟨rfl, hb1⟩
        have HN := hide (show q = false from HQ.out)
        go_wp2_with fail
        go_ret
        exact ⟨ret_bool HN.out.symm, hb1⟩
    · have HQ := hide (show q = false by rw [← hq, decide_eq_false h1]; simp)
      have e1 : ¬ (s.size : Int) ≤ 128 := by omega
      clear hq hss
      go_enter Tryz.func84, Tryz.ntmps84
      go_wp2_with fail
      refine (rdns_any s hs false HP0.out _).mono ?_
      rintro e w1 ⟨rfl, hb1⟩
      have HN := hide (show q = false from HQ.out)
      go_wp2_with fail
      go_ret
      exact ⟨ret_bool HN.out.symm, hb1⟩
  · have HQ := hide (show true = q by rw [← hq]; rfl)
    clear hq hss
    go_enter Tryz.func84, Tryz.ntmps84
    go_wp2_with fail
    refine (rdns_any s hs true HP0.out _).mono ?_
    rintro e w1 ⟨rfl, hb1⟩
    go_wp2_with fail
    go_ret
    exact ⟨ret_bool HQ.out, hb1⟩
end Go.Proofs.YtodapmkdmkhhfaaGreatDoor
