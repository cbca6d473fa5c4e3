/- The reference's functions over texts of general names: alike, ends, DNS, Base, Pattern. -/
import Derived.Test.YtodapmkdmkhhfaaGreatDoorHos1
import Derived.Test.YtodapmkdmkhhfaaGreatDoorNamH
import Derived.Test.YtodapmkdmkhhfaaGreatDoorHos2
import Derived.Deep.QuietTactic
namespace Go.Proofs.YtodapmkdmkhhfaaGreatDoor
open Go.RowKit

theorem rlow_v (s : ByteArray) (hs : s.size ≤ 1000000) (w : World) :
    Calls Tryz.prog 39 #[.string s] w fun e w' => ∃ t : ByteArray, Hid (t.data.toList = s.data.toList.map low) ∧ e = .returned (.string t) ∧ Below w.heap.size w w' :=
  (Lower_any s hs w).mono fun _ _ ⟨he, hb⟩ => ⟨_, hide rfl, he, hb⟩
set_option maxHeartbeats 1000000 in
theorem ralike_any (a b : ByteArray) (ha : a.size ≤ 1000000) (hb : b.size ≤ 1000000) (q : Bool) (hq : eqF a.data.toList b.data.toList = q) (w : World) :
    Calls Tryz.prog 59 #[.string a, .string b] w fun e w' => e = .returned (.bool q) ∧ Below w.heap.size w w' := by
  have HQ := hide hq
  clear hq
  go_enter Tryz.func59, Tryz.ntmps59
  go_wp2_with fail
  refine (rlow_v a ha _).mono ?_
  rintro e w1 ⟨t, HT, rfl, hb1⟩
  have HB1 := hide hb1
  clear hb1
  go_wp2_with fail
  refine (rlow_v b hb _).mono ?_
  rintro e w2 ⟨u, HU, rfl, hb2⟩
  have HB2 := hide (HB1.out.trans (hb2.mono HB1.out.size))
  clear hb2
  go_wp2_with fail
  go_ret
  exact ⟨ret_bool (by rw [str_beq, HT.out, HU.out, ← HQ.out]; rfl), HB2.out⟩

theorem suffix_drop (s t : List UInt8) : t.isSuffixOf s = (decide (t.length ≤ s.length) && (s.drop (s.length - t.length) == t)) := by
  rw [Bool.eq_iff_iff, List.isSuffixOf_iff_suffix]
  simp only [Bool.and_eq_true, decide_eq_true_eq, beq_iff_eq]
  constructor
  · rintro ⟨p, rfl⟩
    simp
  · rintro ⟨h, hd⟩
    exact hd ▸ List.drop_suffix _ _
theorem endsF_drop (s t : List UInt8) : endsF s t = (decide (t.length ≤ s.length) && eqF (s.drop (s.length - t.length)) t) := by
  unfold endsF eqF Lib.hasSuffix
  rw [suffix_drop, List.length_map, List.length_map, List.map_drop]
set_option maxHeartbeats 1000000 in
theorem rends_any (a b : ByteArray) (ha : a.size ≤ 1000000) (hb : b.size ≤ 1000000) (q : Bool) (hq : endsF a.data.toList b.data.toList = q) (w : World) :
    Calls Tryz.prog 95 #[.string a, .string b] w fun e w' => e = .returned (.bool q) ∧ Below w.heap.size w w' := by
  have hsa := size_string a
  have hsb := size_string b
  rw [endsF_drop, hsa, hsb] at hq
  by_cases h : b.size ≤ a.size
  · have hq2 : eqF (a.data.toList.drop (a.size - b.size)) b.data.toList = q := by rw [← hq, decide_eq_true h]; rfl
    obtain ⟨x, hx⟩ : ∃ x : ByteArray, x = a.extract (a.size - b.size) a.size := ⟨_, rfl⟩
    have hxl : x.data.toList = a.data.toList.drop (a.size - b.size) := by
      rw [hx, Lib.extract_data, List.take_of_length_le]
      rw [List.length_drop, hsa]; omega
    have hxs : x.size ≤ 1000000 := by rw [hx, ba_size_ex _ _ _ (Nat.le_refl _)]; omega
    have HS : ∀ W : World, (Instr.slice 9 (.string a) (some (.int .i64 ((a.size : Int) - (b.size : Int)))) none none).run Tryz.prog W = .ok (.string x) W := fun W => by
      have h9 := run_slice_string_l (P := Tryz.prog) W 9 a Tryz.underlying9 .i64 ((a.size : Int) - (b.size : Int)) (by omega) (by omega)
      rw [h9, hx, show ((a.size : Int) - (b.size : Int)).toNat = a.size - b.size by omega]
    have HQ := hide (show eqF x.data.toList b.data.toList = q by rw [hxl]; exact hq2)
    have hge : (b.size : Int) ≤ (a.size : Int) := by omega
    clear hq hq2 hxl hx hsa hsb
    go_enter Tryz.func95, Tryz.ntmps95
    go_wp2_with fail
    refine (ralike_any x b hxs hb q HQ.out _).mono ?_
    rintro e w1 ⟨rfl, hb1⟩
    go_wp2_with fail
    go_ret
    exact ⟨rfl, hb1⟩
  · have HN := hide (show false = q by rw [← hq, decide_eq_false h]; rfl)
    have hlt : (a.size : Int) < (b.size : Int) := by omega
    clear hq hsa hsb h
    go_enter Tryz.func95, Tryz.ntmps95
    go_wp2_with fail
    go_ret
    exact ⟨ret_bool HN.out, Below.refl _ _⟩

theorem lab_alnum (c : UInt8) : labC c = (alnum c || c == 45) := by
  rfl
theorem alnum_v (c : UInt8) (q : Bool) (hq : alnum c = q) (w : World) : Calls Tryz.prog 113 #[.int .u8 (c.toNat : Int)] w fun e w' => e = .returned (.bool q) ∧ w = w' := hq ▸ Alnum_any c w
set_option maxRecDepth 100000 in
set_option maxHeartbeats 8000000 in
theorem rdns_any (s : ByteArray) (hs : s.size ≤ 1000000) (q : Bool) (hq : dnsB s.data.toList = q) (w : World) :
    Calls Tryz.prog 85 #[.string s] w fun e w' => e = .returned (.bool q) ∧ Below w.heap.size w w' := by
  have hss := size_string s
  by_cases h1 : s.size ≤ 128
  · have hn1 : ¬ 128 < s.size := by omega
    obtain ⟨ps, hps⟩ : ∃ ps, splitC 46 s.data.toList = ps := ⟨_, rfl⟩
    have H0 := hide (show q = (ps.drop 0).all labB by rw [← hq, dnsB, hss, decide_eq_true h1, hps]; rfl)
    have HPL := hide (show ∀ p ∈ ps, p.length ≤ 128 from fun p hp => by
      have := splitC_mem_len 46 s.data.toList p (hps ▸ hp)
      omega)
    have hpl : ps.length ≤ 129 := by
      have := splitC_len 46 s.data.toList
      rw [hps] at this
      omega
    have SP := hide (fun W => hps ▸ rSplit_any s (by omega) 46 W)
    clear hq hps hss
    go_enter Tryz.func85, Tryz.ntmps85
    go_wp2_with fail
    refine (SP.out _).mono ?_
    rintro e w1 ⟨v, rfl, hb1, hsl⟩
    obtain ⟨A, c, hv⟩ := hsl.shape
    subst hv
    have HB1 := hide hb1
    have HSL := hide hsl
    clear hb1 hsl
    go_wp2_with fail
    go_loopw [12] (fun i wr => ∃ k : Nat, k ≤ ps.length ∧ i = .int .i64 k ∧ Below w1.heap.size w1 wr ∧ Hid (q = (ps.drop k).all labB)) (fun i _ => ps.length - (intOf i).toNat)
    case atStart => exact ⟨0, Nat.zero_le _, rfl, Below.refl _ _, H0⟩
    case round =>
      obtain ⟨k, hk, rfl, hb, H⟩ := hrel
      have HBW := hide (HB1.out.trans (hb.mono HB1.out.size))
      by_cases hlt : k < ps.length
      · obtain ⟨bk, off, xs, hA, hbS, hx, hcell⟩ := HSL.out.at_ hlt
        subst hA
        have hpp := HPL.out ps[k] (List.getElem_mem hlt)
        have HX := hide (show q = (labB ps[k] && (ps.drop (k + 1)).all labB) by rw [H.out, List.drop_eq_getElem_cons hlt, List.all_cons])
        obtain ⟨p, hp⟩ : ∃ p : ByteArray, p = ⟨ps[k].toArray⟩ := ⟨_, rfl⟩
        have hp2 : ps[k] = p.data.toList := by rw [hp]
        have hxs : xs = strC ps[k] := hx
        rw [hxs] at hcell
        have e0 := hcell 0 (.string p) (by rw [hp]; rfl)
        have d0 : wr.cell? ⟨bk, off + k, none⟩ = some (.string p) := (hb.cell (p := ⟨bk, off + k, none⟩) hbS.2).trans (by simpa using e0)
        have hlt' : (k : Int) < (ps.length : Int) := by omega
        rw [hp2] at HX hpp
        rw [size_string] at hpp
        have hsp := size_string p
        have HB := hide hb
        clear hx hcell hp hp2 hxs e0 hb
        by_cases g1 : 1 ≤ p.size
        · have m1 : ¬ p.size < 1 := by omega
          by_cases g2 : p.size ≤ 63
          · have m2 : ¬ 63 < p.size := by omega
            have hq2 : labB p.data.toList = (!(p[0] == 45) && !(p[p.size - 1] == 45) && p.data.toList.all labC) := by
              rw [labB, hsp, decide_eq_true g1, decide_eq_true g2, getD_str p 0 (by omega), getD_str p (p.size - 1) (by omega)]; rfl
            have hp0 : 0 < p.size := by omega
            by_cases g3 : p[0] = 45
            · have t3 : ((p[0].toNat : Int) == 45) = true := by rw [g3]; rfl
              have HN := hide (show q = false by rw [HX.out, hq2, g3]; rfl)
              clear g3 hq2
              go_wp2_with fail
              go_ret
              exact ⟨ret_bool HN.out.symm, HBW.out⟩
            · have t3 : ((p[0].toNat : Int) == 45) = false := (byte_beq p[0] 45).trans (by simpa using g3)
              have hix : ∀ W : World, (Instr.index 9 (.string p) (.int .i64 ((p.size : Int) - 1))).run Tryz.prog W = .ok (.int .u8 (p[p.size - 1].toNat : Int)) W := fun W => by
                have h9 := run_index_string (P := Tryz.prog) (w := W) 9 p .i64 ((p.size : Int) - 1) Tryz.underlying9
                rw [h9, dif_pos (by omega)]
                have h8 : ((p.size : Int) - 1).toNat = p.size - 1 := by omega
                simp only [h8]
              obtain ⟨cl, hcl⟩ : ∃ cl, p[p.size - 1] = cl := ⟨_, rfl⟩
              rw [hcl] at hix hq2
              by_cases g4 : cl = 45
              · have t4 : ((cl.toNat : Int) == 45) = true := by rw [g4]; rfl
                have HN := hide (show q = false by rw [HX.out, hq2, g4]; simp)
                clear g3 g4 hq2 hcl
                go_wp2_with fail
                go_ret
                exact ⟨ret_bool HN.out.symm, HBW.out⟩
              · have t4 : ((cl.toNat : Int) == 45) = false := (byte_beq cl 45).trans (by simpa using g4)
                have HX2 := hide (show q = ((p.data.toList.drop 0).all labC && (ps.drop (k + 1)).all labB) by
                  have e3 : (p[0] == 45) = false := by simpa using g3
                  have e4 : (cl == 45) = false := by simpa using g4
                  rw [HX.out, hq2, e3, e4]; rfl)
                clear g3 g4 hq2 hcl HX
                go_wp2_with fail
                clear t3 t4 hix d0
                go_loopw [5] (fun i wi => ∃ j : Nat, j ≤ p.size ∧ i = .int .i64 j ∧ wr = wi ∧ Hid (q = ((p.data.toList.drop j).all labC && (ps.drop (k + 1)).all labB))) (fun i _ => p.size - (intOf i).toNat)
                case atStart => exact ⟨0, Nat.zero_le _, rfl, rfl, HX2⟩
                case round =>
                  obtain ⟨j, hj, rfl, rfl, H3⟩ := hrel
                  by_cases hjl : j < p.size
                  · have hjl' : (j : Int) < (p.size : Int) := by omega
                    obtain ⟨b, hbj⟩ : ∃ b, p[j] = b := ⟨_, rfl⟩
                    have hixj : ∀ W : World, (Instr.index 9 (.string p) (.int .i64 (j : Int))).run Tryz.prog W = .ok (.int .u8 (b.toNat : Int)) W := fun W => by
                      have h9 := run_index_string (P := Tryz.prog) (w := W) 9 p .i64 (j : Int) Tryz.underlying9
                      rw [h9, dif_pos (by omega)]
                      simp only [Int.toNat_natCast, hbj]
                    obtain ⟨p1, hp1⟩ : ∃ x, alnum b = x := ⟨_, rfl⟩
                    obtain ⟨p3, hp3⟩ : ∃ x, (b == 45) = x := ⟨_, rfl⟩
                    have HX4 := hide (show q = ((p1 || p3) && ((p.data.toList.drop (j + 1)).all labC && (ps.drop (k + 1)).all labB)) by
                      rw [H3.out, drop_string p j hjl, List.all_cons, hbj, lab_alnum, hp1, hp3, Bool.and_assoc])
                    have t5 : ((b.toNat : Int) == 45) = p3 := (byte_beq b 45).trans hp3
                    have t6 : ((b.toNat : Int) != 45) = !p3 := by rw [bne, t5]
                    have P1 := hide hp1
                    clear hp1 hp3 hbj H3
                    go_wp2_with fail
                    refine (alnum_v b p1 P1.out _).mono ?_
                    rintro e w5 ⟨rfl, rfl⟩
                    cases p1
                    · cases p3
                      · have HN := hide (show q = false from HX4.out.trans (by simp))
                        go_wp2_with fail
                        go_ret
                        exact ⟨ret_bool HN.out.symm, HBW.out⟩
                      · have HY := hide (show q = ((p.data.toList.drop (j + 1)).all labC && (ps.drop (k + 1)).all labB) from HX4.out.trans (by simp))
                        go_wp2_with fail
                        go_roundw
                        case rel => exact ⟨j + 1, by omega, by go_num, trivial, HY⟩
                        case measure => simp [intOf]; omega
                    · have HY := hide (show q = ((p.data.toList.drop (j + 1)).all labC && (ps.drop (k + 1)).all labB) from HX4.out.trans (by simp))
                      go_wp2_with fail
                      go_roundw
                      case rel => exact ⟨j + 1, by omega, by go_num, trivial, HY⟩
                      case measure => simp [intOf]; omega
                  · have HY := hide (show q = (ps.drop (k + 1)).all labB by rw [H3.out, drop_string_end p j (by omega)]; rfl)
                    clear H3
                    go_wp2_with fail
                    go_roundw
                    case rel => exact ⟨k + 1, by omega, by go_num, HB.out, HY⟩
                    case measure => simp [intOf]; omega
          · have m2 : 63 < p.size := by omega
            have HN := hide (show q = false from by rw [HX.out, labB, hsp, decide_eq_false g2]; simp)
            go_wp2_with fail
            go_ret
            exact ⟨ret_bool HN.out.symm, HBW.out⟩
        · have m1 : p.size < 1 := by omega
          have HN := hide (show q = false from by rw [HX.out, labB, hsp, decide_eq_false g1]; simp)
          go_wp2_with fail
          go_ret
          exact ⟨ret_bool HN.out.symm, HBW.out⟩
      · have HY := hide (show q = true by rw [H.out, List.drop_of_length_le (by omega)]; rfl)
        clear hb
        go_wp2_with fail
        go_ret
        exact ⟨ret_bool HY.out.symm, HBW.out⟩
  · have hn1 : 128 < s.size := by omega
    have HN := hide (show q = false by rw [← hq, dnsB, hss, decide_eq_false h1]; rfl)
    clear hq
    go_enter Tryz.func85, Tryz.ntmps85
    go_wp2_with fail
    go_ret
    exact ⟨ret_bool HN.out.symm, Below.refl _ _⟩

set_option maxHeartbeats 1000000 in
theorem rbase_any (s : ByteArray) (hs : s.size ≤ 1000000) (q : Bool) (hq : baseB s.data.toList = q) (w : World) :
    Calls Tryz.prog 96 #[.string s] w fun e w' => e = .returned (.bool q) ∧ Below w.heap.size w w' := by
  rcases empty_cases s with ⟨h0, h1, h2, h3⟩ | ⟨h0, h1, h2, h3⟩
  · have HN := hide (show q = true by rw [← hq, baseB, emptyB, h0]; rfl)
    clear hq h0
    go_enter Tryz.func96, Tryz.ntmps96
    go_wp2_with fail
    go_ret
    exact ⟨ret_bool HN.out.symm, Below.refl _ _⟩
  · have HN := hide (show dnsB s.data.toList = q by rw [← hq, baseB, emptyB, show (s.data.toList == []) = false by simpa using h0]; rfl)
    clear hq h0
    go_enter Tryz.func96, Tryz.ntmps96
    go_wp2_with fail
    refine (rdns_any s hs q HN.out _).mono ?_
    rintro e w1 ⟨rfl, hb1⟩
    go_wp2_with fail
    go_ret
    exact ⟨rfl, hb1⟩
end Go.Proofs.YtodapmkdmkhhfaaGreatDoor

/- The reference's Pattern and DNSWithin. -/
namespace Go.Proofs.YtodapmkdmkhhfaaGreatDoor
open Go.RowKit

theorem ib_cases : ∀ (l : List UInt8) (c : UInt8), Lib.indexByte l c = -1 ∨ 0 ≤ Lib.indexByte l c
  | [], _ => .inl rfl
  | b :: l, c => by
    unfold Lib.indexByte
    rcases ib_cases l c with h | h
    · rw [h]
      by_cases hb : (b == c) = true
      · rw [if_pos hb]; exact .inr (by omega)
      · rw [if_neg hb]; exact .inl rfl
    · by_cases hb : (b == c) = true
      · rw [if_pos hb]; exact .inr (by omega)
      · rw [if_neg hb]
        have : (Lib.indexByte l c == -1) = false := by rw [beq_eq_false_iff_ne]; omega
        rw [this]
        exact .inr (by show (0 : Int) ≤ Lib.indexByte l c + 1; omega)
theorem split_more (l : List UInt8) (c : UInt8) : decide (1 < (splitC c l).length) = decide (0 ≤ Lib.indexByte l c) := by
  rw [splitC_index]
  rcases ib_cases l c with h | h
  · rw [if_pos h, h]; rfl
  · rw [if_neg (by omega), decide_eq_true h]
    have hn := splitC_ne c (l.drop ((Lib.indexByte l c).toNat + 1))
    have : 0 < (splitC c (l.drop ((Lib.indexByte l c).toNat + 1))).length := List.length_pos_iff.2 hn
    rw [List.length_cons, decide_eq_true (by omega)]
theorem pat_form (s : List UInt8) : (∃ r, s = 42 :: 46 :: r) ∨ (Lib.hasPrefix s [42, 46] = false ∧ (s.take 2 == [42, 46]) = false) := by
  match s with
  | [] => exact .inr ⟨rfl, rfl⟩
  | [a] =>
    refine .inr ⟨?_, ?_⟩
    · unfold Lib.hasPrefix
      cases h : ((42 : UInt8) == a) <;> simp [List.isPrefixOf, h]
    · simp
  | a :: b :: r =>
    by_cases h : a = 42 ∧ b = 46
    · obtain ⟨rfl, rfl⟩ := h
      exact .inl ⟨r, rfl⟩
    · refine .inr ⟨?_, ?_⟩
      · rw [Bool.eq_false_iff]
        intro h2
        unfold Lib.hasPrefix at h2
        simp only [List.isPrefixOf, Bool.and_eq_true, beq_iff_eq] at h2
        exact h ⟨h2.1.symm, h2.2.1.symm⟩
      · rw [beq_eq_false_iff_ne]
        intro h2
        simp only [List.take_succ_cons, List.take_zero, List.cons.injEq, and_true] at h2
        exact h h2
theorem dns_star (r : List UInt8) : dnsB (42 :: 46 :: r) = false := by
  have h := splitC_hit 46 [42] r (by simp)
  have h2 : splitC 46 (42 :: 46 :: r) = [42] :: splitC 46 r := h
  unfold dnsB
  rw [h2, List.all_cons, show labB [42] = false by decide, Bool.false_and, Bool.and_false]
theorem dns_nil : dnsB [] = false := by decide
theorem rpat_eq (s : List UInt8) : patB s = (dnsB s || (decide (s.length ≤ 128) && decide (2 < s.length) && (s.take 2 == [42, 46]) && dnsB (s.drop 2) && decide (2 < (splitC 46 s).length))) := by
  rcases pat_form s with ⟨r, rfl⟩ | ⟨h1, h2⟩
  · have h2 : splitC 46 (42 :: 46 :: r) = [42] :: splitC 46 r := splitC_hit 46 [42] r (by simp)
    rw [dns_star, h2, patB, if_pos (by rfl), ← split_more]
    simp only [List.drop_succ_cons, List.drop_zero, List.take_succ_cons, List.take_zero, List.length_cons, Bool.false_or]
    by_cases hr : r = []
    · subst hr; rw [dns_nil]; simp
    · have hl : 0 < r.length := List.length_pos_iff.2 hr
      rw [decide_eq_true (show 2 < r.length + 1 + 1 by omega), show decide (2 < (splitC 46 r).length + 1) = decide (1 < (splitC 46 r).length) by rw [decide_eq_decide]; omega]
      simp
  · rw [patB, if_neg (by rw [h1]; decide), h2]
    simp

set_option maxHeartbeats 2000000 in
theorem rpattern_any (s : ByteArray) (hs : s.size ≤ 1000000) (q : Bool) (hq : patB s.data.toList = q) (w : World) :
    Calls Tryz.prog 84 #[.string s] w fun e w' => e = .returned (.bool q) ∧ Below w.heap.size w w' := by
  have hss := size_string s
  rw [rpat_eq, hss] at hq
  obtain ⟨p0, hp0⟩ : ∃ p, dnsB s.data.toList = p := ⟨_, rfl⟩
  rw [hp0] at hq
  have HP0 := hide hp0
  clear hp0
  cases p0
  · by_cases h1 : s.size ≤ 128
    · by_cases h2 : 2 < s.size
      · rw [decide_eq_true h1, decide_eq_true h2] at hq
        obtain ⟨x, hx⟩ : ∃ x : ByteArray, x = s.extract 0 2 := ⟨_, rfl⟩
        obtain ⟨y, hy⟩ : ∃ y : ByteArray, y = s.extract 2 s.size := ⟨_, rfl⟩
        have hxl : x.data.toList = s.data.toList.take 2 := by rw [hx, Lib.extract_data]; simp
        have hyl : y.data.toList = s.data.toList.drop 2 := by
          rw [hy, Lib.extract_data, List.take_of_length_le]
          rw [List.length_drop, hss]; omega
        have hys : y.size ≤ 1000000 := by rw [hy, ba_size_ex _ _ _ (Nat.le_refl _)]; omega
        have HS1 : ∀ W : World, (Instr.slice 9 (.string s) none (some (.int .i64 2)) none).run Tryz.prog W = .ok (.string x) W := fun W => by
          have h9 := run_slice_string_h (P := Tryz.prog) W 9 s Tryz.underlying9 .i64 2 (by omega) (by omega)
          rw [h9, hx]; rfl
        have HS2 : ∀ W : World, (Instr.slice 9 (.string s) (some (.int .i64 2)) none none).run Tryz.prog W = .ok (.string y) W := fun W => by
          have h9 := run_slice_string_l (P := Tryz.prog) W 9 s Tryz.underlying9 .i64 2 (by omega) (by omega)
          rw [h9, hy]; rfl
        rw [← hxl, ← hyl] at hq
        obtain ⟨p1, hp1⟩ : ∃ p, (x.data.toList == [42, 46]) = p := ⟨_, rfl⟩
        have t1 : (x.toList == (⟨#[42, 46]⟩ : ByteArray).toList) = p1 := by rw [str_beq]; exact hp1
        obtain ⟨p2, hp2⟩ : ∃ p, dnsB y.data.toList = p := ⟨_, rfl⟩
        obtain ⟨ps, hps⟩ : ∃ ps, splitC 46 s.data.toList = ps := ⟨_, rfl⟩
        rw [hp1, hp2, hps] at hq
        have HP2 := hide hp2
        have SP := hide (fun W => hps ▸ rSplit_any s (by omega) 46 W)
        have HQ := hide (show (p1 && p2 && decide (2 < ps.length)) = q by rw [← hq]; rfl)
        have e1 : (s.size : Int) ≤ 128 := by omega
        have e2 : (2 : Int) < (s.size : Int) := by omega
        clear hq hxl hyl hx hy hp1 hp2 hps hss
        go_enter Tryz.func84, Tryz.ntmps84
        go_wp2_with fail
        refine (rdns_any s hs false HP0.out _).mono ?_
        rintro e w1 ⟨rfl, hb1⟩
        cases p1
        · have n1 : ¬ x.toList = [42, 46] := fun h => by
            rw [h] at t1
            rw [ByteArray.toList_eq] at t1
            exact absurd t1 (by decide)
          have HN := hide (show q = false from HQ.out.symm)
          go_wp2_with fail
          go_ret
          exact ⟨ret_bool HN.out.symm, hb1⟩
        · have n1 : x.toList = [42, 46] := by
            rw [eq_of_beq t1, ByteArray.toList_eq]
          have HB1 := hide hb1
          clear hb1
          go_wp2_with fail
          refine (rdns_any y hys p2 HP2.out _).mono ?_
          rintro e w2 ⟨rfl, hb2⟩
          have HB2 := hide (HB1.out.trans (hb2.mono HB1.out.size))
          clear hb2
          cases p2
          · have HN := hide (show q = false from HQ.out.symm)
            go_wp2_with fail
            go_ret
            exact ⟨ret_bool HN.out.symm, HB2.out⟩
          · go_wp2_with fail
            refine (SP.out _).mono ?_
            rintro e w3 ⟨v, rfl, hb3, hsl⟩
            obtain ⟨A, c, hv⟩ := hsl.shape
            subst hv
            have HB3 := hide (HB2.out.trans (hb3.mono HB2.out.size))
            clear hb3 hsl
            go_wp2_with fail
            go_ret
            exact ⟨ret_bool (by rw [← HQ.out]; simp; omega), HB3.out⟩
      · have HQ := hide (show q = false by rw [← hq, decide_eq_false h2]; simp)
        have e1 : (s.size : Int) ≤ 128 := by omega
        have e2 : ¬ (2 : Int) < (s.size : Int) := by omega
        clear hq hss
        go_enter Tryz.func84, Tryz.ntmps84
        go_wp2_with fail
        refine (rdns_any s hs false HP0.out _).mono ?_
        rintro e w1 ⟨rfl, hb1⟩
        have HN := hide (show q = false from HQ.out)
        go_wp2_with fail
        go_ret
        exact ⟨ret_bool HN.out.symm, hb1⟩
    · have HQ := hide (show q = false by rw [← hq, decide_eq_false h1]; simp)
      have e1 : ¬ (s.size : Int) ≤ 128 := by omega
      clear hq hss
      go_enter Tryz.func84, Tryz.ntmps84
      go_wp2_with fail
      refine (rdns_any s hs false HP0.out _).mono ?_
      rintro e w1 ⟨rfl, hb1⟩
      have HN := hide (show q = false from HQ.out)
      go_wp2_with fail
      go_ret
      exact ⟨ret_bool HN.out.symm, hb1⟩
  · have HQ := hide (show true = q by rw [← hq]; rfl)
    clear hq hss
    go_enter Tryz.func84, Tryz.ntmps84
    go_wp2_with fail
    refine (rdns_any s hs true HP0.out _).mono ?_
    rintro e w1 ⟨rfl, hb1⟩
    go_wp2_with fail
    go_ret
    exact ⟨ret_bool HQ.out, hb1⟩
end Go.Proofs.YtodapmkdmkhhfaaGreatDoor

/- The reference's DNSWithin, parts, Mail. -/
namespace Go.Proofs.YtodapmkdmkhhfaaGreatDoor
open Go.RowKit


set_option maxHeartbeats 4000000 in
theorem rdnsW_any (s b : ByteArray) (hs : s.size ≤ 100000) (hb : b.size ≤ 100000) (q : Bool) (hq : dnsWB s.data.toList b.data.toList = q) (w : World) :
    Calls Tryz.prog 68 #[.string s, .string b] w fun e w' => e = .returned (.bool q) ∧ Below w.heap.size w w' := by
  obtain ⟨tb, htb⟩ : ∃ tb, tb = (⟨#[46]⟩ : ByteArray) ++ b := ⟨_, rfl⟩
  have htb2 : (⟨#[46]⟩ : ByteArray) ++ b = tb := htb.symm
  have hz1 : (⟨#[46]⟩ : ByteArray).size = 1 := rfl
  have htbs : tb.size ≤ 1000000 := by rw [htb, ba_size]; omega
  have hbs : ¬ 9223372036854775807 < 1 + b.size := by omega
  have htl : tb.data.toList = 46 :: b.data.toList := by rw [htb, ba_append]; rfl
  obtain ⟨p1, hp1⟩ : ∃ p, patB s.data.toList = p := ⟨_, rfl⟩
  obtain ⟨p2, hp2⟩ : ∃ p, baseB b.data.toList = p := ⟨_, rfl⟩
  obtain ⟨p3, hp3⟩ : ∃ p, eqF s.data.toList b.data.toList = p := ⟨_, rfl⟩
  obtain ⟨p4, hp4⟩ : ∃ p, endsF s.data.toList tb.data.toList = p := ⟨_, rfl⟩
  have HN0 := hide (show ((emptyB s.data.toList || p1) && p2 && (emptyB b.data.toList || p3 || p4)) = q by rw [← hq, dnsWB, hp1, hp2, hp3, ← htl, hp4])
  have HP1 := hide hp1
  have HP2 := hide hp2
  have HP3 := hide hp3
  have HP4 := hide hp4
  clear hq htb hz1 htl hp1 hp2 hp3 hp4 
  rcases empty_cases s with ⟨h0, h1, h2, h3⟩ | ⟨h0, h1, h2, h3⟩
  · have HN := hide (show (p2 && (emptyB b.data.toList || p3 || p4)) = q by rw [← HN0.out, emptyB, h0]; rfl)
    have HB1 := hide (Below.refl w.heap.size w)
    clear h0
    go_enter Tryz.func68, Tryz.ntmps68
    go_wp2_with fail
    refine (rbase_any b (by omega) p2 HP2.out _).mono ?_
    rintro e w2 ⟨rfl, hb2⟩
    have HB2 := hide (HB1.out.trans (hb2.mono HB1.out.size))
    clear hb2
    cases p2
    · go_wp2_with fail
      go_ret
      exact ⟨ret_bool (by rw [← HN.out]; rfl), HB2.out⟩
    · rcases empty_cases b with ⟨g0, g1, g2, g3⟩ | ⟨g0, g1, g2, g3⟩
      · have HG := hide (show emptyB b.data.toList = true by rw [emptyB, g0]; rfl)
        clear g0
        go_wp2_with fail
        go_ret
        exact ⟨ret_bool (by rw [← HN.out, HG.out]; rfl), HB2.out⟩
      · have HG := hide (show emptyB b.data.toList = false from beq_eq_false_iff_ne.2 g0)
        clear g0
        go_wp2_with fail
        refine (ralike_any s b (by omega) (by omega) p3 HP3.out _).mono ?_
        rintro e w3 ⟨rfl, hb3⟩
        have HB3 := hide (HB2.out.trans (hb3.mono HB2.out.size))
        clear hb3
        cases p3
        · go_wp2_with fail
          refine (rends_any s tb (by omega) (by omega) p4 HP4.out _).mono ?_
          rintro e w4 ⟨rfl, hb4⟩
          go_wp2_with fail
          go_ret
          exact ⟨ret_bool (by rw [← HN.out, HG.out]; simp), HB3.out.trans (hb4.mono HB3.out.size)⟩
        · go_wp2_with fail
          go_ret
          exact ⟨ret_bool (by rw [← HN.out, HG.out]; rfl), HB3.out⟩
  · have HNn := hide (show (p1 && p2 && (emptyB b.data.toList || p3 || p4)) = q by rw [← HN0.out, show emptyB s.data.toList = false from beq_eq_false_iff_ne.2 h0]; rfl)
    clear h0
    go_enter Tryz.func68, Tryz.ntmps68
    go_wp2_with fail
    refine (rpattern_any s (by omega) p1 HP1.out _).mono ?_
    rintro e w1 ⟨rfl, hb1⟩
    have HB1 := hide hb1
    clear hb1
    cases p1
    · go_wp2_with fail
      go_ret
      exact ⟨ret_bool (by rw [← HNn.out]; rfl), HB1.out⟩
    · have HN := hide (show (p2 && (emptyB b.data.toList || p3 || p4)) = q by rw [← HNn.out]; rfl)
      go_wp2_with fail
      refine (rbase_any b (by omega) p2 HP2.out _).mono ?_
      rintro e w2 ⟨rfl, hb2⟩
      have HB2 := hide (HB1.out.trans (hb2.mono HB1.out.size))
      clear hb2
      cases p2
      · go_wp2_with fail
        go_ret
        exact ⟨ret_bool (by rw [← HN.out]; rfl), HB2.out⟩
      · rcases empty_cases b with ⟨g0, g1, g2, g3⟩ | ⟨g0, g1, g2, g3⟩
        · have HG := hide (show emptyB b.data.toList = true by rw [emptyB, g0]; rfl)
          clear g0
          go_wp2_with fail
          go_ret
          exact ⟨ret_bool (by rw [← HN.out, HG.out]; rfl), HB2.out⟩
        · have HG := hide (show emptyB b.data.toList = false from beq_eq_false_iff_ne.2 g0)
          clear g0
          go_wp2_with fail
          refine (ralike_any s b (by omega) (by omega) p3 HP3.out _).mono ?_
          rintro e w3 ⟨rfl, hb3⟩
          have HB3 := hide (HB2.out.trans (hb3.mono HB2.out.size))
          clear hb3
          cases p3
          · go_wp2_with fail
            refine (rends_any s tb (by omega) (by omega) p4 HP4.out _).mono ?_
            rintro e w4 ⟨rfl, hb4⟩
            go_wp2_with fail
            go_ret
            exact ⟨ret_bool (by rw [← HN.out, HG.out]; simp), HB3.out.trans (hb4.mono HB3.out.size)⟩
          · go_wp2_with fail
            go_ret
            exact ⟨ret_bool (by rw [← HN.out, HG.out]; rfl), HB3.out⟩
end Go.Proofs.YtodapmkdmkhhfaaGreatDoor

/- The reference's parts, Mail. -/
namespace Go.Proofs.YtodapmkdmkhhfaaGreatDoor
open Go.RowKit

theorem index_none (c : UInt8) : ∀ l : List UInt8, (∀ x ∈ l, x ≠ c) → Lib.index l [c] = -1
  | [], _ => rfl
  | b :: l, h => by
    have hb : b ≠ c := h b (by simp)
    have ih := index_none c l (fun x hx => h x (by simp [hx]))
    have hp : ([c].isPrefixOf (b :: l)) = false := by
      simp only [List.isPrefixOf, Bool.and_true, beq_eq_false_iff_ne]
      exact fun e => hb e.symm
    unfold Lib.index
    rw [hp, ih]
    rfl
theorem index_hit (c : UInt8) (r : List UInt8) : ∀ l : List UInt8, (∀ x ∈ l, x ≠ c) → Lib.index (l ++ c :: r) [c] = (l.length : Int)
  | [], _ => by
    show Lib.index (c :: r) [c] = 0
    unfold Lib.index
    simp [List.isPrefixOf]
  | b :: l, h => by
    have hb : b ≠ c := h b (by simp)
    have ih := index_hit c r l (fun x hx => h x (by simp [hx]))
    have hp : ([c].isPrefixOf (b :: (l ++ c :: r))) = false := by
      simp only [List.isPrefixOf, Bool.and_true, beq_eq_false_iff_ne]
      exact fun e => hb e.symm
    show Lib.index (b :: (l ++ c :: r)) [c] = _
    unfold Lib.index
    rw [hp, ih]
    have : (((l.length : Int)) == -1) = false := by rw [beq_eq_false_iff_ne]; omega
    rw [this]
    simp
theorem cutA_none (l : List UInt8) (h : ∀ x ∈ l, x ≠ 64) : cutA l = (l, [], false) := by
  unfold cutA Lib.cut
  rw [index_none 64 l h, if_neg (by omega)]
theorem cutA_hit (l r : List UInt8) (h : ∀ x ∈ l, x ≠ 64) : cutA (l ++ 64 :: r) = (l, r, true) := by
  unfold cutA Lib.cut
  rw [index_hit 64 r l h, if_pos (by omega), Int.toNat_natCast, List.take_left' rfl, show l.length + [(64 : UInt8)].length = (l ++ [(64 : UInt8)]).length by simp, show l ++ 64 :: r = (l ++ [64]) ++ r by simp, List.drop_left' rfl]
theorem at_form : ∀ s : List UInt8, (∀ x ∈ s, x ≠ (64 : UInt8)) ∨ ∃ l r : List UInt8, s = l ++ 64 :: r ∧ ∀ x ∈ l, x ≠ (64 : UInt8)
  | [] => .inl (fun x hx => by cases hx)
  | b :: s => by
    by_cases hb : b = 64
    · exact .inr ⟨[], s, by rw [hb]; rfl, fun x hx => by cases hx⟩
    · rcases at_form s with h | ⟨l, r, h, h2⟩
      · exact .inl (fun x hx => by
          rcases List.mem_cons.1 hx with rfl | hx
          · exact hb
          · exact h x hx)
      · exact .inr ⟨b :: l, r, by rw [h]; rfl, fun x hx => by
          rcases List.mem_cons.1 hx with rfl | hx
          · exact hb
          · exact h2 x hx⟩
theorem contains_cons (b : UInt8) (l sub : List UInt8) : Lib.contains (b :: l) sub = (sub.isPrefixOf (b :: l) || Lib.contains l sub) := by
  unfold Lib.contains
  have hi : ∀ l : List UInt8, Lib.index l sub = -1 ∨ 0 ≤ Lib.index l sub := by
    intro l
    induction l with
    | nil => unfold Lib.index; split <;> omega
    | cons x l ih =>
      unfold Lib.index
      by_cases hp : sub.isPrefixOf (x :: l) = true
      · rw [if_pos hp]; omega
      · rw [if_neg hp]
        rcases ih with h | h
        · rw [h]; exact .inl rfl
        · have : (Lib.index l sub == -1) = false := by rw [beq_eq_false_iff_ne]; omega
          rw [this]; right; show (0 : Int) ≤ Lib.index l sub + 1; omega
  by_cases hp : sub.isPrefixOf (b :: l) = true
  · rw [hp, Lib.index, if_pos hp]; simp
  · have hp' : sub.isPrefixOf (b :: l) = false := Bool.eq_false_iff.2 hp
    rw [hp', Bool.false_or, Lib.index, if_neg hp]
    rcases hi l with h | h
    · rw [h]; rfl
    · have : (Lib.index l sub == -1) = false := by rw [beq_eq_false_iff_ne]; omega
      rw [this, decide_eq_true h]
      exact decide_eq_true (by show (0 : Int) ≤ Lib.index l sub + 1; omega)
theorem dots_nil : Lib.contains ([] : List UInt8) [46, 46] = false := rfl
theorem dots_cons (b n : UInt8) (l r : List UInt8) (h : (l ++ 64 :: r).getD 0 0 = n) : Lib.contains (b :: l) [46, 46] = ((b == 46 && n == 46) || Lib.contains l [46, 46]) := by
  rw [contains_cons]
  congr 1
  match l, h with
  | [], h =>
    have hn : n = 64 := h.symm
    subst hn
    simp [List.isPrefixOf]
  | x :: l, h =>
    have hn : n = x := h.symm
    subst hn
    simp only [List.isPrefixOf, Bool.and_true]
    rw [Bool.beq_comm (a := (46 : UInt8)) (b := b), Bool.beq_comm (a := (46 : UInt8)) (b := n)]
def PartsPost (s : List UInt8) (n : Nat) (q : Bool) (w : World) (e : Ending) (w' : World) : Prop :=
  ∃ a b : ByteArray, Hid (a.data.toList = (if q = true then (cutA s).1 else []) ∧ b.data.toList = (if q = true then (cutA s).2.1 else [])) ∧ a.size ≤ n ∧ b.size ≤ n ∧ e = .returned (.tuple #[.string a, .string b, .bool q]) ∧ Below w.heap.size w w'
theorem parts_no {s : List UInt8} {n : Nat} {q : Bool} {w w' : World} (h : q = false) (hb : Below w.heap.size w w') : PartsPost s n q w (.returned (.tuple #[.string ⟨#[]⟩, .string ⟨#[]⟩, .bool false])) w' := by
  subst h
  exact ⟨⟨#[]⟩, ⟨#[]⟩, hide ⟨rfl, rfl⟩, Nat.zero_le _, Nat.zero_le _, rfl, hb⟩
theorem among_v (c : UInt8) (q : Bool) (hq : locSet.contains c = q) (w : World) :
    Calls Tryz.prog 114 #[.int .u8 (c.toNat : Int), .string ⟨#[33, 35, 36, 37, 38, 39, 42, 43, 45, 47, 61, 63, 94, 95, 96, 123, 124, 125, 126, 46]⟩] w fun e w' => e = .returned (.bool q) ∧ w = w' :=
  hq ▸ Among_any c ⟨#[33, 35, 36, 37, 38, 39, 42, 43, 45, 47, 61, 63, 94, 95, 96, 123, 124, 125, 126, 46]⟩ (by decide) w
theorem str_at {s : ByteArray} {l : List UInt8} (h : s.data.toList = l) (i : Nat) (hi : i < l.length) (t : TypeId) (ht : Tryz.prog.underlying t = some .string) (I : Int) (hI : I = i) : ∀ W : World, (Instr.index t (.string s) (.int .i64 I)).run Tryz.prog W = .ok (.int .u8 (l[i].toNat : Int)) W := fun W => by
  subst hI
  have hs : i < s.size := by rw [← size_string, h]; exact hi
  have h9 := run_index_string (P := Tryz.prog) (w := W) t s .i64 (i : Int) ht
  rw [h9, dif_pos (by omega)]
  have h8 : s[i] = l[i] := by
    have h7 : s.data.toList[i]'(by rw [h]; exact hi) = l[i] := by simp only [h]
    rw [← h7]
    simp
    rfl
  simp only [Int.toNat_natCast, h8]


set_option maxRecDepth 100000 in
set_option maxHeartbeats 8000000 in
theorem rparts_any (s : ByteArray) (hs : s.size ≤ 1000000) (q : Bool) (hq : mailB s.data.toList = q) (w : World) :
    Calls Tryz.prog 81 #[.string s] w (PartsPost s.data.toList s.size q w) := by
  have hss := size_string s
  have HB0 := hide (Below.refl w.heap.size w)
  by_cases h1 : s.size ≤ 128
  · have hn1 : ¬ 128 < s.size := by omega
    rcases at_form s.data.toList with hno | ⟨l, r, hlr, hl⟩
    · have hq2 : q = false := by rw [← hq, mailB, cutA_none _ hno]; rfl
      have HQ := hide hq2
      obtain ⟨ls, hls⟩ : ∃ ls, s.data.toList = ls := ⟨_, rfl⟩
      have HLS := hide hls
      have hsl : ls.length = s.size := by rw [← hls]; exact hss
      rw [hls] at hno
      have HNO := hide hno
      clear hq hq2 hss hno hls
      go_enter Tryz.func81, Tryz.ntmps81
      go_wp2_with fail
      go_loopw [5] (fun i wi => ∃ j : Nat, j ≤ s.size ∧ i = .int .i64 j ∧ w = wi) (fun i _ => s.size - (intOf i).toNat)
      case atStart => exact ⟨0, Nat.zero_le _, rfl, rfl⟩
      case round =>
        obtain ⟨j, hj, rfl, rfl⟩ := hrel
        by_cases hjl : j < s.size
        · have hjl' : (j : Int) < (s.size : Int) := by omega
          have hix := str_at HLS.out j (by omega) 9 Tryz.underlying9 (j : Int) rfl
          obtain ⟨b, hb⟩ : ∃ b, ls[j] = b := ⟨_, rfl⟩
          have hb64 : b ≠ 64 := by rw [← hb]; exact HNO.out _ (List.getElem_mem _)
          rw [hb] at hix
          have t1 : ((b.toNat : Int) != 64) = true := by
            rw [bne, show ((b.toNat : Int) == 64) = (b == 64) from byte_beq b 64, beq_eq_false_iff_ne.2 hb64]; rfl
          clear hb hb64
          go_wp2_with fail
          go_roundw
          case rel => exact ⟨j + 1, by omega, by go_num, trivial⟩
          case measure => simp [intOf]; omega
        · obtain rfl : j = s.size := by omega
          by_cases h0 : s.size < 1
          · have h0' : (s.size : Int) < 1 := by omega
            go_wp2_with fail
            exact bodyPost_ret (v := .tuple #[.string ⟨#[]⟩, .string ⟨#[]⟩, .bool false]) (by simp [results, Tryz.results81, go_sem]) rfl (parts_no HQ.out HB0.out)
          · have h0' : ¬ (s.size : Int) < 1 := by omega
            by_cases h64 : 64 < s.size
            · have h64' : (64 : Int) < (s.size : Int) := by omega
              go_wp2_with fail
              exact bodyPost_ret (v := .tuple #[.string ⟨#[]⟩, .string ⟨#[]⟩, .bool false]) (by simp [results, Tryz.results81, go_sem]) rfl (parts_no HQ.out HB0.out)
            · have h64' : ¬ (64 : Int) < (s.size : Int) := by omega
              go_wp2_with fail
              exact bodyPost_ret (v := .tuple #[.string ⟨#[]⟩, .string ⟨#[]⟩, .bool false]) (by simp [results, Tryz.results81, go_sem]) rfl (parts_no HQ.out HB0.out)
    · have hsz : s.size = l.length + 1 + r.length := by rw [← hss, hlr]; simp; omega
      have HLR := hide hlr
      obtain ⟨x, hx⟩ : ∃ x : ByteArray, x = s.extract 0 l.length := ⟨_, rfl⟩
      obtain ⟨y, hy⟩ : ∃ y : ByteArray, y = s.extract (l.length + 1) s.size := ⟨_, rfl⟩
      have hxl : x.data.toList = l := by rw [hx, Lib.extract_data, hlr]; simp
      have hyl : y.data.toList = r := by
        rw [hy, Lib.extract_data, List.take_of_length_le (by rw [List.length_drop, hss]; omega), hlr, show l ++ 64 :: r = (l ++ [64]) ++ r by simp, show l.length + 1 = (l ++ [(64 : UInt8)]).length by simp, List.drop_left' rfl]
      have hxs : x.size ≤ s.size := by rw [← size_string, hxl]; omega
      have hys : y.size ≤ s.size := by rw [← size_string, hyl]; omega
      have HS1 : ∀ W : World, (Instr.slice 9 (.string s) none (some (.int .i64 (l.length : Int))) none).run Tryz.prog W = .ok (.string x) W := fun W => by
        have h9 := run_slice_string_h (P := Tryz.prog) W 9 s Tryz.underlying9 .i64 (l.length : Int) (by omega) (by omega)
        rw [h9, hx, Int.toNat_natCast]
      have HS2 : ∀ W : World, (Instr.slice 9 (.string s) (some (.int .i64 ((l.length : Int) + 1))) none none).run Tryz.prog W = .ok (.string y) W := fun W => by
        have h9 := run_slice_string_l (P := Tryz.prog) W 9 s Tryz.underlying9 .i64 ((l.length : Int) + 1) (by omega) (by omega)
        rw [h9, hy, show ((l.length : Int) + 1).toNat = l.length + 1 by omega]
      obtain ⟨p2, hp2⟩ : ∃ p, dnsB y.data.toList = p := ⟨_, rfl⟩
      have HQ0 := hide (show q = (locB l && p2) by
        rw [← hq, mailB, hss, decide_eq_true h1, hlr, cutA_hit l r hl, ← hp2, hyl]; rfl)
      have HP2 := hide hp2
      have HXY := hide (show x.data.toList = (cutA s.data.toList).1 ∧ y.data.toList = (cutA s.data.toList).2.1 by rw [hlr, cutA_hit l r hl]; exact ⟨hxl, hyl⟩)
      have HL := hide hl
      have HAT := hide (fun (i : Nat) (hi : i < l.length) (I : Int) (hI : I = i) => (show ∀ W : World, (Instr.index 9 (.string s) (.int .i64 I)).run Tryz.prog W = .ok (.int .u8 (l[i].toNat : Int)) W by
        have h := str_at hlr i (by simp; omega) 9 Tryz.underlying9 I hI
        rw [List.getElem_append_left hi] at h
        exact h))
      have HNXT := hide (fun (i : Nat) (hi : i < l.length) => (show ∃ n : UInt8, (l.drop (i + 1) ++ 64 :: r).getD 0 0 = n ∧ ∀ W : World, (Instr.index 9 (.string s) (.int .i64 ((i : Int) + 1))).run Tryz.prog W = .ok (.int .u8 (n.toNat : Int)) W by
        have hlt : i + 1 < (l ++ 64 :: r).length := by simp; omega
        have h := str_at hlr (i + 1) hlt 9 Tryz.underlying9 ((i : Int) + 1) (by omega)
        refine ⟨_, ?_, h⟩
        have hd : l.drop (i + 1) ++ 64 :: r = (l ++ 64 :: r).drop (i + 1) := by rw [List.drop_append_of_le_length (by omega)]
        rw [hd, List.getD_eq_getElem?_getD, List.getElem?_drop]
        show ((l ++ 64 :: r)[i + 1]?).getD 0 = _
        rw [List.getElem?_eq_getElem hlt]; rfl))
      have h64 : ∀ W : World, (Instr.index 9 (.string s) (.int .i64 (l.length : Int))).run Tryz.prog W = .ok (.int .u8 64) W := by
        have h := str_at hlr l.length (by simp) 9 Tryz.underlying9 (l.length : Int) rfl
        rw [List.getElem_append_right (Nat.le_refl _)] at h
        simpa using h
      have H64 := hide h64
      have hsl : l.length + 1 ≤ s.size := by omega
      clear hq hlr hl hx hy hxl hyl hp2 h64 hss hsz
      go_enter Tryz.func81, Tryz.ntmps81
      go_wp2_with fail
      go_loopw [5] (fun i wi => ∃ j : Nat, j ≤ l.length ∧ i = .int .i64 j ∧ w = wi) (fun i _ => l.length - (intOf i).toNat)
      case atStart => exact ⟨0, Nat.zero_le _, rfl, rfl⟩
      case round =>
        obtain ⟨j, hj, rfl, rfl⟩ := hrel
        have hjs : (j : Int) < (s.size : Int) := by omega
        by_cases hjl : j < l.length
        · have hix := HAT.out j hjl (j : Int) rfl
          obtain ⟨b, hb⟩ : ∃ b, l[j] = b := ⟨_, rfl⟩
          have hb64 : b ≠ 64 := by rw [← hb]; exact HL.out _ (List.getElem_mem _)
          rw [hb] at hix
          have t1 : ((b.toNat : Int) != 64) = true := by
            rw [bne, show ((b.toNat : Int) == 64) = (b == 64) from byte_beq b 64, beq_eq_false_iff_ne.2 hb64]; rfl
          clear hb hb64
          go_wp2_with fail
          go_roundw
          case rel => exact ⟨j + 1, by omega, by go_num, trivial⟩
          case measure => simp [intOf]; omega
        · obtain rfl : j = l.length := by omega
          have i64 := H64.out
          by_cases g1 : 1 ≤ l.length
          · by_cases g2 : l.length ≤ 64
            · have m1 : ¬ (l.length : Int) < 1 := by omega
              have m2 : ¬ (64 : Int) < (l.length : Int) := by omega
              have m3 : ((l.length : Int) == (s.size : Int)) = false := by rw [beq_eq_false_iff_ne]; omega
              have m4 : decide (l.length = s.size) = false := by rw [decide_eq_false_iff_not]; omega
              have hq2 : q = ((!(l[0] == 46) && !(l[l.length - 1] == 46) && !(Lib.contains l [46, 46]) && l.all locC) && p2) := by
                rw [HQ0.out, locB, decide_eq_true g1, decide_eq_true g2, List.getD_eq_getElem?_getD, List.getD_eq_getElem?_getD, List.getElem?_eq_getElem (show 0 < l.length by omega), List.getElem?_eq_getElem (show l.length - 1 < l.length by omega)]; rfl
              have i0 := HAT.out 0 (by omega) 0 rfl
              have i9 := HAT.out (l.length - 1) (by omega) ((l.length : Int) - 1) (by omega)
              obtain ⟨b0, hb0⟩ : ∃ b, l[0] = b := ⟨_, rfl⟩
              obtain ⟨b9, hb9⟩ : ∃ b, l[l.length - 1] = b := ⟨_, rfl⟩
              rw [hb0] at i0 hq2
              rw [hb9] at i9 hq2
              have HQ2 := hide hq2
              clear hb0 hb9 hq2
              go_wp2_with fail
              refine (rdns_any y (by omega) p2 HP2.out _).mono ?_
              rintro e w1 ⟨rfl, hb1⟩
              have HBW := hide hb1
              clear hb1
              cases p2
              · have HN := hide (show q = false by rw [HQ2.out, Bool.and_false])
                go_wp2_with fail
                exact bodyPost_ret (v := .tuple #[.string ⟨#[]⟩, .string ⟨#[]⟩, .bool false]) (by simp [results, Tryz.results81, go_sem]) rfl (parts_no HN.out HBW.out)
              · obtain ⟨p0, hp0⟩ : ∃ p, (b0 == 46) = p := ⟨_, rfl⟩
                have t0 : ((b0.toNat : Int) == 46) = p0 := (byte_beq b0 46).trans hp0
                obtain ⟨p9, hp9⟩ : ∃ p, (b9 == 46) = p := ⟨_, rfl⟩
                have t9 : ((b9.toNat : Int) == 46) = p9 := (byte_beq b9 46).trans hp9
                have HQ3 := hide (show q = (!p0 && !p9 && !(Lib.contains l [46, 46]) && l.all locC) by rw [HQ2.out, hp0, hp9, Bool.and_true])
                clear hp0 hp9
                cases p0
                · cases p9
                  · have H3 := hide (show q = (!(Lib.contains (l.drop 0) [46, 46]) && (l.drop 0).all locC) from HQ3.out)
                    go_wp2_with fail
                    clear t0 t9 i0 i9 i64
                    go_loopw [6] (fun i wi => ∃ j : Nat, j ≤ l.length ∧ i = .int .i64 j ∧ w1 = wi ∧ Hid (q = (!(Lib.contains (l.drop j) [46, 46]) && (l.drop j).all locC))) (fun i _ => l.length - (intOf i).toNat)
                    case atStart => exact ⟨0, Nat.zero_le _, rfl, rfl, H3⟩
                    case round =>
                      obtain ⟨j, hj, rfl, rfl, H⟩ := hrel
                      by_cases hjl : j < l.length
                      · have hjl' : (j : Int) < (l.length : Int) := by omega
                        have hjs2 : (j : Int) < (s.size : Int) := by omega
                        have hjs3 : (j : Int) + 1 < (s.size : Int) := by omega
                        have hix := HAT.out j hjl (j : Int) rfl
                        obtain ⟨n, hn, hin⟩ := HNXT.out j hjl
                        obtain ⟨b, hb⟩ : ∃ b, l[j] = b := ⟨_, rfl⟩
                        rw [hb] at hix
                        obtain ⟨p1, hp1⟩ : ∃ x, alnum b = x := ⟨_, rfl⟩
                        obtain ⟨p4, hp4⟩ : ∃ x, locSet.contains b = x := ⟨_, rfl⟩
                        obtain ⟨p5, hp5⟩ : ∃ x, (b == 46) = x := ⟨_, rfl⟩
                        obtain ⟨p6, hp6⟩ : ∃ x, (n == 46) = x := ⟨_, rfl⟩
                        have t5 : ((b.toNat : Int) == 46) = p5 := (byte_beq b 46).trans hp5
                        have t6 : ((n.toNat : Int) == 46) = p6 := (byte_beq n 46).trans hp6
                        have hloc : locC b = (p1 || p4) := by rw [← hp1, ← hp4]; rfl
                        have HX := hide (show q = ((!((p5 && p6) || Lib.contains (l.drop (j + 1)) [46, 46])) && ((p1 || p4) && (l.drop (j + 1)).all locC)) by
                          rw [H.out, List.drop_eq_getElem_cons hjl, hb, dots_cons b n _ r hn, List.all_cons, hloc, hp5, hp6])
                        have P1 := hide hp1
                        have P4 := hide hp4
                        clear hb hn hp1 hp4 hp5 hp6 hloc H
                        go_wp2_with fail
                        refine (alnum_v b p1 P1.out _).mono ?_
                        rintro e w5 ⟨rfl, rfl⟩
                        cases p1
                        · go_wp2_with fail
                          refine (among_v b p4 P4.out _).mono ?_
                          rintro e w5 ⟨rfl, rfl⟩
                          cases p4
                          · have HN := hide (show q = false from HX.out.trans (by simp))
                            go_wp2_with fail
                            exact bodyPost_ret (v := .tuple #[.string ⟨#[]⟩, .string ⟨#[]⟩, .bool false]) (by simp [results, Tryz.results81, go_sem]) rfl (parts_no HN.out HBW.out)
                          · cases p5
                            · have HY := hide (show q = (!(Lib.contains (l.drop (j + 1)) [46, 46]) && (l.drop (j + 1)).all locC) from HX.out.trans (by simp))
                              go_wp2_with fail
                              go_roundw
                              case rel => exact ⟨j + 1, by omega, by go_num, trivial, HY⟩
                              case measure => simp [intOf]; omega
                            · cases p6
                              · have HY := hide (show q = (!(Lib.contains (l.drop (j + 1)) [46, 46]) && (l.drop (j + 1)).all locC) from HX.out.trans (by simp))
                                go_wp2_with fail
                                go_roundw
                                case rel => exact ⟨j + 1, by omega, by go_num, trivial, HY⟩
                                case measure => simp [intOf]; omega
                              · have HN := hide (show q = false from HX.out.trans (by simp))
                                go_wp2_with fail
                                exact bodyPost_ret (v := .tuple #[.string ⟨#[]⟩, .string ⟨#[]⟩, .bool false]) (by simp [results, Tryz.results81, go_sem]) rfl (parts_no HN.out HBW.out)
                        · cases p5
                          · have HY := hide (show q = (!(Lib.contains (l.drop (j + 1)) [46, 46]) && (l.drop (j + 1)).all locC) from HX.out.trans (by simp))
                            go_wp2_with fail
                            go_roundw
                            case rel => exact ⟨j + 1, by omega, by go_num, trivial, HY⟩
                            case measure => simp [intOf]; omega
                          · cases p6
                            · have HY := hide (show q = (!(Lib.contains (l.drop (j + 1)) [46, 46]) && (l.drop (j + 1)).all locC) from HX.out.trans (by simp))
                              go_wp2_with fail
                              go_roundw
                              case rel => exact ⟨j + 1, by omega, by go_num, trivial, HY⟩
                              case measure => simp [intOf]; omega
                            · have HN := hide (show q = false from HX.out.trans (by simp))
                              go_wp2_with fail
                              exact bodyPost_ret (v := .tuple #[.string ⟨#[]⟩, .string ⟨#[]⟩, .bool false]) (by simp [results, Tryz.results81, go_sem]) rfl (parts_no HN.out HBW.out)
                      · obtain rfl : j = l.length := by omega
                        have hqt : q = true := by rw [H.out, List.drop_length]; rfl
                        have HQT := hide hqt
                        clear H hqt
                        go_upto_region 13 with (fail)
                        go_quiet (fail)
                        go_wp2_with fail
                        exact bodyPost_ret (v := .tuple #[.string x, .string y, .bool true]) (by simp [results, Tryz.results81, go_sem]) rfl ⟨x, y, hide (by rw [HQT.out, if_pos rfl, if_pos rfl]; exact HXY.out), hxs, hys, by rw [HQT.out], below_drewN HBW.out _⟩
                  · have HN := hide (show q = false from HQ3.out.trans (by simp))
                    go_wp2_with fail
                    exact bodyPost_ret (v := .tuple #[.string ⟨#[]⟩, .string ⟨#[]⟩, .bool false]) (by simp [results, Tryz.results81, go_sem]) rfl (parts_no HN.out HBW.out)
                · have HN := hide (show q = false from HQ3.out.trans (by simp))
                  go_wp2_with fail
                  exact bodyPost_ret (v := .tuple #[.string ⟨#[]⟩, .string ⟨#[]⟩, .bool false]) (by simp [results, Tryz.results81, go_sem]) rfl (parts_no HN.out HBW.out)
            · have m1 : ¬ (l.length : Int) < 1 := by omega
              have m2 : (64 : Int) < (l.length : Int) := by omega
              have HN := hide (show q = false by rw [HQ0.out, locB, decide_eq_false g2]; simp)
              go_wp2_with fail
              exact bodyPost_ret (v := .tuple #[.string ⟨#[]⟩, .string ⟨#[]⟩, .bool false]) (by simp [results, Tryz.results81, go_sem]) rfl (parts_no HN.out HB0.out)
          · have m1 : (l.length : Int) < 1 := by omega
            have HN := hide (show q = false by rw [HQ0.out, locB, decide_eq_false g1]; simp)
            go_wp2_with fail
            exact bodyPost_ret (v := .tuple #[.string ⟨#[]⟩, .string ⟨#[]⟩, .bool false]) (by simp [results, Tryz.results81, go_sem]) rfl (parts_no HN.out HB0.out)
  · have hn1 : 128 < s.size := by omega
    have HN := hide (show q = false by rw [← hq, mailB, hss, decide_eq_false h1]; simp)
    clear hq
    go_enter Tryz.func81, Tryz.ntmps81
    go_wp2_with fail
    exact bodyPost_ret (v := .tuple #[.string ⟨#[]⟩, .string ⟨#[]⟩, .bool false]) (by simp [results, Tryz.results81, go_sem]) rfl (parts_no HN.out HB0.out)
end Go.Proofs.YtodapmkdmkhhfaaGreatDoor
