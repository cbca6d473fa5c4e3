/- The reference's functions over texts of general names: alike, ends, DNS, Base, Pattern. -/
import Derived.Test.YtodapmkdmkhhfaaGreatDoorHos1
import Derived.Test.YtodapmkdmkhhfaaGreatDoorNamH
namespace Go.Proofs.YtodapmkdmkhhfaaGreatDoor
open Go.RowKit

theorem rlow_v (s : ByteArray) (hs : s.size ≤ 1000000) (w : World) :
    Calls Tryz.prog 39 #[.string s] w fun e w' => ∃ t : ByteArray, Hid (t.data.toList = s.data.toList.map low) ∧ e = .returned (.string t) ∧ Below w.heap.size w w' :=
  (Lower_any s hs w).mono fun _ _ ⟨he, hb⟩ => ⟨_, hide rfl, he, hb⟩
set_option maxHeartbeats 1000000 in
theorem ralike_any (a b : ByteArray) (ha : a.size ≤ 1000000) (hb : b.size ≤ 1000000) (q : Bool) (hq : eqF a.data.toList b.data.toList = q) (w : World) :
    Calls Tryz.prog 59 #[.string a, .string b] w fun e w' => e = .returned (.bool q) ∧ Below w.heap.size w w' := by
  have HQ := hide hq
  clear hq
  go_enter Tryz.func59, Tryz.ntmps59
  go_wp2_with fail
  refine (rlow_v a ha _).mono ?_
  rintro e w1 ⟨t, HT, rfl, hb1⟩
  have HB1 := hide hb1
  clear hb1
  go_wp2_with fail
  refine (rlow_v b hb _).mono ?_
  rintro e w2 ⟨u, HU, rfl, hb2⟩
  have HB2 := hide (HB1.out.trans (hb2.mono HB1.out.size))
  clear hb2
  go_wp2_with fail
  go_ret
  exact ⟨ret_bool (by rw [str_beq, HT.out, HU.out, ← HQ.out]; rfl), HB2.out⟩

theorem suffix_drop (s t : List UInt8) : t.isSuffixOf s = (decide (t.length ≤ s.length) && (s.drop (s.length - t.length) == t)) := by
  rw [Bool.eq_iff_iff, List.isSuffixOf_iff_suffix]
  simp only [Bool.and_eq_true, decide_eq_true_eq, beq_iff_eq]
  constructor
  · rintro ⟨p, rfl⟩
    simp
  · rintro ⟨h, hd⟩
    exact hd ▸ List.drop_suffix _ _
theorem endsF_drop (s t : List UInt8) : endsF s t = (decide (t.length ≤ s.length) && eqF (s.drop (s.length - t.length)) t) := by
  unfold endsF eqF Lib.hasSuffix
  rw [suffix_drop, List.length_map, List.length_map, List.map_drop]
set_option maxHeartbeats 1000000 in
theorem rends_any (a b : ByteArray) (ha : a.size ≤ 1000000) (hb : b.size ≤ 1000000) (q : Bool) (hq : endsF a.data.toList b.data.toList = q) (w : World) :
    Calls Tryz.prog 95 #[.string a, .string b] w fun e w' => e = .returned (.bool q) ∧ Below w.heap.size w w' := by
  have hsa := size_string a
  have hsb := size_string b
  rw [endsF_drop, hsa, hsb] at hq
  by_cases h : b.size ≤ a.size
  · have hq2 : eqF (a.data.toList.drop (a.size - b.size)) b.data.toList = q := by rw [← hq, decide_eq_true h]; rfl
    obtain ⟨x, hx⟩ : ∃ x : ByteArray, x = a.extract (a.size - b.size) a.size := ⟨_, rfl⟩
    have hxl : x.data.toList = a.data.toList.drop (a.size - b.size) := by
      rw [hx, Lib.extract_data, List.take_of_length_le]
      rw [List.length_drop, hsa]; omega
    have hxs : x.size ≤ 1000000 := by rw [hx, ba_size_ex _ _ _ (Nat.le_refl _)]; omega
    have HS : ∀ W : World, (Instr.slice 9 (.string a) (some (.int .i64 ((a.size : Int) - (b.size : Int)))) none none).run Tryz.prog W = .ok (.string x) W := fun W => by
      have h9 := run_slice_string_l (P := Tryz.prog) W 9 a Tryz.underlying9 .i64 ((a.size : Int) - (b.size : Int)) (by omega) (by omega)
      rw [h9, hx, show ((a.size : Int) - (b.size : Int)).toNat = a.size - b.size by omega]
    have HQ := hide (show eqF x.data.toList b.data.toList = q by rw [hxl]; exact hq2)
    have hge : (b.size : Int) ≤ (a.size : Int) := by omega
    clear hq hq2 hxl hx hsa hsb
    go_enter Tryz.func95, Tryz.ntmps95
    go_wp2_with fail
    refine (ralike_any x b hxs hb q HQ.out _).mono ?_
    rintro e w1 ⟨rfl, hb1⟩
    go_wp2_with fail
    go_ret
    exact ⟨rfl, hb1⟩
  · have HN := hide (show false = q by rw [← hq, decide_eq_false h]; rfl)
    have hlt : (a.size : Int) < (b.size : Int) := by omega
    clear hq hsa hsb h
    go_enter Tryz.func95, Tryz.ntmps95
    go_wp2_with fail
    go_ret
    exact ⟨ret_bool HN.out, Below.refl _ _⟩

theorem lab_alnum (c : UInt8) : labC c = (alnum c || c == 45) := by
  rfl
theorem alnum_v (c : UInt8) (q : Bool) (hq : alnum c = q) (w : World) : Calls Tryz.prog 113 #[.int .u8 (c.toNat : Int)] w fun e w' => e = .returned (.bool q) ∧ w = w' := hq ▸ Alnum_any c w
set_option maxRecDepth 100000 in
set_option maxHeartbeats 8000000 in
theorem rdns_any (s : ByteArray) (hs : s.size ≤ 1000000) (q : Bool) (hq : dnsB s.data.toList = q) (w : World) :
    Calls Tryz.prog 85 #[.string s] w fun e w' => e = .returned (.bool q) ∧ Below w.heap.size w w' := by
  have hss := size_string s
  by_cases h1 : s.size ≤ 128
  · have hn1 : ¬ 128 < s.size := by omega
    obtain ⟨ps, hps⟩ : ∃ ps, splitC 46 s.data.toList = ps := ⟨_, rfl⟩
    have H0 := hide (show q = (ps.drop 0).all labB by rw [← hq, dnsB, hss, decide_eq_true h1, hps]; rfl)
    have HPL := hide (show ∀ p ∈ ps, p.length ≤ 128 from fun p hp => by
      have := splitC_mem_len 46 s.data.toList p (hps ▸ hp)
      omega)
    have hpl : ps.length ≤ 129 := by
      have := splitC_len 46 s.data.toList
      rw [hps] at this
      omega
    have SP := hide (fun W => hps ▸ rSplit_any s (by omega) 46 W)
    clear hq hps hss
    go_enter Tryz.func85, Tryz.ntmps85
    go_wp2_with fail
    refine (SP.out _).mono ?_
    rintro e w1 ⟨v, rfl, hb1, hsl⟩
    obtain ⟨A, c, hv⟩ := hsl.shape
    subst hv
    have HB1 := hide hb1
    have HSL := hide hsl
    clear hb1 hsl
    go_wp2_with fail
    go_loopw [12] (fun i wr => ∃ k : Nat, k ≤ ps.length ∧ i = .int .i64 k ∧ Below w1.heap.size w1 wr ∧ Hid (q = (ps.drop k).all labB)) (fun i _ => ps.length - (intOf i).toNat)
    case atStart => exact ⟨0, Nat.zero_le _, rfl, Below.refl _ _, H0⟩
    case round =>
      obtain ⟨k, hk, rfl, hb, H⟩ := hrel
      have HBW := hide (HB1.out.trans (hb.mono HB1.out.size))
      by_cases hlt : k < ps.length
      · obtain ⟨bk, off, xs, hA, hbS, hx, hcell⟩ := HSL.out.at_ hlt
        subst hA
        have hpp := HPL.out ps[k] (List.getElem_mem hlt)
        have HX := hide (show q = (labB ps[k] && (ps.drop (k + 1)).all labB) by rw [H.out, List.drop_eq_getElem_cons hlt, List.all_cons])
        obtain ⟨p, hp⟩ : ∃ p : ByteArray, p = ⟨ps[k].toArray⟩ := ⟨_, rfl⟩
        have hp2 : ps[k] = p.data.toList := by rw [hp]
        have hxs : xs = strC ps[k] := hx
        rw [hxs] at hcell
        have e0 := hcell 0 (.string p) (by rw [hp]; rfl)
        have d0 : wr.cell? ⟨bk, off + k, none⟩ = some (.string p) := (hb.cell (p := ⟨bk, off + k, none⟩) hbS.2).trans (by simpa using e0)
        have hlt' : (k : Int) < (ps.length : Int) := by omega
        rw [hp2] at HX hpp
        rw [size_string] at hpp
        have hsp := size_string p
        have HB := hide hb
        clear hx hcell hp hp2 hxs e0 hb
        by_cases g1 : 1 ≤ p.size
        · have m1 : ¬ p.size < 1 := by omega
          by_cases g2 : p.size ≤ 63
          · have m2 : ¬ 63 < p.size := by omega
            have hq2 : labB p.data.toList = (!(p[0] == 45) && !(p[p.size - 1] == 45) && p.data.toList.all labC) := by
              rw [labB, hsp, decide_eq_true g1, decide_eq_true g2, getD_str p 0 (by omega), getD_str p (p.size - 1) (by omega)]; rfl
            have hp0 : 0 < p.size := by omega
            by_cases g3 : p[0] = 45
            · have t3 : ((p[0].toNat : Int) == 45) = true := by rw [g3]; rfl
              have HN := hide (show q = false by rw [HX.out, hq2, g3]; rfl)
              clear g3 hq2
              go_wp2_with fail
              go_ret
              exact ⟨ret_bool HN.out.symm, HBW.out⟩
            · have t3 : ((p[0].toNat : Int) == 45) = false := (byte_beq p[0] 45).trans (by simpa using g3)
              have hix : ∀ W : World, (Instr.index 9 (.string p) (.int .i64 ((p.size : Int) - 1))).run Tryz.prog W = .ok (.int .u8 (p[p.size - 1].toNat : Int)) W := fun W => by
                have h9 := run_index_string (P := Tryz.prog) (w := W) 9 p .i64 ((p.size : Int) - 1) Tryz.underlying9
                rw [h9, dif_pos (by omega)]
                have h8 : ((p.size : Int) - 1).toNat = p.size - 1 := by omega
                simp only [h8]
              obtain ⟨cl, hcl⟩ : ∃ cl, p[p.size - 1] = cl := ⟨_, rfl⟩
              rw [hcl] at hix hq2
              by_cases g4 : cl = 45
              · have t4 : ((cl.toNat : Int) == 45) = true := by rw [g4]; rfl
                have HN := hide (show q = false by rw [HX.out, hq2, g4]; simp)
                clear g3 g4 hq2 hcl
                go_wp2_with fail
                go_ret
                exact ⟨ret_bool HN.out.symm, HBW.out⟩
              · have t4 : ((cl.toNat : Int) == 45) = false := (byte_beq cl 45).trans (by simpa using g4)
                have HX2 := hide (show q = ((p.data.toList.drop 0).all labC && (ps.drop (k + 1)).all labB) by
                  have e3 : (p[0] == 45) = false := by simpa using g3
                  have e4 : (cl == 45) = false := by simpa using g4
                  rw [HX.out, hq2, e3, e4]; rfl)
                clear g3 g4 hq2 hcl HX
                go_wp2_with fail
                clear t3 t4 hix d0
                go_loopw [5] (fun i wi => ∃ j : Nat, j ≤ p.size ∧ i = .int .i64 j ∧ wr = wi ∧ Hid (q = ((p.data.toList.drop j).all labC && (ps.drop (k + 1)).all labB))) (fun i _ => p.size - (intOf i).toNat)
                case atStart => exact ⟨0, Nat.zero_le _, rfl, rfl, HX2⟩
                case round =>
                  obtain ⟨j, hj, rfl, rfl, H3⟩ := hrel
                  by_cases hjl : j < p.size
                  · have hjl' : (j : Int) < (p.size : Int) := by omega
                    obtain ⟨b, hbj⟩ : ∃ b, p[j] = b := ⟨_, rfl⟩
                    have hixj : ∀ W : World, (Instr.index 9 (.string p) (.int .i64 (j : Int))).run Tryz.prog W = .ok (.int .u8 (b.toNat : Int)) W := fun W => by
                      have h9 := run_index_string (P := Tryz.prog) (w := W) 9 p .i64 (j : Int) Tryz.underlying9
                      rw [h9, dif_pos (by omega)]
                      simp only [Int.toNat_natCast, hbj]
                    obtain ⟨p1, hp1⟩ : ∃ x, alnum b = x := ⟨_, rfl⟩
                    obtain ⟨p3, hp3⟩ : ∃ x, (b == 45) = x := ⟨_, rfl⟩
                    have HX4 := hide (show q = ((p1 || p3) && ((p.data.toList.drop (j + 1)).all labC && (ps.drop (k + 1)).all labB)) by
                      rw [H3.out, drop_string p j hjl, List.all_cons, hbj, lab_alnum, hp1, hp3, Bool.and_assoc])
                    have t5 : ((b.toNat : Int) == 45) = p3 := (byte_beq b 45).trans hp3
                    have t6 : ((b.toNat : Int) != 45) = !p3 := by rw [bne, t5]
                    have P1 := hide hp1
                    clear hp1 hp3 hbj H3
                    go_wp2_with fail
                    refine (alnum_v b p1 P1.out _).mono ?_
                    rintro e w5 ⟨rfl, rfl⟩
                    cases p1
                    · cases p3
                      · have HN := hide (show q = false from HX4.out.trans (by simp))
                        go_wp2_with fail
                        go_ret
                        exact ⟨ret_bool HN.out.symm, HBW.out⟩
                      · have HY := hide (show q = ((p.data.toList.drop (j + 1)).all labC && (ps.drop (k + 1)).all labB) from HX4.out.trans (by simp))
                        go_wp2_with fail
                        go_roundw
                        case rel => exact ⟨j + 1, by omega, by go_num, trivial, HY⟩
                        case measure => simp [intOf]; omega
                    · have HY := hide (show q = ((p.data.toList.drop (j + 1)).all labC && (ps.drop (k + 1)).all labB) from HX4.out.trans (by simp))
                      go_wp2_with fail
                      go_roundw
                      case rel => exact ⟨j + 1, by omega, by go_num, trivial, HY⟩
                      case measure => simp [intOf]; omega
                  · have HY := hide (show q = (ps.drop (k + 1)).all labB by rw [H3.out, drop_string_end p j (by omega)]; rfl)
                    clear H3
                    go_wp2_with fail
                    go_roundw
                    case rel => exact ⟨k + 1, by omega, by go_num, HB.out, HY⟩
                    case measure => simp [intOf]; omega
          · have m2 : 63 < p.size := by omega
            have HN := hide (show q = false from by rw [HX.out, labB, hsp, decide_eq_false g2]; simp)
            go_wp2_with fail
            go_ret
            exact ⟨ret_bool HN.out.symm, HBW.out⟩
        · have m1 : p.size < 1 := by omega
          have HN := hide (show q = false from by rw [HX.out, labB, hsp, decide_eq_false g1]; simp)
          go_wp2_with fail
          go_ret
          exact ⟨ret_bool HN.out.symm, HBW.out⟩
      · have HY := hide (show q = true by rw [H.out, List.drop_of_length_le (by omega)]; rfl)
        clear hb
        go_wp2_with fail
        go_ret
        exact ⟨ret_bool HY.out.symm, HBW.out⟩
  · have hn1 : 128 < s.size := by omega
    have HN := hide (show q = false by rw [← hq, dnsB, hss, decide_eq_false h1]; rfl)
    clear hq
    go_enter Tryz.func85, Tryz.ntmps85
    go_wp2_with fail
    go_ret
    exact ⟨ret_bool HN.out.symm, Below.refl _ _⟩

set_option maxHeartbeats 1000000 in
theorem rbase_any (s : ByteArray) (hs : s.size ≤ 1000000) (q : Bool) (hq : baseB s.data.toList = q) (w : World) :
    Calls Tryz.prog 96 #[.string s] w fun e w' => e = .returned (.bool q) ∧ Below w.heap.size w w' := by
  rcases empty_cases s with ⟨h0, h1, h2, h3⟩ | ⟨h0, h1, h2, h3⟩
  · have HN := hide (show q = true by rw [← hq, baseB, emptyB, h0]; rfl)
    clear hq h0
    go_enter Tryz.func96, Tryz.ntmps96
    go_wp2_with fail
    go_ret
    exact ⟨ret_bool HN.out.symm, Below.refl _ _⟩
  · have HN := hide (show dnsB s.data.toList = q by rw [← hq, baseB, emptyB, show (s.data.toList == []) = false by simpa using h0]; rfl)
    clear hq h0
    go_enter Tryz.func96, Tryz.ntmps96
    go_wp2_with fail
    refine (rdns_any s hs q HN.out _).mono ?_
    rintro e w1 ⟨rfl, hb1⟩
    go_wp2_with fail
    go_ret
    exact ⟨rfl, hb1⟩
end Go.Proofs.YtodapmkdmkhhfaaGreatDoor
