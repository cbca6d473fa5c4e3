/- The reference's AddressWithin. -/
import Derived.Test.YtodapmkdmkhhfaaGreatDoorRefG
namespace Go.Proofs.YtodapmkdmkhhfaaGreatDoor
open Go.RowKit

theorem aw_len {r : List UInt8} (h : rangeB r = true) : r.length = 8 ∨ r.length = 32 := by
  unfold rangeB at h
  simp only [Bool.and_eq_true, Bool.or_eq_true, beq_iff_eq] at h
  exact h.1

set_option maxHeartbeats 8000000 in
theorem raw_any (a r : ByteArray) (ha : a.size ≤ 1000000) (hr : r.size ≤ 1000000) (q : Bool) (hq : awB a.data.toList r.data.toList = q) (w : World) :
    Calls Tryz.prog 70 #[.string a, .string r] w fun e w' => e = .returned (.bool q) ∧ Below w.heap.size w w' := by
  have hsa := size_string a
  have hsr := size_string r
  obtain ⟨p1, hp1⟩ : ∃ p, rangeB r.data.toList = p := ⟨_, rfl⟩
  obtain ⟨p2, hp2⟩ : ∃ p, rangeB a.data.toList = p := ⟨_, rfl⟩
  obtain ⟨p3, hp3⟩ : ∃ p, addrB a.data.toList = p := ⟨_, rfl⟩
  have P1 := hide hp1
  have P2 := hide hp2
  have P3 := hide hp3
  cases p1
  · have HN := hide (show false = q by rw [← hq, awB, hp1]; rfl)
    clear hq hp1 hp2 hp3
    go_enter Tryz.func70, Tryz.ntmps70
    go_wp2_with fail
    refine (rrange_any r hr false P1.out _).mono ?_
    rintro e w1 ⟨rfl, hb1⟩
    go_wp2_with fail
    go_ret
    exact ⟨ret_bool HN.out, hb1⟩
  · have hr32 : r.size = 8 ∨ r.size = 32 := by
      have := aw_len hp1
      rw [hsr] at this
      exact this
    obtain ⟨h, hh⟩ : ∃ h, h = r.size / 2 := ⟨_, rfl⟩
    have hh2 : r.size = 2 * h := by omega
    have hh16 : h ≤ 16 := by omega
    obtain ⟨m, hm⟩ : ∃ m, hiH r.data.toList = m := ⟨_, rfl⟩
    obtain ⟨b, hb⟩ : ∃ b, loH r.data.toList = b := ⟨_, rfl⟩
    have IB := hide (fun (j : Nat) (hj : j < h) => (show ∃ c : UInt8, b.getD j 0 = c ∧ ∀ W : World, (Instr.index 9 (.string r) (.int .i64 (j : Int))).run Tryz.prog W = .ok (.int .u8 (c.toNat : Int)) W from
      ⟨r[j], by rw [← hb, loH, hsr, ← hh, List.getD_eq_getElem?_getD, List.getElem?_take, if_pos hj, List.getElem?_eq_getElem (by rw [hsr]; omega)]; rfl, str_i r j (by omega) _ rfl⟩))
    have IM := hide (fun (j : Nat) (hj : j < h) => (show ∃ c : UInt8, m.getD j 0 = c ∧ ∀ W : World, (Instr.index 9 (.string r) (.int .i64 ((h : Int) + (j : Int)))).run Tryz.prog W = .ok (.int .u8 (c.toNat : Int)) W from
      ⟨r[h + j], by rw [← hm, hiH, hsr, ← hh, List.getD_eq_getElem?_getD, List.getElem?_drop, List.getElem?_eq_getElem (by rw [hsr]; omega)]; rfl, str_i r (h + j) (by omega) _ (by omega)⟩))
    have hml : m.length = h := by rw [← hm, hiH, List.length_drop, hsr]; omega
    have hbl : b.length = h := by rw [← hb, loH, List.length_take, hsr]; omega
    have hdv : (r.size : Int) / 2 = (h : Int) := by omega
    have hq0 : (if (a.size == r.size && p2) = true then subG m (hiH a.data.toList) h 0 && mskG (loH a.data.toList) m b h 0 else (a.size == h && p3) && mskG a.data.toList m b h 0) = q := by
      rw [← hq, awB, hp1, hp2, hp3, hsa, hsr, hm, hb, hml, hbl]; rfl
    have HQ0 := hide hq0
    clear hq hp1 hp2 hp3 hm hb hml hbl hq0
    by_cases hw : p3 = true ∧ a.size = h
    · obtain ⟨rfl, hah⟩ := hw
      have HM := hide (show awG false a.data.toList m b [] (h - 0) 0 = q by
        rw [awG_one, ← HQ0.out, show (a.size == r.size) = false by rw [beq_eq_false_iff_ne]; omega, show (a.size == h) = true by rw [hah]; simp]; rfl)
      have IX := hide (fun (j : Nat) (hj : j < h) => (show ∃ c : UInt8, a.data.toList.getD j 0 = c ∧ ∀ W : World, (Instr.index 9 (.string a) (.int .i64 (j : Int))).run Tryz.prog W = .ok (.int .u8 (c.toNat : Int)) W from
        ⟨a[j], getD_str a j (by omega), str_i a j (by omega) _ rfl⟩))
      have t1 : ((a.size : Int) == (h : Int)) = true := by rw [hah]; simp
      have t1' : decide (a.size = h) = true := by simpa using hah
      obtain ⟨x, hx⟩ : ∃ x, a.data.toList = x := ⟨_, rfl⟩
      rw [hx] at HM IX
      clear hsa hsr hr32 hh hh2 hah hx
      go_enter Tryz.func70, Tryz.ntmps70
      go_wp2_with fail
      refine (rrange_any r hr true P1.out _).mono ?_
      rintro e w1 ⟨rfl, hb1⟩
      have HB1 := hide hb1
      clear hb1
      go_wp2_with fail
      refine (raddr_any a true P3.out _).mono ?_
      rintro e w2 ⟨rfl, rfl⟩
      go_wp2_with fail
      go_loopw [7] (fun i wr => ∃ k : Nat, k ≤ h ∧ i = .int .i64 k ∧ Below w.heap.size w wr ∧ Hid (awG false x m b [] (h - k) k = q)) (fun i _ => h - (intOf i).toNat)
      case atStart => exact ⟨0, Nat.zero_le _, rfl, HB1.out, HM⟩
      case round =>
        obtain ⟨k, hk, rfl, hbr, H⟩ := hrel
        have HBR := hide hbr
        by_cases hlt : k < h
        · obtain ⟨cx, hcx, ixx⟩ := IX.out k hlt
          obtain ⟨cb, hcb, ixb⟩ := IB.out k hlt
          obtain ⟨cm, hcm, ixm⟩ := IM.out k hlt
          have hk0 : (0 : Int) ≤ (k : Int) := by omega
          have hki : (k : Int) < (h : Int) := by omega
          obtain ⟨p, hp⟩ : ∃ p, msk1 cx cm cb = p := ⟨_, rfl⟩
          have t5 := (msk1_eq cx cm cb).trans (by rw [hp])
          have HX := hide (show (p && awG false x m b [] (h - (k + 1)) (k + 1)) = q by
            rw [← H.out, show h - k = (h - (k + 1)) + 1 by omega, awG, hcx, hcb, hcm, hp]; simp)
          clear hbr hp hcx hcb hcm
          cases p
          · have HY := hide (show false = q from HX.out)
            go_wp2_with fail
            go_quiet (fail)
            go_wp2_with fail
            go_ret
            exact ⟨ret_bool HY.out, below_drewN HBR.out _⟩
          · have HY := hide (show awG false x m b [] (h - (k + 1)) (k + 1) = q from HX.out)
            go_wp2_with fail
            go_quiet (fail)
            go_wp2_with fail
            go_roundw
            case rel => exact ⟨k + 1, by omega, by go_num, below_drewN HBR.out _, HY⟩
            case measure => simp [intOf]; omega
        · have HY := hide (show true = q by rw [← H.out, show h - k = 0 by omega, awG])
          clear hbr
          go_wp2_with fail
          go_ret
          exact ⟨ret_bool HY.out, HBR.out⟩
    · have hwf : (a.size == h && p3) = false := by
        rw [Bool.eq_false_iff]
        intro h2
        simp only [Bool.and_eq_true, beq_iff_eq] at h2
        exact hw ⟨h2.2, h2.1⟩
      have HWF := hide hwf
      by_cases hl : a.size = r.size
      · have t2 : ((a.size : Int) != (r.size : Int)) = false := by rw [hl]; simp
        have t2' : ¬ a.size = h := by omega
        have t1 : ((a.size : Int) == (h : Int)) = false := by rw [beq_eq_false_iff_ne]; omega
        cases p2
        · have HN := hide (show false = q by rw [← HQ0.out, hwf, Bool.and_false]; rfl)
          clear hsa hsr hr32 hh hh2 hw hwf hl
          go_enter Tryz.func70, Tryz.ntmps70
          go_wp2_with fail
          refine (rrange_any r hr true P1.out _).mono ?_
          rintro e w1 ⟨rfl, hb1⟩
          have HB1 := hide hb1
          clear hb1
          go_wp2_with fail
          refine (raddr_any a p3 P3.out _).mono ?_
          rintro e w2 ⟨rfl, rfl⟩
          cases p3
          all_goals
            go_wp2_with fail
            refine (rrange_any a ha false P2.out _).mono ?_
            rintro e w3 ⟨rfl, hb3⟩
            go_wp2_with fail
            go_ret
            exact ⟨ret_bool HN.out, HB1.out.trans (hb3.mono HB1.out.size)⟩
        · obtain ⟨x, hx⟩ : ∃ x, loH a.data.toList = x := ⟨_, rfl⟩
          obtain ⟨o, ho⟩ : ∃ o, hiH a.data.toList = o := ⟨_, rfl⟩
          have has : a.size = 2 * h := by omega
          have HM := hide (show awG true x m b o (h - 0) 0 = q by
            rw [awG_two, ← HQ0.out, show (a.size == r.size) = true by rw [hl]; simp, hx, ho]; rfl)
          have IX := hide (fun (j : Nat) (hj : j < h) => (show ∃ c : UInt8, x.getD j 0 = c ∧ ∀ W : World, (Instr.index 9 (.string a) (.int .i64 (j : Int))).run Tryz.prog W = .ok (.int .u8 (c.toNat : Int)) W from
            ⟨a[j], by rw [← hx, loH, hsa, show a.size / 2 = h by omega, List.getD_eq_getElem?_getD, List.getElem?_take, if_pos hj, List.getElem?_eq_getElem (by rw [hsa]; omega)]; rfl, str_i a j (by omega) _ rfl⟩))
          have IO := hide (fun (j : Nat) (hj : j < h) => (show ∃ c : UInt8, o.getD j 0 = c ∧ ∀ W : World, (Instr.index 9 (.string a) (.int .i64 ((h : Int) + (j : Int)))).run Tryz.prog W = .ok (.int .u8 (c.toNat : Int)) W from
            ⟨a[h + j], by rw [← ho, hiH, hsa, show a.size / 2 = h by omega, List.getD_eq_getElem?_getD, List.getElem?_drop, List.getElem?_eq_getElem (by rw [hsa]; omega)]; rfl, str_i a (h + j) (by omega) _ (by omega)⟩))
          clear hsa hsr hr32 hh hh2 hw hwf hl hx ho has
          go_enter Tryz.func70, Tryz.ntmps70
          go_wp2_with fail
          refine (rrange_any r hr true P1.out _).mono ?_
          rintro e w1 ⟨rfl, hb1⟩
          have HB1 := hide hb1
          clear hb1
          go_wp2_with fail
          refine (raddr_any a p3 P3.out _).mono ?_
          rintro e w2 ⟨rfl, rfl⟩
          cases p3
          all_goals
            go_wp2_with fail
            refine (rrange_any a ha true P2.out _).mono ?_
            rintro e w3 ⟨rfl, hb3⟩
            have HB3 := hide (HB1.out.trans (hb3.mono HB1.out.size))
            clear hb3
            go_wp2_with fail
            go_loopw [7] (fun i wr => ∃ k : Nat, k ≤ h ∧ i = .int .i64 k ∧ Below w.heap.size w wr ∧ Hid (awG true x m b o (h - k) k = q)) (fun i _ => h - (intOf i).toNat)
            case atStart => exact ⟨0, Nat.zero_le _, rfl, HB3.out, HM⟩
            case round =>
              obtain ⟨k, hk, rfl, hbr, H⟩ := hrel
              have HBR := hide hbr
              by_cases hlt : k < h
              · obtain ⟨cx, hcx, ixx⟩ := IX.out k hlt
                obtain ⟨cb, hcb, ixb⟩ := IB.out k hlt
                obtain ⟨cm, hcm, ixm⟩ := IM.out k hlt
                obtain ⟨co, hco, ixo⟩ := IO.out k hlt
                have hk0 : (0 : Int) ≤ (k : Int) := by omega
                have hki : (k : Int) < (h : Int) := by omega
                obtain ⟨p, hp⟩ : ∃ p, msk1 cx cm cb = p := ⟨_, rfl⟩
                obtain ⟨p5, hp5⟩ : ∃ p, msk1 co cm cm = p := ⟨_, rfl⟩
                have t5 := (msk1_eq cx cm cb).trans (by rw [hp])
                have t6 := (msk1_eq co cm cm).trans (by rw [hp5])
                have HX := hide (show ((p && p5) && awG true x m b o (h - (k + 1)) (k + 1)) = q by
                  rw [← H.out, show h - k = (h - (k + 1)) + 1 by omega, awG, hcx, hcb, hcm, hco, hp, hp5]; simp)
                clear hbr hp hp5 hcx hcb hcm hco
                cases p
                · have HY := hide (show false = q from HX.out)
                  go_wp2_with fail
                  go_quiet (fail)
                  go_wp2_with fail
                  go_ret
                  exact ⟨ret_bool HY.out, below_drewN HBR.out _⟩
                · cases p5
                  · have HY := hide (show false = q from HX.out)
                    go_wp2_with fail
                    go_quiet (fail)
                    go_wp2_with fail
                    go_ret
                    exact ⟨ret_bool HY.out, below_drewN HBR.out _⟩
                  · have HY := hide (show awG true x m b o (h - (k + 1)) (k + 1) = q from HX.out)
                    go_wp2_with fail
                    go_quiet (fail)
                    go_wp2_with fail
                    go_roundw
                    case rel => exact ⟨k + 1, by omega, by go_num, below_drewN HBR.out _, HY⟩
                    case measure => simp [intOf]; omega
              · have HY := hide (show true = q by rw [← H.out, show h - k = 0 by omega, awG])
                clear hbr
                go_wp2_with fail
                go_ret
                exact ⟨ret_bool HY.out, HBR.out⟩
      · have t2 : ((a.size : Int) != (r.size : Int)) = true := by rw [bne_iff_ne]; omega
        have HN := hide (show false = q by rw [← HQ0.out, show (a.size == r.size) = false by rw [beq_eq_false_iff_ne]; exact hl, hwf]; rfl)
        by_cases hah : a.size = h
        · have hp3 : p3 = false := by
            cases p3
            · rfl
            · exact absurd ⟨rfl, hah⟩ hw
          subst hp3
          clear hsa hsr hr32 hh hh2 hw hwf hl hah
          go_enter Tryz.func70, Tryz.ntmps70
          go_wp2_with fail
          refine (rrange_any r hr true P1.out _).mono ?_
          rintro e w1 ⟨rfl, hb1⟩
          have HB1 := hide hb1
          clear hb1
          go_wp2_with fail
          refine (raddr_any a false P3.out _).mono ?_
          rintro e w2 ⟨rfl, rfl⟩
          go_wp2_with fail
          refine (rrange_any a ha p2 P2.out _).mono ?_
          rintro e w3 ⟨rfl, hb3⟩
          cases p2
          all_goals
            go_wp2_with fail
            go_ret
            exact ⟨ret_bool HN.out, HB1.out.trans (hb3.mono HB1.out.size)⟩
        · have t1 : ((a.size : Int) == (h : Int)) = false := by rw [beq_eq_false_iff_ne]; omega
          have t1' : ¬ a.size = h := hah
          clear hsa hsr hr32 hh hh2 hw hwf hl hah
          go_enter Tryz.func70, Tryz.ntmps70
          go_wp2_with fail
          refine (rrange_any r hr true P1.out _).mono ?_
          rintro e w1 ⟨rfl, hb1⟩
          have HB1 := hide hb1
          clear hb1
          go_wp2_with fail
          refine (raddr_any a p3 P3.out _).mono ?_
          rintro e w2 ⟨rfl, rfl⟩
          cases p3
          all_goals
            go_wp2_with fail
            refine (rrange_any a ha p2 P2.out _).mono ?_
            rintro e w3 ⟨rfl, hb3⟩
            cases p2
            all_goals
              go_wp2_with fail
              go_ret
              exact ⟨ret_bool HN.out, HB1.out.trans (hb3.mono HB1.out.size)⟩
end Go.Proofs.YtodapmkdmkhhfaaGreatDoor
