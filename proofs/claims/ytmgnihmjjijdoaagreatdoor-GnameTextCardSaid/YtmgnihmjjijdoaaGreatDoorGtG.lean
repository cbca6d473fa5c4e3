/- General names as text: the reference's ParseGeneral. -/
import Derived.Test.YtmgnihmjjijdoaaGreatDoorGtD
import Derived.Test.YtmgnihmjjijdoaaGreatDoorGtE
import Derived.Test.YtmgnihmjjijdoaaGreatDoorNamJ
import Derived.Test.YtmgnihmjjijdoaaGreatDoorGRefD
namespace Go.Proofs.YtmgnihmjjijdoaaGreatDoor
open Go.RowKit

theorem col_form : ∀ s : List UInt8, (∀ x ∈ s, x ≠ (58 : UInt8)) ∨ ∃ l r : List UInt8, s = l ++ 58 :: r ∧ ∀ x ∈ l, x ≠ (58 : UInt8)
  | [] => .inl (fun x hx => by cases hx)
  | b :: s => by
    by_cases hb : b = 58
    · exact .inr ⟨[], s, by rw [hb]; rfl, fun x hx => by cases hx⟩
    · rcases col_form s with h | ⟨l, r, h, h2⟩
      · exact .inl (fun x hx => by
          rcases List.mem_cons.1 hx with rfl | hx
          · exact hb
          · exact h x hx)
      · exact .inr ⟨b :: l, r, by rw [h]; rfl, fun x hx => by
          rcases List.mem_cons.1 hx with rfl | hx
          · exact hb
          · exact h2 x hx⟩
theorem cutG_mail (b : List UInt8) : cutG hMail b = finT 1 (unesc b) := rfl
theorem cutG_dns (b : List UInt8) : cutG hDns b = finT 2 (unesc b) := rfl
theorem cutG_ip (b : List UInt8) : cutG hIp b = finT 7 (unhexL b) := rfl
theorem cutG_dir (b : List UInt8) : cutG hDir b = finD (parseP b) := rfl
theorem cutG_no {a b : List UInt8} (h1 : a ≠ hMail) (h2 : a ≠ hDns) (h3 : a ≠ hIp) (h4 : a ≠ hDir) : cutG a b = (32, zeroG) := by
  rw [cutG, if_neg h1, if_neg h2, if_neg h3, if_neg h4]


set_option maxRecDepth 100000 in
set_option maxHeartbeats 16000000 in
theorem rParseG_any (s : ByteArray) (hs : s.size ≤ 100000) (w : World) (hmx : Mx w) : Calls Tryz.prog 12 #[.string s] w (DecGPost w (parseG s.data.toList)) := by
  have HMX := hide hmx
  have hss := size_string s
  obtain ⟨W1, hW1⟩ : ∃ W, W = w.alloc (.cells #[.int .i64 0, .string ⟨#[]⟩, .slice none 0 0] 26) := ⟨_, rfl⟩
  obtain ⟨W2, hW2⟩ : ∃ W, W = W1.alloc (.cells #[.int .i64 0, .string ⟨#[]⟩, .slice none 0 0] 26) := ⟨_, rfl⟩
  have hz1 : W1.heap.size = w.heap.size + 1 := by rw [hW1]; simp
  have b1 : Below w.heap.size w W1 := by rw [hW1]; exact (Below.refl _ _).alloc (Nat.le_refl _) _
  have b2 : Below W1.heap.size W1 W2 := by rw [hW2]; exact (Below.refl _ _).alloc (Nat.le_refl _) _
  have v1 : GB w.heap.size 0 ⟨#[]⟩ (.slice none 0 0) W1 := by rw [hW1]; exact heap_alloc_new w _
  have v2 : GB (w.heap.size + 1) 0 ⟨#[]⟩ (.slice none 0 0) W2 := by rw [hW2, ← hz1]; exact heap_alloc_new W1 _
  obtain ⟨gR, hgR⟩ : ∃ g, w.heap.size = g := ⟨_, rfl⟩
  obtain ⟨gN, hgN⟩ : ∃ g, gR + 1 = g := ⟨_, rfl⟩
  have hgRw : w.heap.size ≤ gR := by omega
  have hRN : gR < gN := by omega
  have HB0 := hide (b1.trans (b2.mono b1.size))
  have v1' := v1.below b2
  rw [hgR] at v1' v2
  rw [hgN] at v2
  have HR0 := hide v1'
  have HN0 := hide v2
  have HW := hide (show W2 = (w.alloc (.cells #[.int .i64 0, .string ⟨#[]⟩, .slice none 0 0] 26)).alloc (.cells #[.int .i64 0, .string ⟨#[]⟩, .slice none 0 0] 26) by rw [hW2, hW1])
  have HGG := hide (And.intro hgR hgN)
  clear hmx hW1 hW2 hz1 b1 b2 v1 v2 v1' hgR hgN
  rcases col_form s.data.toList with hno | ⟨l, r, hlr, hl⟩
  · have HZ := hide (parse_none hno)
    obtain ⟨ls, hls⟩ : ∃ ls, s.data.toList = ls := ⟨_, rfl⟩
    have HLS := hide hls
    have hsl : ls.length = s.size := by rw [← hls]; exact hss
    rw [hls] at hno
    have HNO := hide hno
    clear hss hno hls
    go_enter Tryz.func12, Tryz.ntmps12
    go_upto_region 2 with fail
    rw [← HW.out]
    try rw [HGG.out.1]
    try rw [HGG.out.2]
    go_wp2_with fail
    go_loopw [5] (fun i wi => ∃ j : Nat, j ≤ s.size ∧ i = .int .i64 j ∧ W2 = wi) (fun i _ => s.size - (intOf i).toNat)
    case atStart => exact ⟨0, Nat.zero_le _, rfl, rfl⟩
    case round =>
      obtain ⟨j, hj, rfl, rfl⟩ := hrel
      by_cases hjl : j < s.size
      · have hjl' : (j : Int) < (s.size : Int) := by omega
        have hix := str_at HLS.out j (by omega) 9 Tryz.underlying9 (j : Int) rfl
        obtain ⟨b, hb⟩ : ∃ b, ls[j] = b := ⟨_, rfl⟩
        have hb58 : b ≠ 58 := by rw [← hb]; exact HNO.out _ (List.getElem_mem _)
        rw [hb] at hix
        have t1 : ((b.toNat : Int) != 58) = true := by
          rw [bne, show ((b.toNat : Int) == 58) = (b == 58) from byte_beq b 58, beq_eq_false_iff_ne.2 hb58]; rfl
        clear hb hb58
        go_wp2_with fail
        go_roundw
        case rel => exact ⟨j + 1, by omega, by go_num, trivial⟩
        case measure => simp [intOf]; omega
      · obtain rfl : j = s.size := by omega
        obtain ⟨n0, n1, n2, -, -, -⟩ := HN0.out.facts
        obtain ⟨r0, r1, r2, rf0, rf1, rf2⟩ := HR0.out.facts
        go_wp2_with fail
        obtain ⟨W9, hW9, hgb9, hb9⟩ := HR0.out.fin0 HB0.out hgRw
        obtain ⟨q0, q1, q2, -⟩ := hgb9.facts
        try rw [← hW9]
        exact bodyPost_ret (v := .tuple #[.agg #[.int .i64 0, .string ⟨#[]⟩, .slice none 0 0], .int .i64 32]) (by simp [results, Tryz.results12, go_sem, q0, q1, q2]) rfl (GpPost.zero HZ.out rfl hb9)
  · have hsz : s.size = l.length + 1 + r.length := by rw [← hss, hlr]; simp; omega
    obtain ⟨x, hx⟩ : ∃ x : ByteArray, x = s.extract 0 l.length := ⟨_, rfl⟩
    obtain ⟨y, hy⟩ : ∃ y : ByteArray, y = s.extract (l.length + 1) s.size := ⟨_, rfl⟩
    have hxl : x.data.toList = l := by rw [hx, Lib.extract_data, hlr]; simp
    have hyl : y.data.toList = r := by
      rw [hy, Lib.extract_data, List.take_of_length_le (by rw [List.length_drop, hss]; omega), hlr, show l ++ 58 :: r = (l ++ [58]) ++ r by simp, show l.length + 1 = (l ++ [(58 : UInt8)]).length by simp, List.drop_left' rfl]
    have hys : y.size ≤ 100000 := by rw [← size_string, hyl]; omega
    have HS1 : ∀ W : World, (Instr.slice 9 (.string s) none (some (.int .i64 (l.length : Int))) none).run Tryz.prog W = .ok (.string x) W := fun W => by
      have h9 := run_slice_string_h (P := Tryz.prog) W 9 s Tryz.underlying9 .i64 (l.length : Int) (by omega) (by omega)
      rw [h9, hx, Int.toNat_natCast]
    have HS2 : ∀ W : World, (Instr.slice 9 (.string s) (some (.int .i64 ((l.length : Int) + 1))) none none).run Tryz.prog W = .ok (.string y) W := fun W => by
      have h9 := run_slice_string_l (P := Tryz.prog) W 9 s Tryz.underlying9 .i64 ((l.length : Int) + 1) (by omega) (by omega)
      rw [h9, hy, show ((l.length : Int) + 1).toNat = l.length + 1 by omega]
    have hsl : l.length + 1 ≤ s.size := by omega
    obtain ⟨o, ho⟩ : ∃ o, parseG s.data.toList = o := ⟨_, rfl⟩
    have HO0 := hide (show cutG l y.data.toList = o by rw [← ho, hlr, hyl, parse_cut hl])
    have HL := hide hl
    have HAT := hide (fun (i : Nat) (hi : i < l.length) (I : Int) (hI : I = i) => (show ∀ W : World, (Instr.index 9 (.string s) (.int .i64 I)).run Tryz.prog W = .ok (.int .u8 (l[i].toNat : Int)) W by
      have h := str_at hlr i (by simp; omega) 9 Tryz.underlying9 I hI
      rw [List.getElem_append_left hi] at h
      exact h))
    have h58 : ∀ W : World, (Instr.index 9 (.string s) (.int .i64 (l.length : Int))).run Tryz.prog W = .ok (.int .u8 58) W := by
      have h := str_at hlr l.length (by simp) 9 Tryz.underlying9 (l.length : Int) rfl
      rw [List.getElem_append_right (Nat.le_refl _)] at h
      simpa using h
    have H58 := hide h58
    have HXL := hide hxl
    rw [ho]
    clear ho hlr hl hx hy hyl h58 hss hsz hxl
    go_enter Tryz.func12, Tryz.ntmps12
    go_upto_region 2 with fail
    rw [← HW.out]
    try rw [HGG.out.1]
    try rw [HGG.out.2]
    go_wp2_with fail
    go_loopw [5] (fun i wi => ∃ j : Nat, j ≤ l.length ∧ i = .int .i64 j ∧ W2 = wi) (fun i _ => l.length - (intOf i).toNat)
    case atStart => exact ⟨0, Nat.zero_le _, rfl, rfl⟩
    case round =>
      obtain ⟨j, hj, rfl, rfl⟩ := hrel
      have hjs : (j : Int) < (s.size : Int) := by omega
      by_cases hjl : j < l.length
      · have hix := HAT.out j hjl (j : Int) rfl
        obtain ⟨b, hb⟩ : ∃ b, l[j] = b := ⟨_, rfl⟩
        have hb58 : b ≠ 58 := by rw [← hb]; exact HL.out _ (List.getElem_mem _)
        rw [hb] at hix
        have t1 : ((b.toNat : Int) != 58) = true := by
          rw [bne, show ((b.toNat : Int) == 58) = (b == 58) from byte_beq b 58, beq_eq_false_iff_ne.2 hb58]; rfl
        clear hb hb58
        go_wp2_with fail
        go_roundw
        case rel => exact ⟨j + 1, by omega, by go_num, trivial⟩
        case measure => simp [intOf]; omega
      · obtain rfl : j = l.length := by omega
        have i58 := H58.out
        have m3 : ((l.length : Int) == (s.size : Int)) = false := by rw [beq_eq_false_iff_ne]; omega
        have m4 : decide (l.length = s.size) = false := by rw [decide_eq_false_iff_not]; omega
        obtain ⟨w4, hw4⟩ : ∃ W, W = W2.alloc (.cells #[.int .i64 0, .string ⟨#[]⟩, .slice none 0 0] 26) := ⟨_, rfl⟩
        have hb24 : Below W2.heap.size W2 w4 := by rw [hw4]; exact (Below.refl _ _).alloc (Nat.le_refl _) _
        have hg4 : GB W2.heap.size 0 ⟨#[]⟩ (.slice none 0 0) w4 := by rw [hw4]; exact heap_alloc_new W2 _
        have hNG' : gN < W2.heap.size := HN0.out.lt
        obtain ⟨gG, hgG⟩ : ∃ g, W2.heap.size = g := ⟨_, rfl⟩
        rw [hgG] at hg4 hNG'
        have hNG : gN ≠ gG := by omega
        have HD := hide (show DSt w gR gG 0 ⟨#[]⟩ (.slice none 0 0) w4 from ⟨HB0.out.trans (hb24.mono HB0.out.size), HR0.out.below hb24, hg4, hgRw, by omega⟩)
        have HN4 := hide (HN0.out.below hb24)
        clear hb24 hg4 hNG'
        go_upto_region 8 with fail
        rw [← hw4]
        try rw [hgG]
        clear hw4 hgG i58 m3 m4
        have hxl := HXL.out
        by_cases c1 : l = hMail
        · have t1 : (x.toList == [109, 97, 105, 108]) = true := by rw [ByteArray.toList_eq, hxl, c1]; rfl
          have t2 : x.toList = [109, 97, 105, 108] := by rw [ByteArray.toList_eq, hxl, c1]; rfl
          have HO := hide (show finT 1 (unesc y.data.toList) = o by rw [← HO0.out, c1]; rfl)
          clear c1 hxl
          obtain ⟨g0, g1, g2, gf0, gf1, gf2⟩ := HD.out.g.facts
          obtain ⟨w5, hw5⟩ : ∃ W, W = w4.setCell ⟨gG, 0, none⟩ (.int .i64 1) := ⟨_, rfl⟩
          have HD5 := hide (show DSt w gR gG 1 ⟨#[]⟩ (.slice none 0 0) w5 by rw [hw5]; exact HD.out.set0 1)
          have HN5 := hide (show GB gN 0 ⟨#[]⟩ (.slice none 0 0) w5 by rw [hw5]; exact HN4.out.other hNG)
          go_upto_region 12 with fail
          rw [← hw5]
          clear hw5 g0 g1 g2 gf0 gf1 gf2
          cases hopt : unesc y.data.toList with
          | none =>
            have HCU := hide (show Calls Tryz.prog 41 #[.string y] w5 fun e w' => e = .returned (.tuple #[.string ⟨#[]⟩, .bool false]) ∧ Below w5.heap.size w5 w' by
              have := runesc_v y (by omega) w5
              rw [hopt] at this
              exact this)
            have HZ := hide (show o = (32, zeroG) by rw [← HO.out, hopt]; rfl)
            clear hopt
            go_wp2_with fail
            refine HCU.out.mono ?_
            rintro e w6 ⟨rfl, hb6⟩
            have HD6 := hide (HD5.out.grow hb6)
            have HN6 := HN5.out.below hb6
            obtain ⟨g0, g1, g2, gf0, gf1, gf2⟩ := HD6.out.g.facts
            obtain ⟨w7, hw7⟩ : ∃ W, W = w6.setCell ⟨gG, 1, none⟩ (.string ⟨#[]⟩) := ⟨_, rfl⟩
            have HDz := hide (show DSt w gR gG 1 ⟨#[]⟩ (.slice none 0 0) w7 by rw [hw7]; exact HD6.out.set1 ⟨#[]⟩)
            have HNz := hide (show GB gN 0 ⟨#[]⟩ (.slice none 0 0) w7 by rw [hw7]; exact HN6.other hNG)
            clear hb6 HN6
            go_upto_region 24 with fail
            rw [← hw7]
            clear hw7 g0 g1 g2 gf0 gf1 gf2
            obtain ⟨n0, n1, n2, -, -, -⟩ := HNz.out.facts
            obtain ⟨r0, r1, r2, rf0, rf1, rf2⟩ := HDz.out.r.facts
            go_wp2_with fail
            obtain ⟨W9, hW9, hgb9, hb9⟩ := HDz.out.fin0
            obtain ⟨q0, q1, q2, -⟩ := hgb9.facts
            try rw [← hW9]
            exact bodyPost_ret (v := .tuple #[.agg #[.int .i64 0, .string ⟨#[]⟩, .slice none 0 0], .int .i64 32]) (by simp [results, Tryz.results12, go_sem, q0, q1, q2]) rfl (GpPost.zero HZ.out rfl hb9)
          | some u =>
            obtain ⟨ts, hts⟩ : ∃ x : ByteArray, x = ⟨u.toArray⟩ := ⟨_, rfl⟩
            have htl : u = ts.data.toList := by rw [hts]
            have HCU := hide (show Calls Tryz.prog 41 #[.string y] w5 fun e w' => e = .returned (.tuple #[.string ts, .bool true]) ∧ Below w5.heap.size w5 w' by
              have := runesc_v y (by omega) w5
              rw [hopt] at this
              rw [hts]
              exact this)
            have htss : ts.size ≤ 1000000 := by
              have h9 := unesc_len hopt
              rw [size_string] at h9
              rw [hts, ba_mk]
              omega
            have HO2 := hide (show finT 1 (some ts.data.toList) = o by rw [← htl, ← hopt]; exact HO.out)
            clear hopt hts htl
            go_wp2_with fail
            refine HCU.out.mono ?_
            rintro e w6 ⟨rfl, hb6⟩
            have HD6 := hide (HD5.out.grow hb6)
            have HN6 := HN5.out.below hb6
            obtain ⟨g0, g1, g2, gf0, gf1, gf2⟩ := HD6.out.g.facts
            obtain ⟨w7, hw7⟩ : ∃ W, W = w6.setCell ⟨gG, 1, none⟩ (.string ts) := ⟨_, rfl⟩
            have HD7 := hide (show DSt w gR gG 1 ts (.slice none 0 0) w7 by rw [hw7]; exact HD6.out.set1 ts)
            have HN7 := hide (show GB gN 0 ⟨#[]⟩ (.slice none 0 0) w7 by rw [hw7]; exact HN6.other hNG)
            obtain ⟨q, hq⟩ : ∃ q, chkG (1, ts.data.toList, []) false = q := ⟨_, rfl⟩
            obtain ⟨p, hp⟩ : ∃ q, chkG (1, ts.data.toList, []) true = q := ⟨_, rfl⟩
            have HCK := hide (rCheckG_any 1 ts [] false none 0 htss nil_small q hq w7 (HMX.out.below HD7.out.below) (Sl.nil _ _ _ _))
            have HQ := hide hq
            have HPP := hide hp
            clear hb6 hq hp HN6
            go_upto_region 24 with fail
            rw [← hw7]
            clear hw7 g0 g1 g2 gf0 gf1 gf2
            obtain ⟨g0, g1, g2, -, -, -⟩ := HD7.out.g.facts
            go_wp2_with fail
            refine HCK.out.mono ?_
            rintro e w8 ⟨rfl, hb8⟩
            have HD8 := hide (HD7.out.grow hb8)
            have HN8 := hide (HN7.out.below hb8)
            have HCK2 := hide (rCheckG_any 1 ts [] true none 0 htss nil_small p HPP.out w8 (HMX.out.below HD8.out.below) (Sl.nil _ _ _ _))
            clear hb8 g0 g1 g2
            by_cases hq0 : q = 0
            · have hqf : (q != 0) = false := by simp [hq0]
              have HOK := hide (show o = (0, (1, ts.data.toList, [])) by rw [← HO2.out, finT_ok (.inl (HQ.out.trans hq0))])
              clear hq0
              obtain ⟨g0, g1, g2, -, -, -⟩ := HD8.out.g.facts
              obtain ⟨r0, r1, r2, rf0, rf1, rf2⟩ := HD8.out.r.facts
              go_wp2_with fail
              obtain ⟨W9, hW9, hgb9, hb9, hsl9⟩ := HD8.out.fin 1 ts [] none 0 (Sl.nil _ _ _ _)
              try simp only [List.length_nil] at hW9 hgb9
              obtain ⟨q0, q1, q2, -⟩ := hgb9.facts
              try rw [← hW9]
              exact bodyPost_ret (v := .tuple #[.agg #[.int .i64 1, .string ts, .slice none 0 0], .int .i64 0]) (by simp [results, Tryz.results12, go_sem, q0, q1, q2]) rfl (GpPost.text HOK.out rfl hb9 htss)
            · have hqt : (q != 0) = true := by simp [hq0]
              have HQ0 := hide hq0
              clear hq0
              obtain ⟨g0, g1, g2, -, -, -⟩ := HD8.out.g.facts
              go_wp2_with fail
              refine HCK2.out.mono ?_
              rintro e w9 ⟨rfl, hb9⟩
              have HD9 := hide (HD8.out.grow hb9)
              have HNz := hide (HN8.out.below hb9)
              clear hb9 g0 g1 g2
              by_cases hp0 : p = 0
              · have hpf : (p != 0) = false := by simp [hp0]
                have HOK := hide (show o = (0, (1, ts.data.toList, [])) by rw [← HO2.out, finT_ok (.inr (HPP.out.trans hp0))])
                clear hp0
                obtain ⟨g0, g1, g2, -, -, -⟩ := HD9.out.g.facts
                obtain ⟨r0, r1, r2, rf0, rf1, rf2⟩ := HD9.out.r.facts
                go_wp2_with fail
                obtain ⟨W9, hW9, hgb9, hb9, hsl9⟩ := HD9.out.fin 1 ts [] none 0 (Sl.nil _ _ _ _)
                try simp only [List.length_nil] at hW9 hgb9
                obtain ⟨q0, q1, q2, -⟩ := hgb9.facts
                try rw [← hW9]
                exact bodyPost_ret (v := .tuple #[.agg #[.int .i64 1, .string ts, .slice none 0 0], .int .i64 0]) (by simp [results, Tryz.results12, go_sem, q0, q1, q2]) rfl (GpPost.text HOK.out rfl hb9 htss)
              · have hpt : (p != 0) = true := by simp [hp0]
                have HZ := hide (show o = (q, zeroG) by rw [← HO2.out, finT_bad (by rw [HQ.out]; exact HQ0.out) (by rw [HPP.out]; exact hp0), HQ.out])
                clear hp0
                have HDz := HD9
                obtain ⟨n0, n1, n2, -, -, -⟩ := HNz.out.facts
                obtain ⟨r0, r1, r2, rf0, rf1, rf2⟩ := HDz.out.r.facts
                go_wp2_with fail
                obtain ⟨W9, hW9, hgb9, hb9⟩ := HDz.out.fin0
                obtain ⟨q0, q1, q2, -⟩ := hgb9.facts
                try rw [← hW9]
                exact bodyPost_ret (v := .tuple #[.agg #[.int .i64 0, .string ⟨#[]⟩, .slice none 0 0], .int .i64 q]) (by simp [results, Tryz.results12, go_sem, q0, q1, q2]) rfl (GpPost.zero HZ.out rfl hb9)
        · have t1 : (x.toList == [109, 97, 105, 108]) = false := by rw [ByteArray.toList_eq, hxl]; exact beq_eq_false_iff_ne.2 c1
          have t1' : ¬ x.toList = [109, 97, 105, 108] := by rw [ByteArray.toList_eq, hxl]; exact c1
          by_cases c2 : l = hDns
          · have t2 : (x.toList == [100, 110, 115]) = true := by rw [ByteArray.toList_eq, hxl, c2]; rfl
            have t2' : x.toList = [100, 110, 115] := by rw [ByteArray.toList_eq, hxl, c2]; rfl
            have HO := hide (show finT 2 (unesc y.data.toList) = o by rw [← HO0.out, c2]; rfl)
            clear c1 c2 hxl
            obtain ⟨g0, g1, g2, gf0, gf1, gf2⟩ := HD.out.g.facts
            obtain ⟨w5, hw5⟩ : ∃ W, W = w4.setCell ⟨gG, 0, none⟩ (.int .i64 2) := ⟨_, rfl⟩
            have HD5 := hide (show DSt w gR gG 2 ⟨#[]⟩ (.slice none 0 0) w5 by rw [hw5]; exact HD.out.set0 2)
            have HN5 := hide (show GB gN 0 ⟨#[]⟩ (.slice none 0 0) w5 by rw [hw5]; exact HN4.out.other hNG)
            go_upto_region 15 with fail
            rw [← hw5]
            clear hw5 g0 g1 g2 gf0 gf1 gf2
            cases hopt : unesc y.data.toList with
            | none =>
              have HCU := hide (show Calls Tryz.prog 41 #[.string y] w5 fun e w' => e = .returned (.tuple #[.string ⟨#[]⟩, .bool false]) ∧ Below w5.heap.size w5 w' by
                have := runesc_v y (by omega) w5
                rw [hopt] at this
                exact this)
              have HZ := hide (show o = (32, zeroG) by rw [← HO.out, hopt]; rfl)
              clear hopt
              go_wp2_with fail
              refine HCU.out.mono ?_
              rintro e w6 ⟨rfl, hb6⟩
              have HD6 := hide (HD5.out.grow hb6)
              have HN6 := HN5.out.below hb6
              obtain ⟨g0, g1, g2, gf0, gf1, gf2⟩ := HD6.out.g.facts
              obtain ⟨w7, hw7⟩ : ∃ W, W = w6.setCell ⟨gG, 1, none⟩ (.string ⟨#[]⟩) := ⟨_, rfl⟩
              have HDz := hide (show DSt w gR gG 2 ⟨#[]⟩ (.slice none 0 0) w7 by rw [hw7]; exact HD6.out.set1 ⟨#[]⟩)
              have HNz := hide (show GB gN 0 ⟨#[]⟩ (.slice none 0 0) w7 by rw [hw7]; exact HN6.other hNG)
              clear hb6 HN6
              go_upto_region 24 with fail
              rw [← hw7]
              clear hw7 g0 g1 g2 gf0 gf1 gf2
              obtain ⟨n0, n1, n2, -, -, -⟩ := HNz.out.facts
              obtain ⟨r0, r1, r2, rf0, rf1, rf2⟩ := HDz.out.r.facts
              go_wp2_with fail
              obtain ⟨W9, hW9, hgb9, hb9⟩ := HDz.out.fin0
              obtain ⟨q0, q1, q2, -⟩ := hgb9.facts
              try rw [← hW9]
              exact bodyPost_ret (v := .tuple #[.agg #[.int .i64 0, .string ⟨#[]⟩, .slice none 0 0], .int .i64 32]) (by simp [results, Tryz.results12, go_sem, q0, q1, q2]) rfl (GpPost.zero HZ.out rfl hb9)
            | some u =>
              obtain ⟨ts, hts⟩ : ∃ x : ByteArray, x = ⟨u.toArray⟩ := ⟨_, rfl⟩
              have htl : u = ts.data.toList := by rw [hts]
              have HCU := hide (show Calls Tryz.prog 41 #[.string y] w5 fun e w' => e = .returned (.tuple #[.string ts, .bool true]) ∧ Below w5.heap.size w5 w' by
                have := runesc_v y (by omega) w5
                rw [hopt] at this
                rw [hts]
                exact this)
              have htss : ts.size ≤ 1000000 := by
                have h9 := unesc_len hopt
                rw [size_string] at h9
                rw [hts, ba_mk]
                omega
              have HO2 := hide (show finT 2 (some ts.data.toList) = o by rw [← htl, ← hopt]; exact HO.out)
              clear hopt hts htl
              go_wp2_with fail
              refine HCU.out.mono ?_
              rintro e w6 ⟨rfl, hb6⟩
              have HD6 := hide (HD5.out.grow hb6)
              have HN6 := HN5.out.below hb6
              obtain ⟨g0, g1, g2, gf0, gf1, gf2⟩ := HD6.out.g.facts
              obtain ⟨w7, hw7⟩ : ∃ W, W = w6.setCell ⟨gG, 1, none⟩ (.string ts) := ⟨_, rfl⟩
              have HD7 := hide (show DSt w gR gG 2 ts (.slice none 0 0) w7 by rw [hw7]; exact HD6.out.set1 ts)
              have HN7 := hide (show GB gN 0 ⟨#[]⟩ (.slice none 0 0) w7 by rw [hw7]; exact HN6.other hNG)
              obtain ⟨q, hq⟩ : ∃ q, chkG (2, ts.data.toList, []) false = q := ⟨_, rfl⟩
              obtain ⟨p, hp⟩ : ∃ q, chkG (2, ts.data.toList, []) true = q := ⟨_, rfl⟩
              have HCK := hide (rCheckG_any 2 ts [] false none 0 htss nil_small q hq w7 (HMX.out.below HD7.out.below) (Sl.nil _ _ _ _))
              have HQ := hide hq
              have HPP := hide hp
              clear hb6 hq hp HN6
              go_upto_region 24 with fail
              rw [← hw7]
              clear hw7 g0 g1 g2 gf0 gf1 gf2
              obtain ⟨g0, g1, g2, -, -, -⟩ := HD7.out.g.facts
              go_wp2_with fail
              refine HCK.out.mono ?_
              rintro e w8 ⟨rfl, hb8⟩
              have HD8 := hide (HD7.out.grow hb8)
              have HN8 := hide (HN7.out.below hb8)
              have HCK2 := hide (rCheckG_any 2 ts [] true none 0 htss nil_small p HPP.out w8 (HMX.out.below HD8.out.below) (Sl.nil _ _ _ _))
              clear hb8 g0 g1 g2
              by_cases hq0 : q = 0
              · have hqf : (q != 0) = false := by simp [hq0]
                have HOK := hide (show o = (0, (2, ts.data.toList, [])) by rw [← HO2.out, finT_ok (.inl (HQ.out.trans hq0))])
                clear hq0
                obtain ⟨g0, g1, g2, -, -, -⟩ := HD8.out.g.facts
                obtain ⟨r0, r1, r2, rf0, rf1, rf2⟩ := HD8.out.r.facts
                go_wp2_with fail
                obtain ⟨W9, hW9, hgb9, hb9, hsl9⟩ := HD8.out.fin 2 ts [] none 0 (Sl.nil _ _ _ _)
                try simp only [List.length_nil] at hW9 hgb9
                obtain ⟨q0, q1, q2, -⟩ := hgb9.facts
                try rw [← hW9]
                exact bodyPost_ret (v := .tuple #[.agg #[.int .i64 2, .string ts, .slice none 0 0], .int .i64 0]) (by simp [results, Tryz.results12, go_sem, q0, q1, q2]) rfl (GpPost.text HOK.out rfl hb9 htss)
              · have hqt : (q != 0) = true := by simp [hq0]
                have HQ0 := hide hq0
                clear hq0
                obtain ⟨g0, g1, g2, -, -, -⟩ := HD8.out.g.facts
                go_wp2_with fail
                refine HCK2.out.mono ?_
                rintro e w9 ⟨rfl, hb9⟩
                have HD9 := hide (HD8.out.grow hb9)
                have HNz := hide (HN8.out.below hb9)
                clear hb9 g0 g1 g2
                by_cases hp0 : p = 0
                · have hpf : (p != 0) = false := by simp [hp0]
                  have HOK := hide (show o = (0, (2, ts.data.toList, [])) by rw [← HO2.out, finT_ok (.inr (HPP.out.trans hp0))])
                  clear hp0
                  obtain ⟨g0, g1, g2, -, -, -⟩ := HD9.out.g.facts
                  obtain ⟨r0, r1, r2, rf0, rf1, rf2⟩ := HD9.out.r.facts
                  go_wp2_with fail
                  obtain ⟨W9, hW9, hgb9, hb9, hsl9⟩ := HD9.out.fin 2 ts [] none 0 (Sl.nil _ _ _ _)
                  try simp only [List.length_nil] at hW9 hgb9
                  obtain ⟨q0, q1, q2, -⟩ := hgb9.facts
                  try rw [← hW9]
                  exact bodyPost_ret (v := .tuple #[.agg #[.int .i64 2, .string ts, .slice none 0 0], .int .i64 0]) (by simp [results, Tryz.results12, go_sem, q0, q1, q2]) rfl (GpPost.text HOK.out rfl hb9 htss)
                · have hpt : (p != 0) = true := by simp [hp0]
                  have HZ := hide (show o = (q, zeroG) by rw [← HO2.out, finT_bad (by rw [HQ.out]; exact HQ0.out) (by rw [HPP.out]; exact hp0), HQ.out])
                  clear hp0
                  have HDz := HD9
                  obtain ⟨n0, n1, n2, -, -, -⟩ := HNz.out.facts
                  obtain ⟨r0, r1, r2, rf0, rf1, rf2⟩ := HDz.out.r.facts
                  go_wp2_with fail
                  obtain ⟨W9, hW9, hgb9, hb9⟩ := HDz.out.fin0
                  obtain ⟨q0, q1, q2, -⟩ := hgb9.facts
                  try rw [← hW9]
                  exact bodyPost_ret (v := .tuple #[.agg #[.int .i64 0, .string ⟨#[]⟩, .slice none 0 0], .int .i64 q]) (by simp [results, Tryz.results12, go_sem, q0, q1, q2]) rfl (GpPost.zero HZ.out rfl hb9)
          · have t2 : (x.toList == [100, 110, 115]) = false := by rw [ByteArray.toList_eq, hxl]; exact beq_eq_false_iff_ne.2 c2
            have t2' : ¬ x.toList = [100, 110, 115] := by rw [ByteArray.toList_eq, hxl]; exact c2
            by_cases c3 : l = hIp
            · have t3 : (x.toList == [105, 112]) = true := by rw [ByteArray.toList_eq, hxl, c3]; rfl
              have t3' : x.toList = [105, 112] := by rw [ByteArray.toList_eq, hxl, c3]; rfl
              have HO := hide (show finT 7 (unhexL y.data.toList) = o by rw [← HO0.out, c3]; rfl)
              clear c1 c2 c3 hxl
              obtain ⟨g0, g1, g2, gf0, gf1, gf2⟩ := HD.out.g.facts
              obtain ⟨w5, hw5⟩ : ∃ W, W = w4.setCell ⟨gG, 0, none⟩ (.int .i64 7) := ⟨_, rfl⟩
              have HD5 := hide (show DSt w gR gG 7 ⟨#[]⟩ (.slice none 0 0) w5 by rw [hw5]; exact HD.out.set0 7)
              have HN5 := hide (show GB gN 0 ⟨#[]⟩ (.slice none 0 0) w5 by rw [hw5]; exact HN4.out.other hNG)
              go_upto_region 18 with fail
              rw [← hw5]
              clear hw5 g0 g1 g2 gf0 gf1 gf2
              cases hopt : unhexL y.data.toList with
              | none =>
                have HCU := hide (show Calls Tryz.prog 42 #[.string y] w5 fun e w' => e = .returned (.tuple #[.string ⟨#[]⟩, .bool false]) ∧ Below w5.heap.size w5 w' by
                  have := Unhex_any y (by omega) w5
                  rw [hopt] at this
                  exact this)
                have HZ := hide (show o = (32, zeroG) by rw [← HO.out, hopt]; rfl)
                clear hopt
                go_wp2_with fail
                refine HCU.out.mono ?_
                rintro e w6 ⟨rfl, hb6⟩
                have HD6 := hide (HD5.out.grow hb6)
                have HN6 := HN5.out.below hb6
                obtain ⟨g0, g1, g2, gf0, gf1, gf2⟩ := HD6.out.g.facts
                obtain ⟨w7, hw7⟩ : ∃ W, W = w6.setCell ⟨gG, 1, none⟩ (.string ⟨#[]⟩) := ⟨_, rfl⟩
                have HDz := hide (show DSt w gR gG 7 ⟨#[]⟩ (.slice none 0 0) w7 by rw [hw7]; exact HD6.out.set1 ⟨#[]⟩)
                have HNz := hide (show GB gN 0 ⟨#[]⟩ (.slice none 0 0) w7 by rw [hw7]; exact HN6.other hNG)
                clear hb6 HN6
                go_upto_region 24 with fail
                rw [← hw7]
                clear hw7 g0 g1 g2 gf0 gf1 gf2
                obtain ⟨n0, n1, n2, -, -, -⟩ := HNz.out.facts
                obtain ⟨r0, r1, r2, rf0, rf1, rf2⟩ := HDz.out.r.facts
                go_wp2_with fail
                obtain ⟨W9, hW9, hgb9, hb9⟩ := HDz.out.fin0
                obtain ⟨q0, q1, q2, -⟩ := hgb9.facts
                try rw [← hW9]
                exact bodyPost_ret (v := .tuple #[.agg #[.int .i64 0, .string ⟨#[]⟩, .slice none 0 0], .int .i64 32]) (by simp [results, Tryz.results12, go_sem, q0, q1, q2]) rfl (GpPost.zero HZ.out rfl hb9)
              | some u =>
                obtain ⟨ts, hts⟩ : ∃ x : ByteArray, x = ⟨u.toArray⟩ := ⟨_, rfl⟩
                have htl : u = ts.data.toList := by rw [hts]
                have HCU := hide (show Calls Tryz.prog 42 #[.string y] w5 fun e w' => e = .returned (.tuple #[.string ts, .bool true]) ∧ Below w5.heap.size w5 w' by
                  have := Unhex_any y (by omega) w5
                  rw [hopt] at this
                  rw [hts]
                  exact this)
                have htss : ts.size ≤ 1000000 := by
                  have h9 := unhexL_len hopt
                  rw [size_string] at h9
                  rw [hts, ba_mk]
                  omega
                have HO2 := hide (show finT 7 (some ts.data.toList) = o by rw [← htl, ← hopt]; exact HO.out)
                clear hopt hts htl
                go_wp2_with fail
                refine HCU.out.mono ?_
                rintro e w6 ⟨rfl, hb6⟩
                have HD6 := hide (HD5.out.grow hb6)
                have HN6 := HN5.out.below hb6
                obtain ⟨g0, g1, g2, gf0, gf1, gf2⟩ := HD6.out.g.facts
                obtain ⟨w7, hw7⟩ : ∃ W, W = w6.setCell ⟨gG, 1, none⟩ (.string ts) := ⟨_, rfl⟩
                have HD7 := hide (show DSt w gR gG 7 ts (.slice none 0 0) w7 by rw [hw7]; exact HD6.out.set1 ts)
                have HN7 := hide (show GB gN 0 ⟨#[]⟩ (.slice none 0 0) w7 by rw [hw7]; exact HN6.other hNG)
                obtain ⟨q, hq⟩ : ∃ q, chkG (7, ts.data.toList, []) false = q := ⟨_, rfl⟩
                obtain ⟨p, hp⟩ : ∃ q, chkG (7, ts.data.toList, []) true = q := ⟨_, rfl⟩
                have HCK := hide (rCheckG_any 7 ts [] false none 0 htss nil_small q hq w7 (HMX.out.below HD7.out.below) (Sl.nil _ _ _ _))
                have HQ := hide hq
                have HPP := hide hp
                clear hb6 hq hp HN6
                go_upto_region 24 with fail
                rw [← hw7]
                clear hw7 g0 g1 g2 gf0 gf1 gf2
                obtain ⟨g0, g1, g2, -, -, -⟩ := HD7.out.g.facts
                go_wp2_with fail
                refine HCK.out.mono ?_
                rintro e w8 ⟨rfl, hb8⟩
                have HD8 := hide (HD7.out.grow hb8)
                have HN8 := hide (HN7.out.below hb8)
                have HCK2 := hide (rCheckG_any 7 ts [] true none 0 htss nil_small p HPP.out w8 (HMX.out.below HD8.out.below) (Sl.nil _ _ _ _))
                clear hb8 g0 g1 g2
                by_cases hq0 : q = 0
                · have hqf : (q != 0) = false := by simp [hq0]
                  have HOK := hide (show o = (0, (7, ts.data.toList, [])) by rw [← HO2.out, finT_ok (.inl (HQ.out.trans hq0))])
                  clear hq0
                  obtain ⟨g0, g1, g2, -, -, -⟩ := HD8.out.g.facts
                  obtain ⟨r0, r1, r2, rf0, rf1, rf2⟩ := HD8.out.r.facts
                  go_wp2_with fail
                  obtain ⟨W9, hW9, hgb9, hb9, hsl9⟩ := HD8.out.fin 7 ts [] none 0 (Sl.nil _ _ _ _)
                  try simp only [List.length_nil] at hW9 hgb9
                  obtain ⟨q0, q1, q2, -⟩ := hgb9.facts
                  try rw [← hW9]
                  exact bodyPost_ret (v := .tuple #[.agg #[.int .i64 7, .string ts, .slice none 0 0], .int .i64 0]) (by simp [results, Tryz.results12, go_sem, q0, q1, q2]) rfl (GpPost.text HOK.out rfl hb9 htss)
                · have hqt : (q != 0) = true := by simp [hq0]
                  have HQ0 := hide hq0
                  clear hq0
                  obtain ⟨g0, g1, g2, -, -, -⟩ := HD8.out.g.facts
                  go_wp2_with fail
                  refine HCK2.out.mono ?_
                  rintro e w9 ⟨rfl, hb9⟩
                  have HD9 := hide (HD8.out.grow hb9)
                  have HNz := hide (HN8.out.below hb9)
                  clear hb9 g0 g1 g2
                  by_cases hp0 : p = 0
                  · have hpf : (p != 0) = false := by simp [hp0]
                    have HOK := hide (show o = (0, (7, ts.data.toList, [])) by rw [← HO2.out, finT_ok (.inr (HPP.out.trans hp0))])
                    clear hp0
                    obtain ⟨g0, g1, g2, -, -, -⟩ := HD9.out.g.facts
                    obtain ⟨r0, r1, r2, rf0, rf1, rf2⟩ := HD9.out.r.facts
                    go_wp2_with fail
                    obtain ⟨W9, hW9, hgb9, hb9, hsl9⟩ := HD9.out.fin 7 ts [] none 0 (Sl.nil _ _ _ _)
                    try simp only [List.length_nil] at hW9 hgb9
                    obtain ⟨q0, q1, q2, -⟩ := hgb9.facts
                    try rw [← hW9]
                    exact bodyPost_ret (v := .tuple #[.agg #[.int .i64 7, .string ts, .slice none 0 0], .int .i64 0]) (by simp [results, Tryz.results12, go_sem, q0, q1, q2]) rfl (GpPost.text HOK.out rfl hb9 htss)
                  · have hpt : (p != 0) = true := by simp [hp0]
                    have HZ := hide (show o = (q, zeroG) by rw [← HO2.out, finT_bad (by rw [HQ.out]; exact HQ0.out) (by rw [HPP.out]; exact hp0), HQ.out])
                    clear hp0
                    have HDz := HD9
                    obtain ⟨n0, n1, n2, -, -, -⟩ := HNz.out.facts
                    obtain ⟨r0, r1, r2, rf0, rf1, rf2⟩ := HDz.out.r.facts
                    go_wp2_with fail
                    obtain ⟨W9, hW9, hgb9, hb9⟩ := HDz.out.fin0
                    obtain ⟨q0, q1, q2, -⟩ := hgb9.facts
                    try rw [← hW9]
                    exact bodyPost_ret (v := .tuple #[.agg #[.int .i64 0, .string ⟨#[]⟩, .slice none 0 0], .int .i64 q]) (by simp [results, Tryz.results12, go_sem, q0, q1, q2]) rfl (GpPost.zero HZ.out rfl hb9)
            · have t3 : (x.toList == [105, 112]) = false := by rw [ByteArray.toList_eq, hxl]; exact beq_eq_false_iff_ne.2 c3
              have t3' : ¬ x.toList = [105, 112] := by rw [ByteArray.toList_eq, hxl]; exact c3
              by_cases c4 : l = hDir
              · have t4 : (x.toList == [100, 105, 114]) = true := by rw [ByteArray.toList_eq, hxl, c4]; rfl
                have t4' : x.toList = [100, 105, 114] := by rw [ByteArray.toList_eq, hxl, c4]; rfl
                have HOd := hide (show finD (parseP y.data.toList) = o by rw [← HO0.out, c4]; rfl)
                clear c1 c2 c3 c4 hxl
                obtain ⟨kp, n, hpp⟩ : ∃ k n, parseP y.data.toList = (k, n) := ⟨_, _, rfl⟩
                have HO := hide (show finD (kp, n) = o by rw [← hpp]; exact HOd.out)
                have HPC := hide (show ∀ W, Mx W → Calls Tryz.prog 43 #[.string y] W (ParsePostB W (kp, n)) from fun W h => by
                  have := rParseB_any y hys W h
                  rw [hpp] at this
                  exact this)
                clear hpp
                go_wp2_with fail
                refine (HPC.out w4 (HMX.out.below HD.out.below)).mono ?_
                rintro e w6 ⟨v, rfl, hslv, hb6, hsm⟩
                obtain ⟨A, c, hv⟩ := hslv.shape
                subst hv
                obtain ⟨w7, hw7⟩ : ∃ W, W = w6.alloc (.cells #[.slice A n.length c] 24) := ⟨_, rfl⟩
                have hb67 : Below w6.heap.size w6 w7 := by rw [hw7]; exact (Below.refl _ _).alloc (Nat.le_refl _) _
                have hnb : NB w6.heap.size (.slice A n.length c) w7 := by rw [hw7]; exact heap_alloc_new w6 _
                have HD7 := hide ((HD.out.grow hb6).grow hb67)
                have HNz := hide ((HN4.out.below hb6).below hb67)
                have hGl := HD.out.g.lt
                have hRG := HD.out.hG
                have hsl7 : Sl RRdn 1 w7 (fun j => w.heap.size ≤ j ∧ j < w7.heap.size ∧ j ≠ gR) n [.slice A n.length c] := (Sl.ok RRdn.ok).mono hslv (fun j hj => hb67.block j hj.2) (fun j hj => ⟨by have := hj.1; omega, Nat.lt_of_lt_of_le hj.2 hb67.size, by have := hj.1; omega⟩)
                have HSL7 := hide hsl7
                have HSM := hide hsm
                obtain ⟨g8, hg8⟩ : ∃ g, w6.heap.size = g := ⟨_, rfl⟩
                rw [hg8] at hnb
                have HNB := hide hnb
                clear hb6 hslv hb67 hsl7 hsm hnb hGl hRG
                go_upto_region 21 with fail
                rw [← hw7]
                try rw [hg8]
                clear hw7 hg8
                by_cases hk0 : kp = 0
                · subst hk0
                  have HOK := hide (show o = (0, (4, [], n)) by rw [← HO.out]; rfl)
                  obtain ⟨m0, -⟩ := HNB.out.facts
                  obtain ⟨r0, r1, r2, rf0, rf1, rf2⟩ := HD7.out.r.facts
                  go_wp2_with fail
                  obtain ⟨W9, hW9, hgb9, hb9, hsl9⟩ := HD7.out.fin 4 ⟨#[]⟩ n A c HSL7.out
                  obtain ⟨q0, q1, q2, -⟩ := hgb9.facts
                  try rw [← hW9]
                  refine bodyPost_ret (v := .tuple #[.agg #[.int .i64 4, .string ⟨#[]⟩, .slice A n.length c], .int .i64 0]) (by simp [results, Tryz.results12, go_sem, q0, q1, q2]) rfl ?_
                  rw [HOK.out]
                  exact ⟨⟨#[]⟩, A, c, rfl, rfl, hsl9, hb9, by show ([] : List UInt8).length ≤ 1000000; decide, HSM.out⟩
                · have hkt : (kp != 0) = true := by simp [hk0]
                  have HZ := hide (show o = (kp, zeroG) by rw [← HO.out, finD, if_neg hk0])
                  have HDz := HD7
                  clear hk0
                  obtain ⟨n0, n1, n2, -, -, -⟩ := HNz.out.facts
                  obtain ⟨r0, r1, r2, rf0, rf1, rf2⟩ := HDz.out.r.facts
                  go_wp2_with fail
                  obtain ⟨W9, hW9, hgb9, hb9⟩ := HDz.out.fin0
                  obtain ⟨q0, q1, q2, -⟩ := hgb9.facts
                  try rw [← hW9]
                  exact bodyPost_ret (v := .tuple #[.agg #[.int .i64 0, .string ⟨#[]⟩, .slice none 0 0], .int .i64 kp]) (by simp [results, Tryz.results12, go_sem, q0, q1, q2]) rfl (GpPost.zero HZ.out rfl hb9)
              · have t4 : (x.toList == [100, 105, 114]) = false := by rw [ByteArray.toList_eq, hxl]; exact beq_eq_false_iff_ne.2 c4
                have t4' : ¬ x.toList = [100, 105, 114] := by rw [ByteArray.toList_eq, hxl]; exact c4
                have HZ := hide (show o = (32, zeroG) by rw [← HO0.out, cutG_no c1 c2 c3 c4])
                have HDz := HD
                have HNz := HN4
                clear c1 c2 c3 c4 hxl
                obtain ⟨n0, n1, n2, -, -, -⟩ := HNz.out.facts
                obtain ⟨r0, r1, r2, rf0, rf1, rf2⟩ := HDz.out.r.facts
                go_wp2_with fail
                obtain ⟨W9, hW9, hgb9, hb9⟩ := HDz.out.fin0
                obtain ⟨q0, q1, q2, -⟩ := hgb9.facts
                try rw [← hW9]
                exact bodyPost_ret (v := .tuple #[.agg #[.int .i64 0, .string ⟨#[]⟩, .slice none 0 0], .int .i64 32]) (by simp [results, Tryz.results12, go_sem, q0, q1, q2]) rfl (GpPost.zero HZ.out rfl hb9)
end Go.Proofs.YtmgnihmjjijdoaaGreatDoor
