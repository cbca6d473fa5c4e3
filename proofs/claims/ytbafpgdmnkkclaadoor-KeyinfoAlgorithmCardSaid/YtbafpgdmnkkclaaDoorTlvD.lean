/- Elements: the walk of the reference's Read. -/
import Derived.Test.YtbafpgdmnkkclaaDoorTlvC
namespace Go.Proofs.YtbafpgdmnkkclaaDoor
open Go.RowKit




set_option maxRecDepth 100000 in
set_option maxHeartbeats 8000000 in
theorem rRead_any (s : ByteArray) (hs : s.size ≤ 1000000000) (w : World) :
    Calls Tryd.prog 40 #[.string s] w fun e w' => e = .returned (readR (readF s.data.toList)) ∧ Below w.heap.size w w' := by
  obtain ⟨r, hr⟩ : ∃ r, readF s.data.toList = r := ⟨_, rfl⟩
  rw [hr]
  have HR := hide hr
  clear hr
  obtain ⟨W, hW, hr0, hr1, hb0, hsz0⟩ := two_new w
  have HR0 := hide hr0
  have HR1 := hide hr1
  have HB0 := hide hb0
  have HSZ := hide hsz0
  clear hr0 hr1 hb0 hsz0
  go_enter Tryd.func40, Tryd.ntmps40
  go_upto_region 2 with fail
  rw [← hW]
  clear hW
  by_cases h0 : s.size = 0
  · have hem : s.toList = [] := by rw [ByteArray.toList_eq]; exact List.eq_nil_of_length_eq_zero (by rw [size_string]; omega)
    have hl : s.data.toList = [] := by rw [← ByteArray.toList_eq]; exact hem
    have hz : ((s.size : Int) == 0) = true := by rw [h0]; rfl
    clear h0
    have HN := hide (show r = .error 3 by rw [← HR.out, hl]; rfl)
    obtain ⟨r0, r1, r2, f0, f1, f2⟩ := HR0.out.facts
    obtain ⟨n0, n1, n2, -, -, -⟩ := HR1.out.facts
    go_wp2_with fail
    obtain ⟨q0, q1, q2⟩ := HR0.out.store (.int .i64 0) (.string ⟨#[]⟩) (.string ⟨#[]⟩)
    have hbz := below_store3' HB0.out (Nat.le_refl w.heap.size) (.int .i64 0) (.string ⟨#[]⟩) (.string ⟨#[]⟩)
    obtain ⟨W3, hW3⟩ : ∃ W3, W3 = ((W.setCell ⟨w.heap.size, 0, none⟩ (.int .i64 0)).setCell ⟨w.heap.size, 1, none⟩ (.string ⟨#[]⟩)).setCell ⟨w.heap.size, 2, none⟩ (.string ⟨#[]⟩) := ⟨_, rfl⟩
    rw [← hW3] at q0 q1 q2 hbz ⊢
    exact bodyPost_ret (v := .tuple #[.agg #[(.int .i64 0), (.string ⟨#[]⟩), (.string ⟨#[]⟩)], .string ⟨#[]⟩, .int .i64 3]) (by simp [results, Tryd.results40, go_sem, q0, q1, q2]) rfl ⟨by rw [HN.out]; rfl, hbz⟩
  · have hp : 0 < s.size := by omega
    have hpi : (0 : Int) < (s.size : Int) := by omega
    have hz : ((s.size : Int) == 0) = false := beq_false_of_ne (by omega)
    have hem : ¬ s.toList = [] := by rw [ByteArray.toList_eq]; intro e; have := size_string s; rw [e] at this; simp at this; omega
    have hem1 : (s.toList == []) = false := by simpa using hem
    have hem2 : s.toList.isEmpty = false := by simpa using hem
    have hd0 := drop_string s 0 hp
    rw [List.drop_zero] at hd0
    obtain ⟨t, ht⟩ : ∃ t, s[0] = t := ⟨_, rfl⟩
    rw [ht] at hd0
    have htb := byte_lt t
    obtain ⟨m, hm⟩ : ∃ m, t.toNat % 32 = m := ⟨_, rfl⟩
    have b31 : (t.toNat : Int) % 32 = (m : Int) := by omega
    have HM := hide hm
    have HD := hide hd0
    clear hem hm hd0 h0
    by_cases h31 : m = 31
    · have t31 : ((m : Int) == 31) = true := by rw [h31]; rfl
      have HE := hide (show r = .error 5 by
        rw [← HR.out, HD.out]
        cases s.data.toList.drop (0 + 1) with
        | nil => rw [readF, if_pos (by rw [HM.out, h31])]
        | cons a b => rw [readF, if_pos (by rw [HM.out, h31])])
      clear h31
      have HN := hide (show r = .error 5 by exact HE.out)
      obtain ⟨r0, r1, r2, f0, f1, f2⟩ := HR0.out.facts
      obtain ⟨n0, n1, n2, -, -, -⟩ := HR1.out.facts
      go_wp2_with fail
      obtain ⟨q0, q1, q2⟩ := HR0.out.store (.int .i64 0) (.string ⟨#[]⟩) (.string ⟨#[]⟩)
      have hbz := below_store3' HB0.out (Nat.le_refl w.heap.size) (.int .i64 0) (.string ⟨#[]⟩) (.string ⟨#[]⟩)
      obtain ⟨W3, hW3⟩ : ∃ W3, W3 = ((W.setCell ⟨w.heap.size, 0, none⟩ (.int .i64 0)).setCell ⟨w.heap.size, 1, none⟩ (.string ⟨#[]⟩)).setCell ⟨w.heap.size, 2, none⟩ (.string ⟨#[]⟩) := ⟨_, rfl⟩
      rw [← hW3] at q0 q1 q2 hbz ⊢
      exact bodyPost_ret (v := .tuple #[.agg #[(.int .i64 0), (.string ⟨#[]⟩), (.string ⟨#[]⟩)], .string ⟨#[]⟩, .int .i64 5]) (by simp [results, Tryd.results40, go_sem, q0, q1, q2]) rfl ⟨by rw [HN.out]; rfl, hbz⟩
    · have t31 : ((m : Int) == 31) = false := beq_false_of_ne (by omega)
      have H31 := hide h31
      clear h31
      by_cases h1 : s.size = 1
      · have hlt : ((s.size : Int) == 1) = true := by rw [h1]; rfl
        have HE := hide (show r = .error 3 by
          rw [← HR.out, HD.out, drop_string_end s (0 + 1) (by omega), readF, if_neg (by rw [HM.out]; exact H31.out)])
        clear h1
        have HN := hide (show r = .error 3 by exact HE.out)
        obtain ⟨r0, r1, r2, f0, f1, f2⟩ := HR0.out.facts
        obtain ⟨n0, n1, n2, -, -, -⟩ := HR1.out.facts
        go_wp2_with fail
        obtain ⟨q0, q1, q2⟩ := HR0.out.store (.int .i64 0) (.string ⟨#[]⟩) (.string ⟨#[]⟩)
        have hbz := below_store3' HB0.out (Nat.le_refl w.heap.size) (.int .i64 0) (.string ⟨#[]⟩) (.string ⟨#[]⟩)
        obtain ⟨W3, hW3⟩ : ∃ W3, W3 = ((W.setCell ⟨w.heap.size, 0, none⟩ (.int .i64 0)).setCell ⟨w.heap.size, 1, none⟩ (.string ⟨#[]⟩)).setCell ⟨w.heap.size, 2, none⟩ (.string ⟨#[]⟩) := ⟨_, rfl⟩
        rw [← hW3] at q0 q1 q2 hbz ⊢
        exact bodyPost_ret (v := .tuple #[.agg #[(.int .i64 0), (.string ⟨#[]⟩), (.string ⟨#[]⟩)], .string ⟨#[]⟩, .int .i64 3]) (by simp [results, Tryd.results40, go_sem, q0, q1, q2]) rfl ⟨by rw [HN.out]; rfl, hbz⟩
      · have h2 : 2 ≤ s.size := by omega
        have hlt : ((s.size : Int) == 1) = false := beq_false_of_ne (by omega)
        have hst := string_two s h2
        obtain ⟨n, hn⟩ : ∃ n, s[1] = n := ⟨_, rfl⟩
        rw [hn, ht] at hst
        have hnb := byte_lt n
        have HX := hide (show r = _ from HR.out.symm.trans ((congrArg readF hst).trans (readF.eq_3 t n (s.data.toList.drop 2) |>.trans (if_neg (by rw [HM.out]; exact H31.out)))))
        have HS := hide hst
        have h1i : (1 : Int) < (s.size : Int) := by omega
        clear h1 hst
        by_cases hbad : n.toNat = 128 ∨ 131 < n.toNat
        · have HE := hide (HX.out.trans (if_pos hbad))
          rcases hbad with h128 | h131
          · have e1 : ((n.toNat : Int) == 128) = true := by rw [h128]; rfl
            clear h128
            have HN := hide (show r = .error 6 by exact HE.out)
            obtain ⟨r0, r1, r2, f0, f1, f2⟩ := HR0.out.facts
            obtain ⟨n0, n1, n2, -, -, -⟩ := HR1.out.facts
            go_wp2_with fail
            obtain ⟨q0, q1, q2⟩ := HR0.out.store (.int .i64 0) (.string ⟨#[]⟩) (.string ⟨#[]⟩)
            have hbz := below_store3' HB0.out (Nat.le_refl w.heap.size) (.int .i64 0) (.string ⟨#[]⟩) (.string ⟨#[]⟩)
            obtain ⟨W3, hW3⟩ : ∃ W3, W3 = ((W.setCell ⟨w.heap.size, 0, none⟩ (.int .i64 0)).setCell ⟨w.heap.size, 1, none⟩ (.string ⟨#[]⟩)).setCell ⟨w.heap.size, 2, none⟩ (.string ⟨#[]⟩) := ⟨_, rfl⟩
            rw [← hW3] at q0 q1 q2 hbz ⊢
            exact bodyPost_ret (v := .tuple #[.agg #[(.int .i64 0), (.string ⟨#[]⟩), (.string ⟨#[]⟩)], .string ⟨#[]⟩, .int .i64 6]) (by simp [results, Tryd.results40, go_sem, q0, q1, q2]) rfl ⟨by rw [HN.out]; rfl, hbz⟩
          · have e1 : ((n.toNat : Int) == 128) = false := beq_false_of_ne (by omega)
            have e2 : (131 : Int) < (n.toNat : Int) := by omega
            clear h131
            have HN := hide (show r = .error 6 by exact HE.out)
            obtain ⟨r0, r1, r2, f0, f1, f2⟩ := HR0.out.facts
            obtain ⟨n0, n1, n2, -, -, -⟩ := HR1.out.facts
            go_wp2_with fail
            obtain ⟨q0, q1, q2⟩ := HR0.out.store (.int .i64 0) (.string ⟨#[]⟩) (.string ⟨#[]⟩)
            have hbz := below_store3' HB0.out (Nat.le_refl w.heap.size) (.int .i64 0) (.string ⟨#[]⟩) (.string ⟨#[]⟩)
            obtain ⟨W3, hW3⟩ : ∃ W3, W3 = ((W.setCell ⟨w.heap.size, 0, none⟩ (.int .i64 0)).setCell ⟨w.heap.size, 1, none⟩ (.string ⟨#[]⟩)).setCell ⟨w.heap.size, 2, none⟩ (.string ⟨#[]⟩) := ⟨_, rfl⟩
            rw [← hW3] at q0 q1 q2 hbz ⊢
            exact bodyPost_ret (v := .tuple #[.agg #[(.int .i64 0), (.string ⟨#[]⟩), (.string ⟨#[]⟩)], .string ⟨#[]⟩, .int .i64 6]) (by simp [results, Tryd.results40, go_sem, q0, q1, q2]) rfl ⟨by rw [HN.out]; rfl, hbz⟩
        · have HX2 := hide (HX.out.trans (if_neg hbad))
          have e1 : ((n.toNat : Int) == 128) = false := beq_false_of_ne (by omega)
          have e2 : ¬ (131 : Int) < (n.toNat : Int) := by omega
          by_cases hsm : n.toNat < 128
          · have HX3 := hide (HX2.out.trans (if_pos hsm))
            obtain ⟨N, hN⟩ : ∃ N, n.toNat = N := ⟨_, rfl⟩
            rw [hN] at e1 e2 hnb HX3
            have e3 : ¬ (128 : Int) < (N : Int) := by omega
            have hN3 : (N : Int) < 128 := by omega
            clear hbad hsm
            by_cases hc : s.size - 2 < N
            · have hci : (s.size : Int) - 2 < (N : Int) := by omega
              have HE := hide (show r = .error 3 by rw [HX3.out, ← HS.out, cutE, cutB, if_pos (by rw [size_string]; exact hc)])
              clear hc
              have HN := hide (show r = .error 3 by exact HE.out)
              obtain ⟨r0, r1, r2, f0, f1, f2⟩ := HR0.out.facts
              obtain ⟨n0, n1, n2, -, -, -⟩ := HR1.out.facts
              go_wp2_with fail
              obtain ⟨q0, q1, q2⟩ := HR0.out.store (.int .i64 0) (.string ⟨#[]⟩) (.string ⟨#[]⟩)
              have hbz := below_store3' HB0.out (Nat.le_refl w.heap.size) (.int .i64 0) (.string ⟨#[]⟩) (.string ⟨#[]⟩)
              obtain ⟨W3, hW3⟩ : ∃ W3, W3 = ((W.setCell ⟨w.heap.size, 0, none⟩ (.int .i64 0)).setCell ⟨w.heap.size, 1, none⟩ (.string ⟨#[]⟩)).setCell ⟨w.heap.size, 2, none⟩ (.string ⟨#[]⟩) := ⟨_, rfl⟩
              rw [← hW3] at q0 q1 q2 hbz ⊢
              exact bodyPost_ret (v := .tuple #[.agg #[(.int .i64 0), (.string ⟨#[]⟩), (.string ⟨#[]⟩)], .string ⟨#[]⟩, .int .i64 3]) (by simp [results, Tryd.results40, go_sem, q0, q1, q2]) rfl ⟨by rw [HN.out]; rfl, hbz⟩
            · have hci : ¬ (s.size : Int) - 2 < (N : Int) := by omega
              have hw1 : IntKind.i64.wrap (2 + (N : Int)) = 2 + (N : Int) := IntWalk.i64_in _ (by omega)
              have hle : 2 + N ≤ s.size := by omega
              have hi0 : (0 : Int) < (s.size : Int) := by omega
              have hs1 := slice_str (P := Tryd.prog) 9 Tryd.underlying9 s 2 (2 + N) 2 (2 + (N : Int)) rfl (by omega) (by omega) hle
              have hs2 := slice_to (P := Tryd.prog) 9 Tryd.underlying9 s (2 + N) (2 + (N : Int)) (by omega) hle
              have hs3 := slice_from (P := Tryd.prog) 9 Tryd.underlying9 s (2 + N) (2 + (N : Int)) (by omega) hle
              obtain ⟨x1, hx1⟩ : ∃ x, s.extract 2 (2 + N) = x := ⟨_, rfl⟩
              obtain ⟨x2, hx2⟩ : ∃ x, s.extract 0 (2 + N) = x := ⟨_, rfl⟩
              obtain ⟨x3, hx3⟩ : ∃ x, s.extract (2 + N) s.size = x := ⟨_, rfl⟩
              rw [hx1] at hs1
              rw [hx2] at hs2
              rw [hx3] at hs3
              have HN := hide (show r = .ok ((t.toNat, x1.data.toList, x2.data.toList), x3.data.toList) by
                rw [HX3.out, ← HS.out, cutE, cutB, if_neg (by rw [size_string]; omega), ← hx1, ← hx2, ← hx3, Lib.extract_data, Lib.extract_data, bytes_drop]
                simp only [Nat.add_sub_cancel_left, Nat.sub_zero, List.drop_zero])
              clear hx1 hx2 hx3 hle hnb
              obtain ⟨r0, r1, r2, f0, f1, f2⟩ := HR0.out.facts
              go_upto_region 26 with fail
              go_region
              all_goals
                go_wp2_with fail
                obtain ⟨q0, q1, q2⟩ := HR0.out.store (.int .i64 (t.toNat : Int)) (.string x1) (.string x2)
                have hbz := below_store3' HB0.out (Nat.le_refl w.heap.size) (.int .i64 (t.toNat : Int)) (.string x1) (.string x2)
                obtain ⟨W3, hW3⟩ : ∃ W3, W3 = (((W.setCell ⟨w.heap.size, 0, none⟩ (.int .i64 (t.toNat : Int))).setCell ⟨w.heap.size, 1, none⟩ (.string x1)).setCell ⟨w.heap.size, 2, none⟩ (.string x2)) := ⟨_, rfl⟩
                rw [← hW3] at q0 q1 q2 hbz ⊢
                have q0' : W3.drew.cell? ⟨w.heap.size, 0, none⟩ = some (.int .i64 (t.toNat : Int)) := q0
                have q1' : W3.drew.cell? ⟨w.heap.size, 1, none⟩ = some (.string x1) := q1
                have q2' : W3.drew.cell? ⟨w.heap.size, 2, none⟩ = some (.string x2) := q2
                exact bodyPost_ret (v := .tuple #[.agg #[.int .i64 (t.toNat : Int), .string x1, .string x2], .string x3, .int .i64 0]) (by simp [results, Tryd.results40, go_sem, q0', q1', q2']) rfl ⟨by rw [HN.out]; rfl, hbz.drew⟩
          · have hk : n.toNat = 129 ∨ n.toNat = 130 ∨ n.toNat = 131 := by omega
            rcases hk with hk | hk | hk
            · have hNi : (n.toNat : Int) = 129 := by omega
              have hbn : ¬ n.toNat < 128 := by omega
              have HX3 := hide (HX2.out.trans (if_neg hbn))
              have hql : (s.data.toList.drop 2).length = s.size - 2 := by rw [List.length_drop, size_string]
              have hk9 : n.toNat - 128 = 1 := by omega
              rw [hk9, hql] at HX3
              have HK9 := hide hk9
              clear hbad hsm e1 e2 hnb hbn hk hk9
              by_cases hq : s.size - 2 < 1
              · have HE := hide (HX3.out.trans (if_pos hq))
                have hlt3 : (s.size : Int) < 3 := by omega
                clear hq hql
                have HN := hide (show r = .error 3 by exact HE.out)
                obtain ⟨r0, r1, r2, f0, f1, f2⟩ := HR0.out.facts
                obtain ⟨n0, n1, n2, -, -, -⟩ := HR1.out.facts
                go_wp2_with fail
                obtain ⟨q0, q1, q2⟩ := HR0.out.store (.int .i64 0) (.string ⟨#[]⟩) (.string ⟨#[]⟩)
                have hbz := below_store3' HB0.out (Nat.le_refl w.heap.size) (.int .i64 0) (.string ⟨#[]⟩) (.string ⟨#[]⟩)
                obtain ⟨W3, hW3⟩ : ∃ W3, W3 = ((W.setCell ⟨w.heap.size, 0, none⟩ (.int .i64 0)).setCell ⟨w.heap.size, 1, none⟩ (.string ⟨#[]⟩)).setCell ⟨w.heap.size, 2, none⟩ (.string ⟨#[]⟩) := ⟨_, rfl⟩
                rw [← hW3] at q0 q1 q2 hbz ⊢
                exact bodyPost_ret (v := .tuple #[.agg #[(.int .i64 0), (.string ⟨#[]⟩), (.string ⟨#[]⟩)], .string ⟨#[]⟩, .int .i64 3]) (by simp [results, Tryd.results40, go_sem, q0, q1, q2]) rfl ⟨by rw [HN.out]; rfl, hbz⟩
              · have HX4 := hide (HX3.out.trans (if_neg hq))
                have hlt3 : ¬ (s.size : Int) < 3 := by omega
                obtain ⟨l, hl⟩ : ∃ l, (s.data.toList.drop 2).take 1 = l := ⟨_, rfl⟩
                rw [hl] at HX4
                have hll : l.length = 1 := by rw [← hl, List.length_take, hql]; omega
                have hat : ∀ j (h : j < l.length), ∃ h2 : 2 + j < s.size, s[2 + j] = l[j] := fun j h => by
                  have h2 : 2 + j < s.size := by omega
                  refine ⟨h2, ?_⟩
                  have : l[j] = s.data.toList[2 + j]'(by rw [size_string]; exact h2) := by simp only [← hl, List.getElem_take, List.getElem_drop]
                  rw [this]
                  simp [ByteArray.getElem_eq_getElem_data]
                have HAT := hide hat
                have hsz : 3 ≤ s.size := by omega
                have hszi : (3 : Int) ≤ (s.size : Int) := by omega
                have HLL := hide hll
                clear hq hql hl hll hat
                go_wp2_with fail
                go_loopw [6, 9] (fun v i wr => W = wr ∧ ∃ j : Nat, j ≤ 1 ∧ i = .int .i64 j ∧ v = .int .i64 (beB (l.take j) : Nat)) (fun _ i _ => 1 - (intOf i).toNat)
                case atStart => exact ⟨rfl, 0, by omega, rfl, rfl⟩
                case round =>
                  obtain ⟨rfl, j, hj, rfl, rfl⟩ := hrel
                  by_cases hlt : j < 1
                  · have hjl : j < l.length := by rw [HLL.out]; exact hlt
                    obtain ⟨hb2, hcell⟩ := HAT.out j hjl
                    have hsn := beB_snoc (l.take j) l[j]
                    rw [← List.take_succ_eq_append_getElem hjl] at hsn
                    have hbl := beB_le (l := l.take j) (by rw [List.length_take]; omega)
                    obtain ⟨c1, hc1'⟩ : ∃ c1, l[j] = c1 := ⟨_, rfl⟩
                    rw [hc1'] at hcell hsn
                    obtain ⟨v, hv⟩ : ∃ v, beB (l.take j) = v := ⟨_, rfl⟩
                    rw [hv] at hsn hbl ⊢
                    have HSN := hide hsn
                    have hcb := byte_lt c1
                    clear hc1' hv hsn
                    go_wp2_with fail
                    go_roundw
                    case rel => exact ⟨trivial, j + 1, by omega, by go_num, by rw [HSN.out]; go_num⟩
                    case measure => simp [intOf]; omega
                  · have hjk : j = 1 := by omega
                    have hvv : beB (l.take j) = beB l := by rw [List.take_of_length_le (by rw [HLL.out]; omega)]
                    rw [hvv]
                    obtain ⟨N, hN⟩ : ∃ N, beB l = N := ⟨_, rfl⟩
                    rw [hN] at HX4 ⊢
                    have hNb := beB_le (l := l) (by rw [HLL.out]; decide)
                    rw [hN] at hNb
                    clear hvv hN
                    go_upto_region 22 with fail
                    obtain ⟨w1, hw1⟩ : ∃ w1, w1 = W.alloc (.cells #[.int .i64 0, .int .i64 128, .int .i64 256, .int .i64 65536] 3) := ⟨_, rfl⟩
                    have hb1 : Below W.heap.size W w1 := by rw [hw1]; exact (Below.refl _ _).alloc (Nat.le_refl _) _
                    have HR0 := hide (HR0.out.below hb1)
                    have HR1 := hide (HR1.out.below hb1)
                    have HB0 := hide (HB0.out.trans (hb1.mono HB0.out.size))
                    rw [← hw1]
                    clear hb1 hw1
                    by_cases hbad : N < 128 ∨ 131072 < N
                    · have HE := hide (HX4.out.trans (if_pos (show N < leastB 1 ∨ 131072 < N from hbad)))
                      rcases hbad with hbad | hbad
                      · have e1 : (N : Int) < 128 := by omega
                        clear hbad
                        have HN := hide (show r = .error 6 by exact HE.out)
                        obtain ⟨r0, r1, r2, f0, f1, f2⟩ := HR0.out.facts
                        obtain ⟨n0, n1, n2, -, -, -⟩ := HR1.out.facts
                        go_wp2_with fail
                        obtain ⟨q0, q1, q2⟩ := HR0.out.store (.int .i64 0) (.string ⟨#[]⟩) (.string ⟨#[]⟩)
                        have hbz := below_store3' HB0.out (Nat.le_refl w.heap.size) (.int .i64 0) (.string ⟨#[]⟩) (.string ⟨#[]⟩)
                        obtain ⟨W3, hW3⟩ : ∃ W3, W3 = ((w1.setCell ⟨w.heap.size, 0, none⟩ (.int .i64 0)).setCell ⟨w.heap.size, 1, none⟩ (.string ⟨#[]⟩)).setCell ⟨w.heap.size, 2, none⟩ (.string ⟨#[]⟩) := ⟨_, rfl⟩
                        rw [← hW3] at q0 q1 q2 hbz ⊢
                        exact bodyPost_ret (v := .tuple #[.agg #[(.int .i64 0), (.string ⟨#[]⟩), (.string ⟨#[]⟩)], .string ⟨#[]⟩, .int .i64 6]) (by simp [results, Tryd.results40, go_sem, q0, q1, q2]) rfl ⟨by rw [HN.out]; rfl, hbz⟩
                      · have e1 : ¬ (N : Int) < 128 := by omega
                        have e2 : (131072 : Int) < (N : Int) := by omega
                        clear hbad
                        have HN := hide (show r = .error 6 by exact HE.out)
                        obtain ⟨r0, r1, r2, f0, f1, f2⟩ := HR0.out.facts
                        obtain ⟨n0, n1, n2, -, -, -⟩ := HR1.out.facts
                        go_wp2_with fail
                        obtain ⟨q0, q1, q2⟩ := HR0.out.store (.int .i64 0) (.string ⟨#[]⟩) (.string ⟨#[]⟩)
                        have hbz := below_store3' HB0.out (Nat.le_refl w.heap.size) (.int .i64 0) (.string ⟨#[]⟩) (.string ⟨#[]⟩)
                        obtain ⟨W3, hW3⟩ : ∃ W3, W3 = ((w1.setCell ⟨w.heap.size, 0, none⟩ (.int .i64 0)).setCell ⟨w.heap.size, 1, none⟩ (.string ⟨#[]⟩)).setCell ⟨w.heap.size, 2, none⟩ (.string ⟨#[]⟩) := ⟨_, rfl⟩
                        rw [← hW3] at q0 q1 q2 hbz ⊢
                        exact bodyPost_ret (v := .tuple #[.agg #[(.int .i64 0), (.string ⟨#[]⟩), (.string ⟨#[]⟩)], .string ⟨#[]⟩, .int .i64 6]) (by simp [results, Tryd.results40, go_sem, q0, q1, q2]) rfl ⟨by rw [HN.out]; rfl, hbz⟩
                    · have HX5 := hide (HX4.out.trans (if_neg (show ¬ (N < leastB 1 ∨ 131072 < N) from hbad)))
                      have e1 : ¬ (N : Int) < 128 := by omega
                      have e2 : ¬ (131072 : Int) < (N : Int) := by omega
                      clear hbad
                      by_cases hc : s.size - 3 < N
                      · have hci : (s.size : Int) - 3 < (N : Int) := by omega
                        have HE := hide (show r = .error 3 by rw [HX5.out, ← HS.out, cutE, cutB, if_pos (by rw [size_string]; exact hc)])
                        clear hc
                        have HN := hide (show r = .error 3 by exact HE.out)
                        obtain ⟨r0, r1, r2, f0, f1, f2⟩ := HR0.out.facts
                        obtain ⟨n0, n1, n2, -, -, -⟩ := HR1.out.facts
                        go_wp2_with fail
                        obtain ⟨q0, q1, q2⟩ := HR0.out.store (.int .i64 0) (.string ⟨#[]⟩) (.string ⟨#[]⟩)
                        have hbz := below_store3' HB0.out (Nat.le_refl w.heap.size) (.int .i64 0) (.string ⟨#[]⟩) (.string ⟨#[]⟩)
                        obtain ⟨W3, hW3⟩ : ∃ W3, W3 = ((w1.setCell ⟨w.heap.size, 0, none⟩ (.int .i64 0)).setCell ⟨w.heap.size, 1, none⟩ (.string ⟨#[]⟩)).setCell ⟨w.heap.size, 2, none⟩ (.string ⟨#[]⟩) := ⟨_, rfl⟩
                        rw [← hW3] at q0 q1 q2 hbz ⊢
                        exact bodyPost_ret (v := .tuple #[.agg #[(.int .i64 0), (.string ⟨#[]⟩), (.string ⟨#[]⟩)], .string ⟨#[]⟩, .int .i64 3]) (by simp [results, Tryd.results40, go_sem, q0, q1, q2]) rfl ⟨by rw [HN.out]; rfl, hbz⟩
                      · have hci : ¬ (s.size : Int) - 3 < (N : Int) := by omega
                        have hnb : (0 : Int) ≤ 0 := by omega
                        have hw1 : IntKind.i64.wrap (3 + (N : Int)) = 3 + (N : Int) := IntWalk.i64_in _ (by omega)
                        have hle : 3 + N ≤ s.size := by omega
                        have hi0 : (0 : Int) < (s.size : Int) := by omega
                        have hs1 := slice_str (P := Tryd.prog) 9 Tryd.underlying9 s 3 (3 + N) 3 (3 + (N : Int)) rfl (by omega) (by omega) hle
                        have hs2 := slice_to (P := Tryd.prog) 9 Tryd.underlying9 s (3 + N) (3 + (N : Int)) (by omega) hle
                        have hs3 := slice_from (P := Tryd.prog) 9 Tryd.underlying9 s (3 + N) (3 + (N : Int)) (by omega) hle
                        obtain ⟨x1, hx1⟩ : ∃ x, s.extract 3 (3 + N) = x := ⟨_, rfl⟩
                        obtain ⟨x2, hx2⟩ : ∃ x, s.extract 0 (3 + N) = x := ⟨_, rfl⟩
                        obtain ⟨x3, hx3⟩ : ∃ x, s.extract (3 + N) s.size = x := ⟨_, rfl⟩
                        rw [hx1] at hs1
                        rw [hx2] at hs2
                        rw [hx3] at hs3
                        have HN := hide (show r = .ok ((t.toNat, x1.data.toList, x2.data.toList), x3.data.toList) by
                          rw [HX5.out, ← HS.out, cutE, cutB, if_neg (by rw [size_string]; omega), ← hx1, ← hx2, ← hx3, Lib.extract_data, Lib.extract_data, bytes_drop]
                          simp only [Nat.add_sub_cancel_left, Nat.sub_zero, List.drop_zero])
                        clear hx1 hx2 hx3 hle hnb
                        obtain ⟨r0, r1, r2, f0, f1, f2⟩ := HR0.out.facts
                        go_upto_region 26 with fail
                        go_region
                        all_goals
                          go_wp2_with fail
                          obtain ⟨q0, q1, q2⟩ := HR0.out.store (.int .i64 (t.toNat : Int)) (.string x1) (.string x2)
                          have hbz := below_store3' HB0.out (Nat.le_refl w.heap.size) (.int .i64 (t.toNat : Int)) (.string x1) (.string x2)
                          obtain ⟨W3, hW3⟩ : ∃ W3, W3 = (((w1.setCell ⟨w.heap.size, 0, none⟩ (.int .i64 (t.toNat : Int))).setCell ⟨w.heap.size, 1, none⟩ (.string x1)).setCell ⟨w.heap.size, 2, none⟩ (.string x2)) := ⟨_, rfl⟩
                          rw [← hW3] at q0 q1 q2 hbz ⊢
                          have q0' : W3.drew.cell? ⟨w.heap.size, 0, none⟩ = some (.int .i64 (t.toNat : Int)) := q0
                          have q1' : W3.drew.cell? ⟨w.heap.size, 1, none⟩ = some (.string x1) := q1
                          have q2' : W3.drew.cell? ⟨w.heap.size, 2, none⟩ = some (.string x2) := q2
                          exact bodyPost_ret (v := .tuple #[.agg #[.int .i64 (t.toNat : Int), .string x1, .string x2], .string x3, .int .i64 0]) (by simp [results, Tryd.results40, go_sem, q0', q1', q2']) rfl ⟨by rw [HN.out]; rfl, hbz.drew⟩
            · have hNi : (n.toNat : Int) = 130 := by omega
              have hbn : ¬ n.toNat < 128 := by omega
              have HX3 := hide (HX2.out.trans (if_neg hbn))
              have hql : (s.data.toList.drop 2).length = s.size - 2 := by rw [List.length_drop, size_string]
              have hk9 : n.toNat - 128 = 2 := by omega
              rw [hk9, hql] at HX3
              have HK9 := hide hk9
              clear hbad hsm e1 e2 hnb hbn hk hk9
              by_cases hq : s.size - 2 < 2
              · have HE := hide (HX3.out.trans (if_pos hq))
                have hlt3 : (s.size : Int) < 4 := by omega
                clear hq hql
                have HN := hide (show r = .error 3 by exact HE.out)
                obtain ⟨r0, r1, r2, f0, f1, f2⟩ := HR0.out.facts
                obtain ⟨n0, n1, n2, -, -, -⟩ := HR1.out.facts
                go_wp2_with fail
                obtain ⟨q0, q1, q2⟩ := HR0.out.store (.int .i64 0) (.string ⟨#[]⟩) (.string ⟨#[]⟩)
                have hbz := below_store3' HB0.out (Nat.le_refl w.heap.size) (.int .i64 0) (.string ⟨#[]⟩) (.string ⟨#[]⟩)
                obtain ⟨W3, hW3⟩ : ∃ W3, W3 = ((W.setCell ⟨w.heap.size, 0, none⟩ (.int .i64 0)).setCell ⟨w.heap.size, 1, none⟩ (.string ⟨#[]⟩)).setCell ⟨w.heap.size, 2, none⟩ (.string ⟨#[]⟩) := ⟨_, rfl⟩
                rw [← hW3] at q0 q1 q2 hbz ⊢
                exact bodyPost_ret (v := .tuple #[.agg #[(.int .i64 0), (.string ⟨#[]⟩), (.string ⟨#[]⟩)], .string ⟨#[]⟩, .int .i64 3]) (by simp [results, Tryd.results40, go_sem, q0, q1, q2]) rfl ⟨by rw [HN.out]; rfl, hbz⟩
              · have HX4 := hide (HX3.out.trans (if_neg hq))
                have hlt3 : ¬ (s.size : Int) < 4 := by omega
                obtain ⟨l, hl⟩ : ∃ l, (s.data.toList.drop 2).take 2 = l := ⟨_, rfl⟩
                rw [hl] at HX4
                have hll : l.length = 2 := by rw [← hl, List.length_take, hql]; omega
                have hat : ∀ j (h : j < l.length), ∃ h2 : 2 + j < s.size, s[2 + j] = l[j] := fun j h => by
                  have h2 : 2 + j < s.size := by omega
                  refine ⟨h2, ?_⟩
                  have : l[j] = s.data.toList[2 + j]'(by rw [size_string]; exact h2) := by simp only [← hl, List.getElem_take, List.getElem_drop]
                  rw [this]
                  simp [ByteArray.getElem_eq_getElem_data]
                have HAT := hide hat
                have hsz : 4 ≤ s.size := by omega
                have hszi : (4 : Int) ≤ (s.size : Int) := by omega
                have HLL := hide hll
                clear hq hql hl hll hat
                go_wp2_with fail
                go_loopw [6, 9] (fun v i wr => W = wr ∧ ∃ j : Nat, j ≤ 2 ∧ i = .int .i64 j ∧ v = .int .i64 (beB (l.take j) : Nat)) (fun _ i _ => 2 - (intOf i).toNat)
                case atStart => exact ⟨rfl, 0, by omega, rfl, rfl⟩
                case round =>
                  obtain ⟨rfl, j, hj, rfl, rfl⟩ := hrel
                  by_cases hlt : j < 2
                  · have hjl : j < l.length := by rw [HLL.out]; exact hlt
                    obtain ⟨hb2, hcell⟩ := HAT.out j hjl
                    have hsn := beB_snoc (l.take j) l[j]
                    rw [← List.take_succ_eq_append_getElem hjl] at hsn
                    have hbl := beB_le (l := l.take j) (by rw [List.length_take]; omega)
                    obtain ⟨c1, hc1'⟩ : ∃ c1, l[j] = c1 := ⟨_, rfl⟩
                    rw [hc1'] at hcell hsn
                    obtain ⟨v, hv⟩ : ∃ v, beB (l.take j) = v := ⟨_, rfl⟩
                    rw [hv] at hsn hbl ⊢
                    have HSN := hide hsn
                    have hcb := byte_lt c1
                    clear hc1' hv hsn
                    go_wp2_with fail
                    go_roundw
                    case rel => exact ⟨trivial, j + 1, by omega, by go_num, by rw [HSN.out]; go_num⟩
                    case measure => simp [intOf]; omega
                  · have hjk : j = 2 := by omega
                    have hvv : beB (l.take j) = beB l := by rw [List.take_of_length_le (by rw [HLL.out]; omega)]
                    rw [hvv]
                    obtain ⟨N, hN⟩ : ∃ N, beB l = N := ⟨_, rfl⟩
                    rw [hN] at HX4 ⊢
                    have hNb := beB_le (l := l) (by rw [HLL.out]; decide)
                    rw [hN] at hNb
                    clear hvv hN
                    go_upto_region 22 with fail
                    obtain ⟨w1, hw1⟩ : ∃ w1, w1 = W.alloc (.cells #[.int .i64 0, .int .i64 128, .int .i64 256, .int .i64 65536] 3) := ⟨_, rfl⟩
                    have hb1 : Below W.heap.size W w1 := by rw [hw1]; exact (Below.refl _ _).alloc (Nat.le_refl _) _
                    have HR0 := hide (HR0.out.below hb1)
                    have HR1 := hide (HR1.out.below hb1)
                    have HB0 := hide (HB0.out.trans (hb1.mono HB0.out.size))
                    rw [← hw1]
                    clear hb1 hw1
                    by_cases hbad : N < 256 ∨ 131072 < N
                    · have HE := hide (HX4.out.trans (if_pos (show N < leastB 2 ∨ 131072 < N from hbad)))
                      rcases hbad with hbad | hbad
                      · have e1 : (N : Int) < 256 := by omega
                        clear hbad
                        have HN := hide (show r = .error 6 by exact HE.out)
                        obtain ⟨r0, r1, r2, f0, f1, f2⟩ := HR0.out.facts
                        obtain ⟨n0, n1, n2, -, -, -⟩ := HR1.out.facts
                        go_wp2_with fail
                        obtain ⟨q0, q1, q2⟩ := HR0.out.store (.int .i64 0) (.string ⟨#[]⟩) (.string ⟨#[]⟩)
                        have hbz := below_store3' HB0.out (Nat.le_refl w.heap.size) (.int .i64 0) (.string ⟨#[]⟩) (.string ⟨#[]⟩)
                        obtain ⟨W3, hW3⟩ : ∃ W3, W3 = ((w1.setCell ⟨w.heap.size, 0, none⟩ (.int .i64 0)).setCell ⟨w.heap.size, 1, none⟩ (.string ⟨#[]⟩)).setCell ⟨w.heap.size, 2, none⟩ (.string ⟨#[]⟩) := ⟨_, rfl⟩
                        rw [← hW3] at q0 q1 q2 hbz ⊢
                        exact bodyPost_ret (v := .tuple #[.agg #[(.int .i64 0), (.string ⟨#[]⟩), (.string ⟨#[]⟩)], .string ⟨#[]⟩, .int .i64 6]) (by simp [results, Tryd.results40, go_sem, q0, q1, q2]) rfl ⟨by rw [HN.out]; rfl, hbz⟩
                      · have e1 : ¬ (N : Int) < 256 := by omega
                        have e2 : (131072 : Int) < (N : Int) := by omega
                        clear hbad
                        have HN := hide (show r = .error 6 by exact HE.out)
                        obtain ⟨r0, r1, r2, f0, f1, f2⟩ := HR0.out.facts
                        obtain ⟨n0, n1, n2, -, -, -⟩ := HR1.out.facts
                        go_wp2_with fail
                        obtain ⟨q0, q1, q2⟩ := HR0.out.store (.int .i64 0) (.string ⟨#[]⟩) (.string ⟨#[]⟩)
                        have hbz := below_store3' HB0.out (Nat.le_refl w.heap.size) (.int .i64 0) (.string ⟨#[]⟩) (.string ⟨#[]⟩)
                        obtain ⟨W3, hW3⟩ : ∃ W3, W3 = ((w1.setCell ⟨w.heap.size, 0, none⟩ (.int .i64 0)).setCell ⟨w.heap.size, 1, none⟩ (.string ⟨#[]⟩)).setCell ⟨w.heap.size, 2, none⟩ (.string ⟨#[]⟩) := ⟨_, rfl⟩
                        rw [← hW3] at q0 q1 q2 hbz ⊢
                        exact bodyPost_ret (v := .tuple #[.agg #[(.int .i64 0), (.string ⟨#[]⟩), (.string ⟨#[]⟩)], .string ⟨#[]⟩, .int .i64 6]) (by simp [results, Tryd.results40, go_sem, q0, q1, q2]) rfl ⟨by rw [HN.out]; rfl, hbz⟩
                    · have HX5 := hide (HX4.out.trans (if_neg (show ¬ (N < leastB 2 ∨ 131072 < N) from hbad)))
                      have e1 : ¬ (N : Int) < 256 := by omega
                      have e2 : ¬ (131072 : Int) < (N : Int) := by omega
                      clear hbad
                      by_cases hc : s.size - 4 < N
                      · have hci : (s.size : Int) - 4 < (N : Int) := by omega
                        have HE := hide (show r = .error 3 by rw [HX5.out, ← HS.out, cutE, cutB, if_pos (by rw [size_string]; exact hc)])
                        clear hc
                        have HN := hide (show r = .error 3 by exact HE.out)
                        obtain ⟨r0, r1, r2, f0, f1, f2⟩ := HR0.out.facts
                        obtain ⟨n0, n1, n2, -, -, -⟩ := HR1.out.facts
                        go_wp2_with fail
                        obtain ⟨q0, q1, q2⟩ := HR0.out.store (.int .i64 0) (.string ⟨#[]⟩) (.string ⟨#[]⟩)
                        have hbz := below_store3' HB0.out (Nat.le_refl w.heap.size) (.int .i64 0) (.string ⟨#[]⟩) (.string ⟨#[]⟩)
                        obtain ⟨W3, hW3⟩ : ∃ W3, W3 = ((w1.setCell ⟨w.heap.size, 0, none⟩ (.int .i64 0)).setCell ⟨w.heap.size, 1, none⟩ (.string ⟨#[]⟩)).setCell ⟨w.heap.size, 2, none⟩ (.string ⟨#[]⟩) := ⟨_, rfl⟩
                        rw [← hW3] at q0 q1 q2 hbz ⊢
                        exact bodyPost_ret (v := .tuple #[.agg #[(.int .i64 0), (.string ⟨#[]⟩), (.string ⟨#[]⟩)], .string ⟨#[]⟩, .int .i64 3]) (by simp [results, Tryd.results40, go_sem, q0, q1, q2]) rfl ⟨by rw [HN.out]; rfl, hbz⟩
                      · have hci : ¬ (s.size : Int) - 4 < (N : Int) := by omega
                        have hnb : (0 : Int) ≤ 0 := by omega
                        have hw1 : IntKind.i64.wrap (4 + (N : Int)) = 4 + (N : Int) := IntWalk.i64_in _ (by omega)
                        have hle : 4 + N ≤ s.size := by omega
                        have hi0 : (0 : Int) < (s.size : Int) := by omega
                        have hs1 := slice_str (P := Tryd.prog) 9 Tryd.underlying9 s 4 (4 + N) 4 (4 + (N : Int)) rfl (by omega) (by omega) hle
                        have hs2 := slice_to (P := Tryd.prog) 9 Tryd.underlying9 s (4 + N) (4 + (N : Int)) (by omega) hle
                        have hs3 := slice_from (P := Tryd.prog) 9 Tryd.underlying9 s (4 + N) (4 + (N : Int)) (by omega) hle
                        obtain ⟨x1, hx1⟩ : ∃ x, s.extract 4 (4 + N) = x := ⟨_, rfl⟩
                        obtain ⟨x2, hx2⟩ : ∃ x, s.extract 0 (4 + N) = x := ⟨_, rfl⟩
                        obtain ⟨x3, hx3⟩ : ∃ x, s.extract (4 + N) s.size = x := ⟨_, rfl⟩
                        rw [hx1] at hs1
                        rw [hx2] at hs2
                        rw [hx3] at hs3
                        have HN := hide (show r = .ok ((t.toNat, x1.data.toList, x2.data.toList), x3.data.toList) by
                          rw [HX5.out, ← HS.out, cutE, cutB, if_neg (by rw [size_string]; omega), ← hx1, ← hx2, ← hx3, Lib.extract_data, Lib.extract_data, bytes_drop]
                          simp only [Nat.add_sub_cancel_left, Nat.sub_zero, List.drop_zero])
                        clear hx1 hx2 hx3 hle hnb
                        obtain ⟨r0, r1, r2, f0, f1, f2⟩ := HR0.out.facts
                        go_upto_region 26 with fail
                        go_region
                        all_goals
                          go_wp2_with fail
                          obtain ⟨q0, q1, q2⟩ := HR0.out.store (.int .i64 (t.toNat : Int)) (.string x1) (.string x2)
                          have hbz := below_store3' HB0.out (Nat.le_refl w.heap.size) (.int .i64 (t.toNat : Int)) (.string x1) (.string x2)
                          obtain ⟨W3, hW3⟩ : ∃ W3, W3 = (((w1.setCell ⟨w.heap.size, 0, none⟩ (.int .i64 (t.toNat : Int))).setCell ⟨w.heap.size, 1, none⟩ (.string x1)).setCell ⟨w.heap.size, 2, none⟩ (.string x2)) := ⟨_, rfl⟩
                          rw [← hW3] at q0 q1 q2 hbz ⊢
                          have q0' : W3.drew.cell? ⟨w.heap.size, 0, none⟩ = some (.int .i64 (t.toNat : Int)) := q0
                          have q1' : W3.drew.cell? ⟨w.heap.size, 1, none⟩ = some (.string x1) := q1
                          have q2' : W3.drew.cell? ⟨w.heap.size, 2, none⟩ = some (.string x2) := q2
                          exact bodyPost_ret (v := .tuple #[.agg #[.int .i64 (t.toNat : Int), .string x1, .string x2], .string x3, .int .i64 0]) (by simp [results, Tryd.results40, go_sem, q0', q1', q2']) rfl ⟨by rw [HN.out]; rfl, hbz.drew⟩
            · have hNi : (n.toNat : Int) = 131 := by omega
              have hbn : ¬ n.toNat < 128 := by omega
              have HX3 := hide (HX2.out.trans (if_neg hbn))
              have hql : (s.data.toList.drop 2).length = s.size - 2 := by rw [List.length_drop, size_string]
              have hk9 : n.toNat - 128 = 3 := by omega
              rw [hk9, hql] at HX3
              have HK9 := hide hk9
              clear hbad hsm e1 e2 hnb hbn hk hk9
              by_cases hq : s.size - 2 < 3
              · have HE := hide (HX3.out.trans (if_pos hq))
                have hlt3 : (s.size : Int) < 5 := by omega
                clear hq hql
                have HN := hide (show r = .error 3 by exact HE.out)
                obtain ⟨r0, r1, r2, f0, f1, f2⟩ := HR0.out.facts
                obtain ⟨n0, n1, n2, -, -, -⟩ := HR1.out.facts
                go_wp2_with fail
                obtain ⟨q0, q1, q2⟩ := HR0.out.store (.int .i64 0) (.string ⟨#[]⟩) (.string ⟨#[]⟩)
                have hbz := below_store3' HB0.out (Nat.le_refl w.heap.size) (.int .i64 0) (.string ⟨#[]⟩) (.string ⟨#[]⟩)
                obtain ⟨W3, hW3⟩ : ∃ W3, W3 = ((W.setCell ⟨w.heap.size, 0, none⟩ (.int .i64 0)).setCell ⟨w.heap.size, 1, none⟩ (.string ⟨#[]⟩)).setCell ⟨w.heap.size, 2, none⟩ (.string ⟨#[]⟩) := ⟨_, rfl⟩
                rw [← hW3] at q0 q1 q2 hbz ⊢
                exact bodyPost_ret (v := .tuple #[.agg #[(.int .i64 0), (.string ⟨#[]⟩), (.string ⟨#[]⟩)], .string ⟨#[]⟩, .int .i64 3]) (by simp [results, Tryd.results40, go_sem, q0, q1, q2]) rfl ⟨by rw [HN.out]; rfl, hbz⟩
              · have HX4 := hide (HX3.out.trans (if_neg hq))
                have hlt3 : ¬ (s.size : Int) < 5 := by omega
                obtain ⟨l, hl⟩ : ∃ l, (s.data.toList.drop 2).take 3 = l := ⟨_, rfl⟩
                rw [hl] at HX4
                have hll : l.length = 3 := by rw [← hl, List.length_take, hql]; omega
                have hat : ∀ j (h : j < l.length), ∃ h2 : 2 + j < s.size, s[2 + j] = l[j] := fun j h => by
                  have h2 : 2 + j < s.size := by omega
                  refine ⟨h2, ?_⟩
                  have : l[j] = s.data.toList[2 + j]'(by rw [size_string]; exact h2) := by simp only [← hl, List.getElem_take, List.getElem_drop]
                  rw [this]
                  simp [ByteArray.getElem_eq_getElem_data]
                have HAT := hide hat
                have hsz : 5 ≤ s.size := by omega
                have hszi : (5 : Int) ≤ (s.size : Int) := by omega
                have HLL := hide hll
                clear hq hql hl hll hat
                go_wp2_with fail
                go_loopw [6, 9] (fun v i wr => W = wr ∧ ∃ j : Nat, j ≤ 3 ∧ i = .int .i64 j ∧ v = .int .i64 (beB (l.take j) : Nat)) (fun _ i _ => 3 - (intOf i).toNat)
                case atStart => exact ⟨rfl, 0, by omega, rfl, rfl⟩
                case round =>
                  obtain ⟨rfl, j, hj, rfl, rfl⟩ := hrel
                  by_cases hlt : j < 3
                  · have hjl : j < l.length := by rw [HLL.out]; exact hlt
                    obtain ⟨hb2, hcell⟩ := HAT.out j hjl
                    have hsn := beB_snoc (l.take j) l[j]
                    rw [← List.take_succ_eq_append_getElem hjl] at hsn
                    have hbl := beB_le (l := l.take j) (by rw [List.length_take]; omega)
                    obtain ⟨c1, hc1'⟩ : ∃ c1, l[j] = c1 := ⟨_, rfl⟩
                    rw [hc1'] at hcell hsn
                    obtain ⟨v, hv⟩ : ∃ v, beB (l.take j) = v := ⟨_, rfl⟩
                    rw [hv] at hsn hbl ⊢
                    have HSN := hide hsn
                    have hcb := byte_lt c1
                    clear hc1' hv hsn
                    go_wp2_with fail
                    go_roundw
                    case rel => exact ⟨trivial, j + 1, by omega, by go_num, by rw [HSN.out]; go_num⟩
                    case measure => simp [intOf]; omega
                  · have hjk : j = 3 := by omega
                    have hvv : beB (l.take j) = beB l := by rw [List.take_of_length_le (by rw [HLL.out]; omega)]
                    rw [hvv]
                    obtain ⟨N, hN⟩ : ∃ N, beB l = N := ⟨_, rfl⟩
                    rw [hN] at HX4 ⊢
                    have hNb := beB_le (l := l) (by rw [HLL.out]; decide)
                    rw [hN] at hNb
                    clear hvv hN
                    go_upto_region 22 with fail
                    obtain ⟨w1, hw1⟩ : ∃ w1, w1 = W.alloc (.cells #[.int .i64 0, .int .i64 128, .int .i64 256, .int .i64 65536] 3) := ⟨_, rfl⟩
                    have hb1 : Below W.heap.size W w1 := by rw [hw1]; exact (Below.refl _ _).alloc (Nat.le_refl _) _
                    have HR0 := hide (HR0.out.below hb1)
                    have HR1 := hide (HR1.out.below hb1)
                    have HB0 := hide (HB0.out.trans (hb1.mono HB0.out.size))
                    rw [← hw1]
                    clear hb1 hw1
                    by_cases hbad : N < 65536 ∨ 131072 < N
                    · have HE := hide (HX4.out.trans (if_pos (show N < leastB 3 ∨ 131072 < N from hbad)))
                      rcases hbad with hbad | hbad
                      · have e1 : (N : Int) < 65536 := by omega
                        clear hbad
                        have HN := hide (show r = .error 6 by exact HE.out)
                        obtain ⟨r0, r1, r2, f0, f1, f2⟩ := HR0.out.facts
                        obtain ⟨n0, n1, n2, -, -, -⟩ := HR1.out.facts
                        go_wp2_with fail
                        obtain ⟨q0, q1, q2⟩ := HR0.out.store (.int .i64 0) (.string ⟨#[]⟩) (.string ⟨#[]⟩)
                        have hbz := below_store3' HB0.out (Nat.le_refl w.heap.size) (.int .i64 0) (.string ⟨#[]⟩) (.string ⟨#[]⟩)
                        obtain ⟨W3, hW3⟩ : ∃ W3, W3 = ((w1.setCell ⟨w.heap.size, 0, none⟩ (.int .i64 0)).setCell ⟨w.heap.size, 1, none⟩ (.string ⟨#[]⟩)).setCell ⟨w.heap.size, 2, none⟩ (.string ⟨#[]⟩) := ⟨_, rfl⟩
                        rw [← hW3] at q0 q1 q2 hbz ⊢
                        exact bodyPost_ret (v := .tuple #[.agg #[(.int .i64 0), (.string ⟨#[]⟩), (.string ⟨#[]⟩)], .string ⟨#[]⟩, .int .i64 6]) (by simp [results, Tryd.results40, go_sem, q0, q1, q2]) rfl ⟨by rw [HN.out]; rfl, hbz⟩
                      · have e1 : ¬ (N : Int) < 65536 := by omega
                        have e2 : (131072 : Int) < (N : Int) := by omega
                        clear hbad
                        have HN := hide (show r = .error 6 by exact HE.out)
                        obtain ⟨r0, r1, r2, f0, f1, f2⟩ := HR0.out.facts
                        obtain ⟨n0, n1, n2, -, -, -⟩ := HR1.out.facts
                        go_wp2_with fail
                        obtain ⟨q0, q1, q2⟩ := HR0.out.store (.int .i64 0) (.string ⟨#[]⟩) (.string ⟨#[]⟩)
                        have hbz := below_store3' HB0.out (Nat.le_refl w.heap.size) (.int .i64 0) (.string ⟨#[]⟩) (.string ⟨#[]⟩)
                        obtain ⟨W3, hW3⟩ : ∃ W3, W3 = ((w1.setCell ⟨w.heap.size, 0, none⟩ (.int .i64 0)).setCell ⟨w.heap.size, 1, none⟩ (.string ⟨#[]⟩)).setCell ⟨w.heap.size, 2, none⟩ (.string ⟨#[]⟩) := ⟨_, rfl⟩
                        rw [← hW3] at q0 q1 q2 hbz ⊢
                        exact bodyPost_ret (v := .tuple #[.agg #[(.int .i64 0), (.string ⟨#[]⟩), (.string ⟨#[]⟩)], .string ⟨#[]⟩, .int .i64 6]) (by simp [results, Tryd.results40, go_sem, q0, q1, q2]) rfl ⟨by rw [HN.out]; rfl, hbz⟩
                    · have HX5 := hide (HX4.out.trans (if_neg (show ¬ (N < leastB 3 ∨ 131072 < N) from hbad)))
                      have e1 : ¬ (N : Int) < 65536 := by omega
                      have e2 : ¬ (131072 : Int) < (N : Int) := by omega
                      clear hbad
                      by_cases hc : s.size - 5 < N
                      · have hci : (s.size : Int) - 5 < (N : Int) := by omega
                        have HE := hide (show r = .error 3 by rw [HX5.out, ← HS.out, cutE, cutB, if_pos (by rw [size_string]; exact hc)])
                        clear hc
                        have HN := hide (show r = .error 3 by exact HE.out)
                        obtain ⟨r0, r1, r2, f0, f1, f2⟩ := HR0.out.facts
                        obtain ⟨n0, n1, n2, -, -, -⟩ := HR1.out.facts
                        go_wp2_with fail
                        obtain ⟨q0, q1, q2⟩ := HR0.out.store (.int .i64 0) (.string ⟨#[]⟩) (.string ⟨#[]⟩)
                        have hbz := below_store3' HB0.out (Nat.le_refl w.heap.size) (.int .i64 0) (.string ⟨#[]⟩) (.string ⟨#[]⟩)
                        obtain ⟨W3, hW3⟩ : ∃ W3, W3 = ((w1.setCell ⟨w.heap.size, 0, none⟩ (.int .i64 0)).setCell ⟨w.heap.size, 1, none⟩ (.string ⟨#[]⟩)).setCell ⟨w.heap.size, 2, none⟩ (.string ⟨#[]⟩) := ⟨_, rfl⟩
                        rw [← hW3] at q0 q1 q2 hbz ⊢
                        exact bodyPost_ret (v := .tuple #[.agg #[(.int .i64 0), (.string ⟨#[]⟩), (.string ⟨#[]⟩)], .string ⟨#[]⟩, .int .i64 3]) (by simp [results, Tryd.results40, go_sem, q0, q1, q2]) rfl ⟨by rw [HN.out]; rfl, hbz⟩
                      · have hci : ¬ (s.size : Int) - 5 < (N : Int) := by omega
                        have hnb : (0 : Int) ≤ 0 := by omega
                        have hw1 : IntKind.i64.wrap (5 + (N : Int)) = 5 + (N : Int) := IntWalk.i64_in _ (by omega)
                        have hle : 5 + N ≤ s.size := by omega
                        have hi0 : (0 : Int) < (s.size : Int) := by omega
                        have hs1 := slice_str (P := Tryd.prog) 9 Tryd.underlying9 s 5 (5 + N) 5 (5 + (N : Int)) rfl (by omega) (by omega) hle
                        have hs2 := slice_to (P := Tryd.prog) 9 Tryd.underlying9 s (5 + N) (5 + (N : Int)) (by omega) hle
                        have hs3 := slice_from (P := Tryd.prog) 9 Tryd.underlying9 s (5 + N) (5 + (N : Int)) (by omega) hle
                        obtain ⟨x1, hx1⟩ : ∃ x, s.extract 5 (5 + N) = x := ⟨_, rfl⟩
                        obtain ⟨x2, hx2⟩ : ∃ x, s.extract 0 (5 + N) = x := ⟨_, rfl⟩
                        obtain ⟨x3, hx3⟩ : ∃ x, s.extract (5 + N) s.size = x := ⟨_, rfl⟩
                        rw [hx1] at hs1
                        rw [hx2] at hs2
                        rw [hx3] at hs3
                        have HN := hide (show r = .ok ((t.toNat, x1.data.toList, x2.data.toList), x3.data.toList) by
                          rw [HX5.out, ← HS.out, cutE, cutB, if_neg (by rw [size_string]; omega), ← hx1, ← hx2, ← hx3, Lib.extract_data, Lib.extract_data, bytes_drop]
                          simp only [Nat.add_sub_cancel_left, Nat.sub_zero, List.drop_zero])
                        clear hx1 hx2 hx3 hle hnb
                        obtain ⟨r0, r1, r2, f0, f1, f2⟩ := HR0.out.facts
                        go_upto_region 26 with fail
                        go_region
                        all_goals
                          go_wp2_with fail
                          obtain ⟨q0, q1, q2⟩ := HR0.out.store (.int .i64 (t.toNat : Int)) (.string x1) (.string x2)
                          have hbz := below_store3' HB0.out (Nat.le_refl w.heap.size) (.int .i64 (t.toNat : Int)) (.string x1) (.string x2)
                          obtain ⟨W3, hW3⟩ : ∃ W3, W3 = (((w1.setCell ⟨w.heap.size, 0, none⟩ (.int .i64 (t.toNat : Int))).setCell ⟨w.heap.size, 1, none⟩ (.string x1)).setCell ⟨w.heap.size, 2, none⟩ (.string x2)) := ⟨_, rfl⟩
                          rw [← hW3] at q0 q1 q2 hbz ⊢
                          have q0' : W3.drew.cell? ⟨w.heap.size, 0, none⟩ = some (.int .i64 (t.toNat : Int)) := q0
                          have q1' : W3.drew.cell? ⟨w.heap.size, 1, none⟩ = some (.string x1) := q1
                          have q2' : W3.drew.cell? ⟨w.heap.size, 2, none⟩ = some (.string x2) := q2
                          exact bodyPost_ret (v := .tuple #[.agg #[.int .i64 (t.toNat : Int), .string x1, .string x2], .string x3, .int .i64 0]) (by simp [results, Tryd.results40, go_sem, q0', q1', q2']) rfl ⟨by rw [HN.out]; rfl, hbz.drew⟩
end Go.Proofs.YtbafpgdmnkkclaaDoor
