/- DNSMatch, Match: the program's and the reference's. -/
import Derived.Test.YtodapmkdmkhhfaaGreatDoorHos2
import Derived.Test.YtodapmkdmkhhfaaGreatDoorRef1
import Derived.Deep.RegionHeld3
namespace Go.Proofs.YtodapmkdmkhhfaaGreatDoor
open Go.RowKit

def dmB (p s : List UInt8) : Bool := patB p && dnsB s && (eqF p s || (Lib.hasPrefix p [42, 46] && (Lib.cut s [46]).2.2 && eqF (Lib.cut s [46]).2.1 (p.drop 2)))
theorem dns_head {c : UInt8} {r : List UInt8} (h : dnsB (c :: r) = true) : c = 46 ∨ labC c = true := by
  by_cases hc : c = 46
  · exact .inl hc
  · right
    unfold dnsB at h
    rw [Bool.and_eq_true, splitC, if_neg hc] at h
    have h2 := h.2
    split at h2
    · simp [labB] at h2; exact h2.2
    · rw [List.all_cons, Bool.and_eq_true] at h2
      have h3 := h2.1
      simp only [labB, Bool.and_eq_true, List.all_cons] at h3
      exact h3.2.1
theorem dns_no_star {r : List UInt8} : dnsB (42 :: r) = false := by
  rw [Bool.eq_false_iff]
  intro h
  rcases dns_head h with h | h
  · cases h
  · revert h; decide
theorem low_star {c : UInt8} (h : low c = 42) : c = 42 := by
  by_cases hu : 65 ≤ (c.toNat : Int) ∧ (c.toNat : Int) ≤ 90
  · have h1 := low_toNat c hu
    rw [h] at h1
    have h2 : ((42 : UInt8).toNat : Int) = 42 := rfl
    omega
  · exact (low_same c hu).symm.trans h
theorem eqF_star {r s : List UInt8} (hs : dnsB s = true) : eqF (42 :: r) s = false := by
  rw [Bool.eq_false_iff]
  intro h
  unfold eqF at h
  have h := eq_of_beq h
  match s, h with
  | c :: s', h =>
    simp only [List.map_cons, List.cons.injEq] at h
    have hc : c = 42 := low_star (h.1.symm.trans (by decide))
    subst hc
    rw [dns_no_star] at hs
    cases hs
theorem dm_star (r s : List UInt8) (hs : dnsB s = true) : (eqF (42 :: 46 :: r) s || (Lib.hasPrefix (42 :: 46 :: r) [42, 46] && (Lib.cut s [46]).2.2 && eqF (Lib.cut s [46]).2.1 ((42 :: 46 :: r).drop 2))) = (decide (((splitC 46 s).headD []).length < s.length) && eqF (s.drop ((splitC 46 s).headD []).length) (46 :: r)) := by
  rw [eqF_star hs, Bool.false_or, show Lib.hasPrefix (42 :: 46 :: r) [42, 46] = true from rfl, Bool.true_and]
  unfold Lib.cut
  rw [Lib.index_one, splitC_index]
  rcases ib_cases s 46 with h | h
  · rw [if_neg (by omega), if_pos h]
    simp
  · obtain ⟨o, ho⟩ : ∃ o : Nat, Lib.indexByte s 46 = o := ⟨(Lib.indexByte s 46).toNat, by omega⟩
    obtain ⟨h1, -⟩ := Lib.indexByte_some ho
    obtain ⟨hol, hoe⟩ := List.getElem?_eq_some_iff.1 h1
    rw [if_pos h, if_neg (by omega), ho]
    simp only [Int.toNat_natCast, List.headD_cons, List.length_take, List.length_cons, List.length_nil, Bool.true_and, List.drop_succ_cons, List.drop_zero]
    rw [Nat.min_eq_left (by omega), decide_eq_true hol, Bool.true_and, List.drop_eq_getElem_cons hol, hoe]
    unfold eqF
    simp only [List.map_cons, List.cons_beq_cons, beq_self_eq_true, Bool.true_and]
theorem dm_plain (p s : List UInt8) (hp : p.head? ≠ some 42) : (eqF p s || (Lib.hasPrefix p [42, 46] && (Lib.cut s [46]).2.2 && eqF (Lib.cut s [46]).2.1 (p.drop 2))) = eqF p s := by
  have h : Lib.hasPrefix p [42, 46] = false := by
    rcases pat_form p with ⟨r, rfl⟩ | ⟨h, -⟩
    · exact absurd rfl hp
    · exact h
  rw [h]
  simp
theorem pat_head {p : List UInt8} (h : patB p = true) : (∃ r, p = 42 :: 46 :: r) ∨ (p.head? ≠ some 42 ∧ p ≠ []) := by
  rcases pat_form p with h1 | ⟨h1, -⟩
  · exact .inl h1
  · right
    rw [patB, if_neg (by rw [h1]; decide)] at h
    match p, h with
    | [], h => exact absurd h (by decide)
    | c :: r, h =>
      refine ⟨fun e => ?_, by simp⟩
      simp only [List.head?_cons, Option.some.injEq] at e
      subst e
      rw [dns_no_star] at h
      cases h

set_option maxHeartbeats 4000000 in
theorem hdm_any (p s : ByteArray) (hp : p.size ≤ 100000) (hs : s.size ≤ 100000) (q : Bool) (hq : dmB p.data.toList s.data.toList = q) (w : World) (hmx : Mx w) :
    Calls Tryz.prog 61 #[.string p, .string s] w fun e w' => e = .returned (.bool q) ∧ Below w.heap.size w w' := by
  obtain ⟨p1, hp1⟩ : ∃ x, patB p.data.toList = x := ⟨_, rfl⟩
  obtain ⟨p2, hp2⟩ : ∃ x, dnsB s.data.toList = x := ⟨_, rfl⟩
  obtain ⟨p3, hp3⟩ : ∃ x, eqF p.data.toList s.data.toList = x := ⟨_, rfl⟩
  obtain ⟨p4, hp4⟩ : ∃ x, Lib.hasPrefix p.data.toList [42, 46] = x := ⟨_, rfl⟩
  obtain ⟨rs, hrs⟩ : ∃ rs : ByteArray, rs = ⟨(Lib.trimPrefix p.data.toList [42, 46]).toArray⟩ := ⟨_, rfl⟩
  have CP := hide (fun W => hrs ▸ hp4 ▸ Tryz.strings_CutPrefix p ⟨#[42, 46]⟩ W)
  obtain ⟨a, ha⟩ : ∃ a : ByteArray, a.data.toList = (Lib.cut s.data.toList [46]).1 := ⟨⟨(Lib.cut s.data.toList [46]).1.toArray⟩, rfl⟩
  obtain ⟨b, hb⟩ : ∃ b : ByteArray, b.data.toList = (Lib.cut s.data.toList [46]).2.1 := ⟨⟨(Lib.cut s.data.toList [46]).2.1.toArray⟩, rfl⟩
  obtain ⟨f, hf⟩ : ∃ f, (Lib.cut s.data.toList [46]).2.2 = f := ⟨_, rfl⟩
  have hbs : b.size ≤ s.size := by
    rw [← size_string, ← size_string, hb]
    unfold Lib.cut
    split <;> simp
  have CT := hide (fun W hm => cut_v s (by omega) 46 W hm a b f ha hb hf)
  have hrz : rs.size ≤ 1000000 := by
    have : rs.data.toList = Lib.trimPrefix p.data.toList [42, 46] := by rw [hrs]
    rw [← size_string, this, Lib.trimPrefix]
    have := size_string p
    split
    · rw [List.length_drop]; omega
    · omega
  have hr2 : p4 = true → rs.data.toList = p.data.toList.drop 2 := fun h => by
    rw [hrs]
    show Lib.trimPrefix p.data.toList [42, 46] = _
    rw [Lib.trimPrefix, if_pos (hp4.trans h)]; rfl
  have HR2 := hide hr2
  have HN := hide (show (p1 && p2 && (p3 || (p4 && f && eqF b.data.toList (p.data.toList.drop 2)))) = q by rw [← hq, dmB, hp1, hp2, hp3, hp4, hf, hb])
  have HMX := hide hmx
  have HP1 := hide hp1
  have HP2 := hide hp2
  have HP3 := hide hp3
  clear hq hp1 hp2 hp3 hp4 hrs ha hb hf hmx hr2
  go_enter Tryz.func61, Tryz.ntmps61
  go_wp2_with fail
  refine (hpat_any p (by omega) p1 HP1.out _ HMX.out).mono ?_
  rintro e w1 ⟨rfl, hb1⟩
  have HB1 := hide hb1
  clear hb1
  cases p1
  · have HN9 := hide (show false = q from HN.out)
    go_wp2_with fail
    go_ret
    exact ⟨ret_bool HN9.out, HB1.out⟩
  · go_wp2_with fail
    refine (hdns_any s (by omega) p2 HP2.out _ (HMX.out.below HB1.out)).mono ?_
    rintro e w2 ⟨rfl, hb2⟩
    have HB2 := hide (HB1.out.trans (hb2.mono HB1.out.size))
    clear hb2
    cases p2
    · have HN9 := hide (show false = q from HN.out)
      go_wp2_with fail
      go_ret
      exact ⟨ret_bool HN9.out, HB2.out⟩
    · go_wp2_with fail
      refine (hequal_any p s (by omega) (by omega) p3 HP3.out _).mono ?_
      rintro e w3 ⟨rfl, hb3⟩
      have HB3 := hide (HB2.out.trans (hb3.mono HB2.out.size))
      clear hb3
      cases p3
      · go_wp2_with fail
        refine (CP.out _).mono ?_
        rintro e w4 ⟨rfl, rfl⟩
        go_wp2_with fail
        refine (CT.out _ (HMX.out.below HB3.out)).mono ?_
        rintro e w5 ⟨rfl, nn, hw5⟩
        have HB5 := hide (show Below w.heap.size w w5 by rw [hw5]; exact below_drewN HB3.out nn)
        clear hw5
        cases p4
        · have HN9 := hide (show false = q from (show (true && true && (false || (false && f && eqF b.data.toList (p.data.toList.drop 2)))) = q from HN.out) ▸ (by simp))
          go_wp2_with fail
          go_ret
          exact ⟨ret_bool HN9.out, HB5.out⟩
        · cases f
          · have HN9 := hide (show false = q from (show (true && true && (false || (true && false && eqF b.data.toList (p.data.toList.drop 2)))) = q from HN.out) ▸ (by simp))
            go_wp2_with fail
            go_ret
            exact ⟨ret_bool HN9.out, HB5.out⟩
          · have HE := hide (show eqF b.data.toList rs.data.toList = q by rw [HR2.out rfl]; exact HN.out)
            go_wp2_with fail
            refine (hequal_any b rs (by omega) hrz q HE.out _).mono ?_
            rintro e w6 ⟨rfl, hb6⟩
            have HB6 := hide (HB5.out.trans (hb6.mono HB5.out.size))
            clear hb6
            go_wp2_with fail
            go_ret
            exact ⟨rfl, HB6.out⟩
      · have HE := hide (show true = q from HN.out)
        go_wp2_with fail
        go_ret
        exact ⟨ret_bool HE.out, HB3.out⟩
theorem rdm_eq (p s : List UInt8) : dmB p s = (patB p && dnsB s && (if p.head? = some 42 then decide (((splitC 46 s).headD []).length < s.length) && eqF (s.drop ((splitC 46 s).headD []).length) (p.drop 1) else eqF p s)) := by
  unfold dmB
  cases h1 : patB p with
  | false => simp
  | true =>
    cases h2 : dnsB s with
    | false => simp
    | true =>
      simp only [Bool.true_and]
      rcases pat_head h1 with ⟨r, rfl⟩ | ⟨h, -⟩
      · rw [dm_star r s h2, if_pos (by rfl)]; rfl
      · rw [dm_plain p s h, if_neg h]
set_option maxRecDepth 100000 in
set_option maxHeartbeats 4000000 in
theorem rdm_any (p s : ByteArray) (hp : p.size ≤ 100000) (hs : s.size ≤ 100000) (q : Bool) (hq : dmB p.data.toList s.data.toList = q) (w : World) :
    Calls Tryz.prog 62 #[.string p, .string s] w fun e w' => e = .returned (.bool q) ∧ Below w.heap.size w w' := by
  rw [rdm_eq] at hq
  obtain ⟨p1, hp1⟩ : ∃ x, patB p.data.toList = x := ⟨_, rfl⟩
  obtain ⟨p2, hp2⟩ : ∃ x, dnsB s.data.toList = x := ⟨_, rfl⟩
  have HP1 := hide hp1
  have HP2 := hide hp2
  have HN := hide (show (p1 && p2 && (if p.data.toList.head? = some 42 then decide (((splitC 46 s.data.toList).headD []).length < s.data.toList.length) && eqF (s.data.toList.drop ((splitC 46 s.data.toList).headD []).length) (p.data.toList.drop 1) else eqF p.data.toList s.data.toList)) = q by rw [← hq, hp1, hp2])
  have HPH := hide (show p1 = true → 0 < p.size from fun h => by
    rcases pat_head (hp1.trans h) with ⟨r, hr⟩ | ⟨-, hr⟩
    · rw [← size_string, hr]; simp
    · rw [← size_string]; exact List.length_pos_iff.2 hr)
  clear hq hp1 hp2
  go_enter Tryz.func62, Tryz.ntmps62
  go_wp2_with fail
  refine (rpattern_any p (by omega) p1 HP1.out _).mono ?_
  rintro e w1 ⟨rfl, hb1⟩
  have HB1 := hide hb1
  clear hb1
  cases p1
  · have HN9 := hide (show false = q from HN.out)
    go_wp2_with fail
    go_ret
    exact ⟨ret_bool HN9.out, HB1.out⟩
  · go_wp2_with fail
    refine (rdns_any s (by omega) p2 HP2.out _).mono ?_
    rintro e w2 ⟨rfl, hb2⟩
    have HB2 := hide (HB1.out.trans (hb2.mono HB1.out.size))
    clear hb2
    cases p2
    · have HN9 := hide (show false = q from HN.out)
      go_wp2_with fail
      go_ret
      exact ⟨ret_bool HN9.out, HB2.out⟩
    · have hp0 := HPH.out (by first | rfl | trivial)
      have hhd : p.data.toList.head? = some p[0] := by rw [List.head?_eq_getElem?, List.getElem?_eq_getElem (by simpa using hp0)]; rfl
      by_cases hc : p[0] = 42
      · have t1 : ((p[0].toNat : Int) != 42) = false := by rw [hc]; rfl
        obtain ⟨ps, hps⟩ : ∃ ps, splitC 46 s.data.toList = ps := ⟨_, rfl⟩
        have hne : 0 < ps.length := by rw [← hps]; exact List.length_pos_iff.2 (splitC_ne 46 _)
        obtain ⟨lab, hlab⟩ : ∃ lab, ps[0] = lab := ⟨_, rfl⟩
        have hhl : ps.headD [] = lab := by rw [← hlab]; cases ps with | nil => simp at hne | cons a b => rfl
        have hll : lab.length ≤ s.size := by
          have := splitC_mem_len 46 s.data.toList lab (by rw [hps, ← hlab]; exact List.getElem_mem hne)
          rw [size_string] at this; exact this
        have HN2 := hide (show (decide (lab.length < s.size) && eqF (s.data.toList.drop lab.length) (p.data.toList.drop 1)) = q by
          rw [← HN.out, hhd, hc, if_pos rfl, hps, hhl, size_string]; rfl)
        have SP := hide (fun W => hps ▸ rSplit_any s (by omega) 46 W)
        have HLAB := hide hlab
        clear hhd hc hps hhl hlab
        go_wp2_with fail
        refine (SP.out _).mono ?_
        rintro e w3 ⟨v, rfl, hb3, hsl⟩
        obtain ⟨A, cc, hv⟩ := hsl.shape
        subst hv
        obtain ⟨bk, off, xs, hA, hbS, hx, hcell⟩ := hsl.at_ hne
        subst hA
        have hxs : xs = strC ps[0] := hx
        rw [hxs, HLAB.out] at hcell
        obtain ⟨la, hla⟩ : ∃ la : ByteArray, la = ⟨lab.toArray⟩ := ⟨_, rfl⟩
        have e0 : w3.cell? ⟨bk, off, none⟩ = some (.string la) := by
          have := hcell 0 (.string la) (by rw [hla]; rfl)
          simpa using this
        have hlal : la.size = lab.length := by rw [hla, ← size_string]
        have HB3 := hide (HB2.out.trans (hb3.mono HB2.out.size))
        have HLA := hide hlal
        have hne' : (0 : Int) < (ps.length : Int) := by omega
        clear hb3 hsl hbS hx hcell hxs hla
        by_cases hlt : la.size < s.size
        · obtain ⟨x, hx⟩ : ∃ x : ByteArray, x = s.extract la.size s.size := ⟨_, rfl⟩
          obtain ⟨y, hy⟩ : ∃ y : ByteArray, y = p.extract 1 p.size := ⟨_, rfl⟩
          have hxl : x.data.toList = s.data.toList.drop lab.length := by
            rw [hx, Lib.extract_data, List.take_of_length_le, hlal]
            rw [List.length_drop, size_string]; omega
          have hyl : y.data.toList = p.data.toList.drop 1 := by
            rw [hy, Lib.extract_data, List.take_of_length_le]
            rw [List.length_drop, size_string]; omega
          have hxs : x.size ≤ 1000000 := by rw [hx, ba_size_ex _ _ _ (Nat.le_refl _)]; omega
          have hys : y.size ≤ 1000000 := by rw [hy, ba_size_ex _ _ _ (Nat.le_refl _)]; omega
          have S1 : ∀ W : World, (Instr.slice 9 (.string s) (some (.int .i64 (la.size : Int))) none none).run Tryz.prog W = .ok (.string x) W := fun W => by
            rw [run_slice_string_l (P := Tryz.prog) W 9 s Tryz.underlying9 .i64 (la.size : Int) (by omega) (by omega), hx, Int.toNat_natCast]
          have S2 : ∀ W : World, (Instr.slice 9 (.string p) (some (.int .i64 1)) none none).run Tryz.prog W = .ok (.string y) W := fun W => by
            rw [run_slice_string_l (P := Tryz.prog) W 9 p Tryz.underlying9 .i64 1 (by omega) (by omega), hy]; rfl
          have HE := hide (show eqF x.data.toList y.data.toList = q by rw [hxl, hyl, ← HN2.out, ← hlal, decide_eq_true hlt]; rfl)
          have hlt' : (la.size : Int) < (s.size : Int) := by omega
          have AL := hide (fun W => ralike_any x y hxs hys q HE.out W)
          clear hx hy hxl hyl hxs hys hlal
          go_upto_region 6 with (fail)
          go_region_held3 (fun W => Below w3.heap.size w3 W)
            (first | exact hs1 | exact (Below.refl _ _).drew | exact Below.refl _ _)
            (first
              | (go_at_call 59; refine (AL.out _).mono ?_; rintro e w5 ⟨rfl, hb5⟩; have hs1 := ((Below.refl w3.heap.size w3).drew).trans (hb5.mono (Nat.le_refl _)))
              | fail)
          all_goals
            go_wp2_with fail
            go_ret
            exact ⟨rfl, HB3.out.trans (hs1.mono HB3.out.size)⟩
        · have HE := hide (show false = q by rw [← HN2.out, ← hlal, decide_eq_false hlt]; rfl)
          have hlt' : ¬ (la.size : Int) < (s.size : Int) := by omega
          clear hlal
          go_upto_region 6 with (fail)
          go_quiet (fail)
          go_wp2_with fail
          go_ret
          exact ⟨ret_bool HE.out, below_drewN HB3.out _⟩
      · have t1 : ((p[0].toNat : Int) != 42) = true := by
          rw [bne_iff_ne]
          intro h
          exact hc (UInt8.toNat_inj.1 (by have : p[0].toNat = 42 := by omega
                                          exact this))
        have HE := hide (show eqF p.data.toList s.data.toList = q by
          rw [← HN.out, hhd, if_neg (by simpa using hc)]; rfl)
        clear hhd hc
        go_wp2_with fail
        refine (ralike_any p s (by omega) (by omega) q HE.out _).mono ?_
        rintro e w3 ⟨rfl, hb3⟩
        have HB3 := hide (HB2.out.trans (hb3.mono HB2.out.size))
        clear hb3
        go_wp2_with fail
        go_ret
        exact ⟨rfl, HB3.out⟩
end Go.Proofs.YtodapmkdmkhhfaaGreatDoor
