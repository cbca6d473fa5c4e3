/- The functions of package host: local, Mail, MailBase. -/
import Derived.Test.YtodapmkdmkhhfaaGreatDoorHos1
import Derived.Laws.BitsAllLaws
namespace Go.Proofs.YtodapmkdmkhhfaaGreatDoor
open Go.RowKit

def locSet : List UInt8 := [33, 35, 36, 37, 38, 39, 42, 43, 45, 47, 61, 63, 94, 95, 96, 123, 124, 125, 126, 46]
def locC (c : UInt8) : Bool := isLet c || hDig c || locSet.contains c
def locB (s : List UInt8) : Bool := decide (1 ≤ s.length) && decide (s.length ≤ 64) && !(s.getD 0 0 == 46) && !(s.getD (s.length - 1) 0 == 46) && !(Lib.contains s [46, 46]) && s.all locC

theorem ibyte_any (c : UInt8) (p : Bool) (hp : locSet.contains c = p) (w : World) :
    Calls Tryz.prog 109 #[.string ⟨#[33, 35, 36, 37, 38, 39, 42, 43, 45, 47, 61, 63, 94, 95, 96, 123, 124, 125, 126, 46]⟩, .int .u8 (c.toNat : Int)] w fun e w' => ∃ n : Int, e = .returned (.int .i64 n) ∧ decide (0 ≤ n) = p ∧ w = w' :=
  (Tryz.strings_IndexByte ⟨#[33, 35, 36, 37, 38, 39, 42, 43, 45, 47, 61, 63, 94, 95, 96, 123, 124, 125, 126, 46]⟩ (c.toNat : Int) w).mono fun e w' ⟨he, hw⟩ => ⟨_, he, by rw [← hp]; exact indexByte_ge0 locSet c, hw.symm⟩

set_option maxHeartbeats 4000000 in
theorem hlocal_any (s : ByteArray) (hs : s.size ≤ 1000000) (q : Bool) (hq : locB s.data.toList = q) (w : World) (hmx : Mx w) :
    Calls Tryz.prog 78 #[.string s] w fun e w' => e = .returned (.bool q) ∧ Below w.heap.size w w' := by
  have hss := size_string s
  by_cases h1 : 1 ≤ s.size
  · by_cases h2 : s.size ≤ 64
    · have hq2 : q = (!(s[0] == 46) && !(s[s.size - 1] == 46) && !(Lib.contains s.data.toList [46, 46]) && s.data.toList.all locC) := by
        rw [← hq, locB, hss, decide_eq_true h1, decide_eq_true h2, getD_str s 0 (by omega), getD_str s (s.size - 1) (by omega)]; rfl
      have hn1 : ¬ s.size < 1 := by omega
      have hn2 : ¬ 64 < s.size := by omega
      have hp0 : 0 < s.size := by omega
      have hp1 : s.size - 1 < s.size := by omega
      by_cases h3 : s[0] = 46
      · have t3 : ((s[0].toNat : Int) == 46) = true := by rw [h3]; rfl
        have HN := hide (show q = false by rw [hq2, h3]; rfl)
        clear h3 hq2
        go_enter Tryz.func78, Tryz.ntmps78
        go_wp2_with fail
        go_ret
        exact ⟨ret_bool HN.out.symm, Below.refl _ _⟩
      · have t3 : ((s[0].toNat : Int) == 46) = false := (byte_beq s[0] 46).trans (by simpa using h3)
        have hix : ∀ W : World, (Instr.index 9 (.string s) (.int .i64 ((s.size : Int) - 1))).run Tryz.prog W = .ok (.int .u8 (s[s.size - 1].toNat : Int)) W := fun W => by
          have h9 := run_index_string (P := Tryz.prog) (w := W) 9 s .i64 ((s.size : Int) - 1) Tryz.underlying9
          rw [h9, dif_pos (by omega)]
          have h8 : ((s.size : Int) - 1).toNat = s.size - 1 := by omega
          simp only [h8]
        obtain ⟨cl, hcl⟩ : ∃ cl, s[s.size - 1] = cl := ⟨_, rfl⟩
        rw [hcl] at hix hq2
        by_cases h4 : cl = 46
        · have t4 : ((cl.toNat : Int) == 46) = true := by rw [h4]; rfl
          have HN := hide (show q = false by rw [hq2, h4]; simp)
          clear h3 h4 hq2 hcl
          go_enter Tryz.func78, Tryz.ntmps78
          go_wp2_with fail
          go_ret
          exact ⟨ret_bool HN.out.symm, Below.refl _ _⟩
        · have t4 : ((cl.toNat : Int) == 46) = false := (byte_beq cl 46).trans (by simpa using h4)
          obtain ⟨pc, hpc⟩ : ∃ p, Lib.contains s.data.toList [46, 46] = p := ⟨_, rfl⟩
          have HN := hide (show q = (!pc && s.data.toList.all locC) by
            have e3 : (s[0] == 46) = false := by simpa using h3
            have e4 : (cl == 46) = false := by simpa using h4
            rw [hq2, e3, e4, hpc]; rfl)
          obtain ⟨m, hm0⟩ := hmx
          have CT := hide (fun W hm => hpc ▸ Tryz.strings_Contains s ⟨#[46, 46]⟩ m W (by omega) hm)
          have HM0 := hide hm0
          clear h3 h4 hq2 hcl hm0 hpc
          obtain ⟨l, hl⟩ : ∃ l, s.data.toList = l := ⟨_, rfl⟩
          rw [hl] at HN hss
          have HL := hide hl
          have hm : l.length ≤ maxLen := by unfold maxLen; omega
          have hll : l.length ≤ 64 := by omega
          clear hl hq
          go_enter Tryz.func78, Tryz.ntmps78
          go_wp2_with fail
          refine (CT.out _ HM0.out).mono ?_
          rintro e w0 ⟨rfl, rfl⟩
          cases pc
          · have HN2 := hide (show q = l.all locC from HN.out.trans (by simp))
            go_wp2_with (with_reducible refine wpList_str_bts _ rfl (.tmp 31) 9 86 5 rfl Tryz.underlying9 Tryz.underlying86 Tryz.underlying5 s rfl l HL.out hm ?_; intro g c w1 hg1 hg2 hb1 hby hc1 hc2)
            clear t3 t4 hix
            go_loopw [34] (fun i wr => ∃ k : Nat, k ≤ l.length ∧ i = .int .i64 k ∧ BytesAt wr 5 g l ∧ Below w0.heap.size w0 wr ∧ Hid (q = (l.drop k).all locC)) (fun i _ => l.length - (intOf i).toNat)
            case atStart => exact ⟨0, Nat.zero_le _, rfl, hby, hb1, HN2⟩
            case round =>
              obtain ⟨k, hk, rfl, hbyr, hbr, H⟩ := hrel
              by_cases hlt : k < l.length
              · have hcell := hbyr.cell hlt
                obtain ⟨b, hbk⟩ : ∃ b, l[k] = b := ⟨_, rfl⟩
                rw [hbk] at hcell
                have HX := hide (show q = (locC b && (l.drop (k + 1)).all locC) by rw [H.out, List.drop_eq_getElem_cons hlt, List.all_cons, hbk])
                clear hbk
                obtain ⟨p1, hp1⟩ : ∃ p, isLet b = p := ⟨_, rfl⟩
                obtain ⟨p2, hp2⟩ : ∃ p, hDig b = p := ⟨_, rfl⟩
                obtain ⟨p3, hp3⟩ : ∃ p, locSet.contains b = p := ⟨_, rfl⟩
                have P1 := hide hp1
                have P2 := hide hp2
                have P3 := hide hp3
                have HX2 := hide (show q = ((p1 || p2 || p3) && (l.drop (k + 1)).all locC) by rw [HX.out, locC, hp1, hp2, hp3])
                clear hp1 hp2 hp3
                go_wp2_with fail
                refine (hletter_v b p1 P1.out _).mono ?_
                rintro e w5 ⟨rfl, rfl⟩
                cases p1
                · go_wp2_with fail
                  refine (hdigit_v b p2 P2.out _).mono ?_
                  rintro e w5 ⟨rfl, rfl⟩
                  cases p2
                  · go_wp2_with fail
                    refine (ibyte_any b p3 P3.out _).mono ?_
                    rintro e w5 ⟨nn, rfl, hnn, rfl⟩
                    cases p3
                    · have HY := hide (show q = false from HX2.out.trans (by simp))
                      go_wp2_with fail
                      go_ret
                      exact ⟨ret_bool HY.out.symm, hbr⟩
                    · have HY := hide (show q = (l.drop (k + 1)).all locC from HX2.out.trans (by simp))
                      go_wp2_with fail
                      go_roundw
                      case rel => exact ⟨k + 1, by omega, by go_num, hbyr, hbr, HY⟩
                      case measure => simp [intOf]; omega
                  · have HY := hide (show q = (l.drop (k + 1)).all locC from HX2.out.trans (by simp))
                    go_wp2_with fail
                    go_roundw
                    case rel => exact ⟨k + 1, by omega, by go_num, hbyr, hbr, HY⟩
                    case measure => simp [intOf]; omega
                · have HY := hide (show q = (l.drop (k + 1)).all locC from HX2.out.trans (by simp))
                  go_wp2_with fail
                  go_roundw
                  case rel => exact ⟨k + 1, by omega, by go_num, hbyr, hbr, HY⟩
                  case measure => simp [intOf]; omega
              · have HY := hide (show q = true by rw [H.out, List.drop_of_length_le (by omega)]; rfl)
                go_wp2_with fail
                go_ret
                exact ⟨ret_bool HY.out.symm, hbr⟩
          · have HY := hide (show q = false from HN.out.trans (by simp))
            go_wp2_with fail
            go_ret
            exact ⟨ret_bool HY.out.symm, Below.refl _ _⟩
    · have HN := hide (show q = false from by rw [← hq, locB, hss, decide_eq_false h2]; simp)
      go_enter Tryz.func78, Tryz.ntmps78
      go_wp2_with fail
      go_ret
      exact ⟨ret_bool HN.out.symm, Below.refl _ _⟩
  · have HN := hide (show q = false from by rw [← hq, locB, hss, decide_eq_false h1]; simp)
    go_enter Tryz.func78, Tryz.ntmps78
    go_wp2_with fail
    go_ret
    exact ⟨ret_bool HN.out.symm, Below.refl _ _⟩
end Go.Proofs.YtodapmkdmkhhfaaGreatDoor

/- The functions of package host: Mail, MailBase, MailMatch, MailWithin. -/
namespace Go.Proofs.YtodapmkdmkhhfaaGreatDoor
open Go.RowKit

def cutA (s : List UInt8) : List UInt8 × List UInt8 × Bool := Lib.cut s [64]
theorem cutA_len (s : List UInt8) : (cutA s).1.length ≤ s.length ∧ (cutA s).2.1.length ≤ s.length := by
  unfold cutA Lib.cut
  split
  · simp; omega
  · simp
/-- strings.Cut at '@' -/
theorem cutA_v (s : ByteArray) (hs : s.size ≤ 1000000) : ∃ (a b : ByteArray) (f : Bool), Hid (a.data.toList = (cutA s.data.toList).1 ∧ b.data.toList = (cutA s.data.toList).2.1 ∧ (cutA s.data.toList).2.2 = f) ∧ a.size ≤ s.size ∧ b.size ≤ s.size ∧
    ∀ W, Mx W → Calls Tryz.prog 77 #[.string s, .string ⟨#[64]⟩] W fun e w' => e = .returned (.tuple #[.string a, .string b, .bool f]) ∧ ∃ n, w' = W.drewN n := by
  obtain ⟨h1, h2⟩ := cutA_len s.data.toList
  rw [size_string] at h1 h2
  exact ⟨⟨(cutA s.data.toList).1.toArray⟩, ⟨(cutA s.data.toList).2.1.toArray⟩, _, hide ⟨rfl, rfl, rfl⟩, h1, h2, fun W hm => cut_v s hs 64 W hm _ _ _ rfl rfl rfl⟩
def mailB (s : List UInt8) : Bool := (cutA s).2.2 && decide (s.length ≤ 128) && locB (cutA s).1 && dnsB (cutA s).2.1

set_option maxHeartbeats 2000000 in
theorem hmail_any (s : ByteArray) (hs : s.size ≤ 1000000) (q : Bool) (hq : mailB s.data.toList = q) (w : World) (hmx : Mx w) :
    Calls Tryz.prog 53 #[.string s] w fun e w' => e = .returned (.bool q) ∧ Below w.heap.size w w' := by
  have hss := size_string s
  obtain ⟨a, b, f, HC, ha, hb, hcut⟩ := cutA_v s hs
  obtain ⟨p1, hp1⟩ : ∃ p, locB a.data.toList = p := ⟨_, rfl⟩
  obtain ⟨p2, hp2⟩ : ∃ p, dnsB b.data.toList = p := ⟨_, rfl⟩
  have HN := hide (show (f && decide (s.size ≤ 128) && p1 && p2) = q by
    obtain ⟨h1, h2, h3⟩ := HC.out
    rw [← hq, mailB, ← h1, ← h2, h3, hp1, hp2, hss])
  have CUT := hide hcut
  have HMX := hide hmx
  have HP1 := hide hp1
  have HP2 := hide hp2
  clear hq hcut hmx hp1 hp2 hss
  cases f
  · go_enter Tryz.func53, Tryz.ntmps53
    go_wp2_with fail
    refine (CUT.out _ HMX.out).mono ?_
    rintro e w1 ⟨rfl, nn, hw1⟩
    have HB1 := hide (show Below w.heap.size w w1 by rw [hw1]; exact below_drewN (Below.refl _ _) nn)
    clear hw1
    go_wp2_with fail
    go_ret
    exact ⟨ret_bool (by rw [← HN.out]; rfl), HB1.out⟩
  · by_cases h1 : s.size ≤ 128
    · have HN2 := hide (show (p1 && p2) = q by rw [← HN.out, decide_eq_true h1]; rfl)
      go_enter Tryz.func53, Tryz.ntmps53
      go_wp2_with fail
      refine (CUT.out _ HMX.out).mono ?_
      rintro e w1 ⟨rfl, nn, hw1⟩
      have HB1 := hide (show Below w.heap.size w w1 by rw [hw1]; exact below_drewN (Below.refl _ _) nn)
      clear hw1
      go_wp2_with fail
      refine (hlocal_any a (by omega) p1 HP1.out _ (HMX.out.below HB1.out)).mono ?_
      rintro e w2 ⟨rfl, hb2⟩
      have HB2 := hide (HB1.out.trans (hb2.mono HB1.out.size))
      clear hb2
      cases p1
      · go_wp2_with fail
        go_ret
        exact ⟨ret_bool (by rw [← HN2.out]; rfl), HB2.out⟩
      · go_wp2_with fail
        refine (hdns_any b (by omega) p2 HP2.out _ (HMX.out.below HB2.out)).mono ?_
        rintro e w3 ⟨rfl, hb3⟩
        go_wp2_with fail
        go_ret
        exact ⟨ret_bool (by rw [← HN2.out]; rfl), HB2.out.trans (hb3.mono HB2.out.size)⟩
    · have HN2 := hide (show false = q by rw [← HN.out, decide_eq_false h1]; rfl)
      go_enter Tryz.func53, Tryz.ntmps53
      go_wp2_with fail
      refine (CUT.out _ HMX.out).mono ?_
      rintro e w1 ⟨rfl, nn, hw1⟩
      have HB1 := hide (show Below w.heap.size w w1 by rw [hw1]; exact below_drewN (Below.refl _ _) nn)
      clear hw1
      go_wp2_with fail
      go_ret
      exact ⟨ret_bool HN2.out, HB1.out⟩

def mbB (s : List UInt8) : Bool := decide (s.length ≤ 128) && (mailB s || dnsB (Lib.trimPrefix s [46]))
theorem trim_len (s p : List UInt8) : (Lib.trimPrefix s p).length ≤ s.length := by
  unfold Lib.trimPrefix
  split
  · simp
  · exact Nat.le_refl _
set_option maxHeartbeats 2000000 in
theorem hmb_any (s : ByteArray) (hs : s.size ≤ 1000000) (q : Bool) (hq : mbB s.data.toList = q) (w : World) (hmx : Mx w) :
    Calls Tryz.prog 87 #[.string s] w fun e w' => e = .returned (.bool q) ∧ Below w.heap.size w w' := by
  have hss := size_string s
  obtain ⟨t, ht⟩ : ∃ t : ByteArray, t = ⟨(Lib.trimPrefix s.data.toList [46]).toArray⟩ := ⟨_, rfl⟩
  have ht2 : t.data.toList = Lib.trimPrefix s.data.toList [46] := by rw [ht]
  have hts : t.size ≤ s.size := by
    have := trim_len s.data.toList [46]
    rwa [← ht2, size_string, hss] at this
  obtain ⟨p1, hp1⟩ : ∃ p, mailB s.data.toList = p := ⟨_, rfl⟩
  obtain ⟨p2, hp2⟩ : ∃ p, dnsB t.data.toList = p := ⟨_, rfl⟩
  have HN := hide (show (decide (s.size ≤ 128) && (p1 || p2)) = q by rw [← hq, mbB, ← ht2, hp1, hp2, hss])
  have TP := hide (fun W => ht ▸ Tryz.strings_TrimPrefix s ⟨#[46]⟩ W)
  have HMX := hide hmx
  have HP1 := hide hp1
  have HP2 := hide hp2
  clear hq hmx hp1 hp2 hss ht ht2
  by_cases h1 : s.size ≤ 128
  · have HN2 := hide (show (p1 || p2) = q by rw [← HN.out, decide_eq_true h1]; rfl)
    go_enter Tryz.func87, Tryz.ntmps87
    go_wp2_with fail
    refine (hmail_any s hs p1 HP1.out _ HMX.out).mono ?_
    rintro e w1 ⟨rfl, hb1⟩
    have HB1 := hide hb1
    clear hb1
    cases p1
    · go_wp2_with fail
      refine (TP.out _).mono ?_
      rintro e w2 ⟨rfl, rfl⟩
      go_wp2_with fail
      refine (hdns_any t (by omega) p2 HP2.out _ (HMX.out.below HB1.out)).mono ?_
      rintro e w3 ⟨rfl, hb3⟩
      go_wp2_with fail
      go_ret
      exact ⟨ret_bool (by rw [← HN2.out]; rfl), HB1.out.trans (hb3.mono HB1.out.size)⟩
    · go_wp2_with fail
      go_ret
      exact ⟨ret_bool (by rw [← HN2.out]; rfl), HB1.out⟩
  · have HN2 := hide (show false = q by rw [← HN.out, decide_eq_false h1]; rfl)
    go_enter Tryz.func87, Tryz.ntmps87
    go_wp2_with fail
    go_ret
    exact ⟨ret_bool HN2.out, Below.refl _ _⟩

def mmB (a b : List UInt8) : Bool := mailB a && mailB b && ((cutA a).1 == (cutA b).1 && eqF (cutA a).2.1 (cutA b).2.1)
set_option maxHeartbeats 4000000 in
theorem hmm_any (a b : ByteArray) (ha : a.size ≤ 1000000) (hb : b.size ≤ 1000000) (q : Bool) (hq : mmB a.data.toList b.data.toList = q) (w : World) (hmx : Mx w) :
    Calls Tryz.prog 54 #[.string a, .string b] w fun e w' => e = .returned (.bool q) ∧ Below w.heap.size w w' := by
  obtain ⟨a1, a2, f, HC, ha1, ha2, hcut⟩ := cutA_v a ha
  obtain ⟨b1, b2, g, HD, hb1, hb2, hcut2⟩ := cutA_v b hb
  obtain ⟨p1, hp1⟩ : ∃ p, mailB a.data.toList = p := ⟨_, rfl⟩
  obtain ⟨p2, hp2⟩ : ∃ p, mailB b.data.toList = p := ⟨_, rfl⟩
  obtain ⟨p3, hp3⟩ : ∃ p, eqF a2.data.toList b2.data.toList = p := ⟨_, rfl⟩
  have HN := hide (show (p1 && p2 && ((a1.data.toList == b1.data.toList) && p3)) = q by
    obtain ⟨h1, h2, -⟩ := HC.out
    obtain ⟨h3, h4, -⟩ := HD.out
    rw [← hq, mmB, hp1, hp2, ← h1, ← h2, ← h3, ← h4, hp3])
  have CUT := hide hcut
  have CUT2 := hide hcut2
  have HMX := hide hmx
  have HP1 := hide hp1
  have HP2 := hide hp2
  have HP3 := hide hp3
  clear hq hcut hcut2 hmx hp1 hp2 hp3
  go_enter Tryz.func54, Tryz.ntmps54
  go_wp2_with fail
  refine (hmail_any a ha p1 HP1.out _ HMX.out).mono ?_
  rintro e w1 ⟨rfl, hw1⟩
  have HB1 := hide hw1
  clear hw1
  cases p1
  · go_wp2_with fail
    go_ret
    exact ⟨ret_bool (by rw [← HN.out]; rfl), HB1.out⟩
  · go_wp2_with fail
    refine (hmail_any b hb p2 HP2.out _ (HMX.out.below HB1.out)).mono ?_
    rintro e w2 ⟨rfl, hw2⟩
    have HB2 := hide (HB1.out.trans (hw2.mono HB1.out.size))
    clear hw2
    cases p2
    · go_wp2_with fail
      go_ret
      exact ⟨ret_bool (by rw [← HN.out]; rfl), HB2.out⟩
    · go_wp2_with fail
      refine (CUT.out _ (HMX.out.below HB2.out)).mono ?_
      rintro e w3 ⟨rfl, nn, hw3⟩
      have HB3 := hide (show Below w.heap.size w w3 by rw [hw3]; exact below_drewN HB2.out nn)
      clear hw3
      go_wp2_with fail
      refine (CUT2.out _ (HMX.out.below HB3.out)).mono ?_
      rintro e w4 ⟨rfl, nm, hw4⟩
      have HB4 := hide (show Below w.heap.size w w4 by rw [hw4]; exact below_drewN HB3.out nm)
      clear hw4
      by_cases heq : a1.toList = b1.toList
      · have t1 : (a1.toList == b1.toList) = true := by simpa using heq
        have HN2 := hide (show p3 = q by rw [← HN.out, show (a1.data.toList == b1.data.toList) = true by simpa using (str_eq a1 b1).1 heq]; rfl)
        clear heq
        go_wp2_with fail
        refine (hequal_any a2 b2 (by omega) (by omega) p3 HP3.out _).mono ?_
        rintro e w5 ⟨rfl, hw5⟩
        go_wp2_with fail
        go_ret
        exact ⟨ret_bool HN2.out, HB4.out.trans (hw5.mono HB4.out.size)⟩
      · have t1 : (a1.toList == b1.toList) = false := by simpa using heq
        have HN2 := hide (show false = q by rw [← HN.out, show (a1.data.toList == b1.data.toList) = false from beq_eq_false_iff_ne.2 (fun e => heq ((str_eq a1 b1).2 e))]; rfl)
        go_wp2_with fail
        go_ret
        exact ⟨ret_bool HN2.out, HB4.out⟩
end Go.Proofs.YtodapmkdmkhhfaaGreatDoor

/- The functions of package host: MailWithin, Address, halves. -/
namespace Go.Proofs.YtodapmkdmkhhfaaGreatDoor
open Go.RowKit

def whereS (s : List UInt8) : List UInt8 := if (cutA s).2.2 = true then (cutA s).2.1 else s
def mwB (s b : List UInt8) : Bool := mbB b && mbB s && (if mailB b = true then mmB s b else eqF (whereS s) b || (b.getD 0 0 == 46 && endsF (whereS s) b))
theorem mb_nil : mbB [] = false := by decide +kernel


set_option maxHeartbeats 4000000 in
theorem hmw_any (s b : ByteArray) (hs : s.size ≤ 1000000) (hb : b.size ≤ 1000000) (q : Bool) (hq : mwB s.data.toList b.data.toList = q) (w : World) (hmx : Mx w) :
    Calls Tryz.prog 63 #[.string s, .string b] w fun e w' => e = .returned (.bool q) ∧ Below w.heap.size w w' := by
  obtain ⟨a1, a2, f, HC, ha1, ha2, hcut⟩ := cutA_v s hs
  obtain ⟨p1, hp1⟩ : ∃ p, mbB b.data.toList = p := ⟨_, rfl⟩
  obtain ⟨p2, hp2⟩ : ∃ p, mbB s.data.toList = p := ⟨_, rfl⟩
  obtain ⟨p3, hp3⟩ : ∃ p, mailB b.data.toList = p := ⟨_, rfl⟩
  have HN := hide (show (p1 && p2 && (if p3 = true then mmB s.data.toList b.data.toList else eqF (whereS s.data.toList) b.data.toList || (b.data.toList.getD 0 0 == 46 && endsF (whereS s.data.toList) b.data.toList))) = q by rw [← hq, mwB, hp1, hp2, hp3])
  have CUT := hide hcut
  have HMX := hide hmx
  have HP1 := hide hp1
  have HP2 := hide hp2
  have HP3 := hide hp3
  clear hq hcut hmx hp1 hp2 hp3
  go_enter Tryz.func63, Tryz.ntmps63
  go_wp2_with fail
  refine (hmb_any b hb p1 HP1.out _ HMX.out).mono ?_
  rintro e w1 ⟨rfl, hw1⟩
  have HB1 := hide hw1
  clear hw1
  cases p1
  · go_wp2_with fail
    go_ret
    exact ⟨ret_bool (by rw [← HN.out]; rfl), HB1.out⟩
  · have hpos : 0 < b.size := by
      rcases Nat.eq_zero_or_pos b.size with h | h
      · have h1 := HP1.out
        rw [List.eq_nil_of_length_eq_zero (by rw [size_string, h] : b.data.toList.length = 0), mb_nil] at h1
        cases h1
      · exact h
    go_wp2_with fail
    refine (hmb_any s hs p2 HP2.out _ (HMX.out.below HB1.out)).mono ?_
    rintro e w2 ⟨rfl, hw2⟩
    have HB2 := hide (HB1.out.trans (hw2.mono HB1.out.size))
    clear hw2
    cases p2
    · go_wp2_with fail
      go_ret
      exact ⟨ret_bool (by rw [← HN.out]; rfl), HB2.out⟩
    · go_wp2_with fail
      refine (hmail_any b hb p3 HP3.out _ (HMX.out.below HB2.out)).mono ?_
      rintro e w3 ⟨rfl, hw3⟩
      have HB3 := hide (HB2.out.trans (hw3.mono HB2.out.size))
      clear hw3
      cases p3
      · have HN3 := hide (show (eqF (whereS s.data.toList) b.data.toList || (b[0] == 46 && endsF (whereS s.data.toList) b.data.toList)) = q by rw [← HN.out, getD_str b 0 hpos]; rfl)
        go_wp2_with fail
        refine (CUT.out _ (HMX.out.below HB3.out)).mono ?_
        rintro e w4 ⟨rfl, nn, hw4⟩
        have HB4 := hide (show Below w.heap.size w w4 by rw [hw4]; exact below_drewN HB3.out nn)
        clear hw4
        cases f
        · have hx : whereS s.data.toList = s.data.toList := by
            obtain ⟨-, -, h3⟩ := HC.out
            rw [whereS, h3]; rfl
          obtain ⟨p4, hp4⟩ : ∃ p, eqF s.data.toList b.data.toList = p := ⟨_, rfl⟩
          obtain ⟨p5, hp5⟩ : ∃ p, endsF s.data.toList b.data.toList = p := ⟨_, rfl⟩
          have HN4 := hide (show (p4 || (b[0] == 46 && p5)) = q by rw [← HN3.out, hx, hp4, hp5])
          have HP4 := hide hp4
          have HP5 := hide hp5
          clear hx hp4 hp5
          go_wp2_with fail
          refine (hequal_any s b (by omega) (by omega) p4 HP4.out _).mono ?_
          rintro e w5 ⟨rfl, hw5⟩
          have HB5 := hide (HB4.out.trans (hw5.mono HB4.out.size))
          clear hw5
          cases p4
          · by_cases hc : b[0] = 46
            · have t3 : ((b[0].toNat : Int) == 46) = true := by rw [hc]; rfl
              have HN5 := hide (show p5 = q by rw [← HN4.out, hc]; simp)
              clear hc
              go_wp2_with fail
              refine (hends_any s b (by omega) (by omega) p5 HP5.out _).mono ?_
              rintro e w6 ⟨rfl, hw6⟩
              go_wp2_with fail
              go_ret
              exact ⟨ret_bool HN5.out, HB5.out.trans (hw6.mono HB5.out.size)⟩
            · have t3 : ((b[0].toNat : Int) == 46) = false := (byte_beq b[0] 46).trans (by simpa using hc)
              have HN5 := hide (show false = q by rw [← HN4.out, show (b[0] == 46) = false by simpa using hc]; rfl)
              clear hc
              go_wp2_with fail
              go_ret
              exact ⟨ret_bool HN5.out, HB5.out⟩
          · go_wp2_with fail
            go_ret
            exact ⟨ret_bool (by rw [← HN4.out]; rfl), HB5.out⟩
        · have hx : whereS s.data.toList = a2.data.toList := by
            obtain ⟨-, h2, h3⟩ := HC.out
            rw [whereS, h3, h2]; rfl
          obtain ⟨p4, hp4⟩ : ∃ p, eqF a2.data.toList b.data.toList = p := ⟨_, rfl⟩
          obtain ⟨p5, hp5⟩ : ∃ p, endsF a2.data.toList b.data.toList = p := ⟨_, rfl⟩
          have HN4 := hide (show (p4 || (b[0] == 46 && p5)) = q by rw [← HN3.out, hx, hp4, hp5])
          have HP4 := hide hp4
          have HP5 := hide hp5
          clear hx hp4 hp5
          go_wp2_with fail
          refine (hequal_any a2 b (by omega) (by omega) p4 HP4.out _).mono ?_
          rintro e w5 ⟨rfl, hw5⟩
          have HB5 := hide (HB4.out.trans (hw5.mono HB4.out.size))
          clear hw5
          cases p4
          · by_cases hc : b[0] = 46
            · have t3 : ((b[0].toNat : Int) == 46) = true := by rw [hc]; rfl
              have HN5 := hide (show p5 = q by rw [← HN4.out, hc]; simp)
              clear hc
              go_wp2_with fail
              refine (hends_any a2 b (by omega) (by omega) p5 HP5.out _).mono ?_
              rintro e w6 ⟨rfl, hw6⟩
              go_wp2_with fail
              go_ret
              exact ⟨ret_bool HN5.out, HB5.out.trans (hw6.mono HB5.out.size)⟩
            · have t3 : ((b[0].toNat : Int) == 46) = false := (byte_beq b[0] 46).trans (by simpa using hc)
              have HN5 := hide (show false = q by rw [← HN4.out, show (b[0] == 46) = false by simpa using hc]; rfl)
              clear hc
              go_wp2_with fail
              go_ret
              exact ⟨ret_bool HN5.out, HB5.out⟩
          · go_wp2_with fail
            go_ret
            exact ⟨ret_bool (by rw [← HN4.out]; rfl), HB5.out⟩
      · have HN3 := hide (show mmB s.data.toList b.data.toList = q by rw [← HN.out]; rfl)
        go_wp2_with fail
        refine (hmm_any s b hs hb q HN3.out _ (HMX.out.below HB3.out)).mono ?_
        rintro e w4 ⟨rfl, hw4⟩
        go_wp2_with fail
        go_ret
        exact ⟨rfl, HB3.out.trans (hw4.mono HB3.out.size)⟩

def addrB (s : List UInt8) : Bool := s.length == 4 || s.length == 16
set_option maxHeartbeats 400000 in
theorem haddr_any (s : ByteArray) (q : Bool) (hq : addrB s.data.toList = q) (w : World) : Calls Tryz.prog 93 #[.string s] w fun e w' => e = .returned (.bool q) ∧ w = w' := by
  have hss := size_string s
  unfold addrB at hq
  rw [hss] at hq
  have HQ := hide hq
  clear hq hss
  by_cases h4 : s.size = 4
  · have t1 : ((s.size : Int) == 4) = true := by rw [h4]; rfl
    have HN := hide (show true = q by rw [← HQ.out, h4]; rfl)
    clear h4
    go_enter Tryz.func93, Tryz.ntmps93
    go_wp2_with fail
    go_ret
    exact ⟨ret_bool HN.out, rfl⟩
  · have t1 : ((s.size : Int) == 4) = false := by rw [beq_eq_false_iff_ne]; omega
    by_cases h16 : s.size = 16
    · have t2 : ((s.size : Int) == 16) = true := by rw [h16]; rfl
      have HN := hide (show true = q by rw [← HQ.out, h16]; rfl)
      clear h4 h16
      go_enter Tryz.func93, Tryz.ntmps93
      go_wp2_with fail
      go_ret
      exact ⟨ret_bool HN.out, rfl⟩
    · have t2 : ((s.size : Int) == 16) = false := by rw [beq_eq_false_iff_ne]; omega
      have HN := hide (show false = q by rw [← HQ.out]; simp [h4, h16])
      clear h4 h16
      go_enter Tryz.func93, Tryz.ntmps93
      go_wp2_with fail
      go_ret
      exact ⟨ret_bool HN.out, rfl⟩

/-- the halves of a text -/
theorem halves_any (s : ByteArray) (hs : s.size ≤ 1000000) (w : World) : ∃ a m : ByteArray, Hid (a.data.toList = s.data.toList.take (s.size / 2) ∧ m.data.toList = s.data.toList.drop (s.size / 2)) ∧ a.size = s.size / 2 ∧ m.size = s.size - s.size / 2 ∧
    Calls Tryz.prog 92 #[.string s] w fun e w' => e = .returned (.tuple #[.string a, .string m]) ∧ ∃ n, w' = w.drewN n := by
  have hss := size_string s
  obtain ⟨a, ha⟩ : ∃ a, a = s.extract 0 (s.size / 2) := ⟨_, rfl⟩
  obtain ⟨m, hm⟩ : ∃ m, m = s.extract (s.size / 2) s.size := ⟨_, rfl⟩
  have ha2 : a.data.toList = s.data.toList.take (s.size / 2) := by rw [ha, Lib.extract_data]; simp
  have hm2 : m.data.toList = s.data.toList.drop (s.size / 2) := by
    rw [hm, Lib.extract_data, List.take_of_length_le]
    rw [List.length_drop, hss]; omega
  refine ⟨a, m, hide ⟨ha2, hm2⟩, by rw [← size_string, ha2, List.length_take, hss]; omega, by rw [← size_string, hm2, List.length_drop, hss], ?_⟩
  obtain ⟨h, hh⟩ : ∃ h, h = s.size / 2 := ⟨_, rfl⟩
  have sl1 : ∀ W : World, (Instr.slice 9 (.string s) none (some (.int .i64 (h : Int))) none).run Tryz.prog W = .ok (.string a) W := fun W => by
    have h9 := run_slice_string_h (P := Tryz.prog) W 9 s Tryz.underlying9 .i64 (h : Int) (by omega) (by omega)
    rw [h9, ha, Int.toNat_natCast, hh]
  have sl2 : ∀ W : World, (Instr.slice 9 (.string s) (some (.int .i64 (h : Int))) none none).run Tryz.prog W = .ok (.string m) W := fun W => by
    have h9 := run_slice_string_l (P := Tryz.prog) W 9 s Tryz.underlying9 .i64 (h : Int) (by omega) (by omega)
    rw [h9, hm, Int.toNat_natCast, hh]
  have hq1 : (s.size : Int).tdiv 2 = (h : Int) := by rw [Int.tdiv_eq_ediv_of_nonneg (by omega)]; omega
  have hq2 : (s.size : Int) / 2 = (h : Int) := by omega
  have hq3 : IntKind.i64.wrap (h : Int) = (h : Int) := IntWalk.i64_in _ (by omega)
  clear ha hm ha2 hm2 hh hss
  go_enter Tryz.func92, Tryz.ntmps92
  go_wp2_with fail
  go_quiet (fail)
  go_wp2_with fail
  go_ret2
  exact ⟨rfl, _, rfl⟩
end Go.Proofs.YtodapmkdmkhhfaaGreatDoor

/- The functions of package host: bit, Range, AddressWithin. -/
namespace Go.Proofs.YtodapmkdmkhhfaaGreatDoor
open Go.RowKit

theorem and1 (x : Nat) (h : x < 256) : bits .and .u8 (x : Int) 1 = ((x % 2 : Nat) : Int) := by
  have : ∀ n : Fin 256, bits .and .u8 ((n.1 : Nat) : Int) 1 = ((n.1 % 2 : Nat) : Int) := by decide +kernel
  exact this ⟨x, h⟩
theorem bit_eq (c r : Nat) (h : c < 256) : (bits .and .u8 ((c : Int) / 2 ^ r) 1 == 1) = (c / 2 ^ r % 2 == 1) := by
  have hx : ((c : Int) / 2 ^ r) = ((c / 2 ^ r : Nat) : Int) := by simp
  have hl : c / 2 ^ r < 256 := Nat.lt_of_le_of_lt (Nat.div_le_self _ _) h
  rw [hx, and1 _ hl, Bool.eq_iff_iff]
  simp only [beq_iff_eq]
  omega
def bitAt (l : List UInt8) (i : Nat) : Bool := (l.getD (i / 8) 0).toNat / 2 ^ (7 - i % 8) % 2 == 1
set_option maxHeartbeats 1000000 in
theorem bit_any (s : ByteArray) (i : Nat) (hs : s.size ≤ 1000) (hi : i < 8 * s.size) (q : Bool) (hq : bitAt s.data.toList i = q) (w : World) :
    Calls Tryz.prog 119 #[.string s, .int .i64 (i : Int)] w fun e w' => e = .returned (.bool q) ∧ w = w' := by
  obtain ⟨j, r, hr, rfl⟩ : ∃ j r, r < 8 ∧ i = 8 * j + r := ⟨i / 8, i % 8, by omega, by omega⟩
  have hj : j < s.size := by omega
  have HQ := hide (show (s[j].toNat / 2 ^ (7 - r) % 2 == 1) = q by
    rw [← hq, bitAt, show (8 * j + r) / 8 = j by omega, show (8 * j + r) % 8 = r by omega, getD_str s j hj])
  obtain ⟨I, hI⟩ : ∃ I : Int, I = ((8 * j + r : Nat) : Int) := ⟨_, rfl⟩
  rw [← hI]
  have h1 : I / 8 = (j : Int) := by omega
  have h2 : I % 8 = (r : Int) := by omega
  have h3 : 0 ≤ I := by omega
  have h4 : I ≤ 8000 := by omega
  have hc := byte_lt s[j]
  have hr2 : (r : Int) < 8 := by omega
  clear hq hI
  go_enter Tryz.func119, Tryz.ntmps119
  go_wp2_with fail
  go_ret
  exact ⟨ret_bool ((bit_eq _ _ (by omega)).trans HQ.out), rfl⟩

/-- from bit i on: the ones of the mask stand first, and where it has none the address has none -/
def rgG (a m : List UInt8) : Nat → Nat → Bool → Bool
  | 0, _, _ => true
  | n + 1, i, over => if (bitAt m i && over) || (!bitAt m i && bitAt a i) then false else rgG a m n (i + 1) (over || !bitAt m i)
def rangeB (s : List UInt8) : Bool := (s.length == 8 || s.length == 32) && rgG (s.take (s.length / 2)) (s.drop (s.length / 2)) (8 * (s.length - s.length / 2)) 0 false
set_option maxHeartbeats 4000000 in
theorem range_any (s : ByteArray) (hs : s.size ≤ 1000000) (q : Bool) (hq : rangeB s.data.toList = q) (w : World) :
    Calls Tryz.prog 91 #[.string s] w fun e w' => e = .returned (.bool q) ∧ Below w.heap.size w w' := by
  have hss := size_string s
  by_cases h8 : s.size = 8 ∨ s.size = 32
  · obtain ⟨a, m, HAM, haz, hmz, hcalls⟩ := halves_any s hs w
    have HQ := hide (show rgG a.data.toList m.data.toList (8 * m.size) 0 false = q by
      obtain ⟨h1, h2⟩ := HAM.out
      rw [← hq, rangeB, hss, ← h1, ← h2, hmz]
      rcases h8 with h | h <;> simp [h])
    have hms : m.size ≤ 16 := by omega
    have ham : a.size = m.size := by omega
    have t1 : ((s.size : Int) != 8) = false ∨ ((s.size : Int) != 8) = true ∧ ((s.size : Int) != 32) = false := by
      rcases h8 with h | h
      · left; rw [h]; rfl
      · right; rw [h]; exact ⟨rfl, rfl⟩
    have HAM2 := hide ham
    have HC := hide hcalls
    have hams : a.size ≤ 16 := by omega
    clear hq haz hmz hcalls ham h8 hss
    rcases t1 with t1 | ⟨t1, t2⟩
    all_goals
      go_enter Tryz.func91, Tryz.ntmps91
      go_wp2_with fail
      refine HC.out.mono ?_
      rintro e w1 ⟨rfl, nn, hw1⟩
      have hb1 : Below w.heap.size w w1 := by rw [hw1]; exact below_drewN (Below.refl _ _) nn
      have HB1 := hide hb1
      clear hw1 hb1 t1
      go_wp2_with fail
      go_loop [5, 6] (fun x5 x6 => ∃ (i : Nat) (ov : Bool), i ≤ 8 * m.size ∧ x5 = .bool ov ∧ x6 = .int .i64 i ∧ Hid (rgG a.data.toList m.data.toList (8 * m.size - i) i ov = q)) (fun _ x6 => 8 * m.size - (intOf x6).toNat)
      case atStart => exact ⟨0, false, by omega, rfl, rfl, HQ⟩
      case round =>
        obtain ⟨i, ov, hi, rfl, rfl, H⟩ := hrel
        by_cases hlt : i < 8 * m.size
        · obtain ⟨p1, hp1⟩ : ∃ p, bitAt m.data.toList i = p := ⟨_, rfl⟩
          obtain ⟨p2, hp2⟩ : ∃ p, bitAt a.data.toList i = p := ⟨_, rfl⟩
          have HX := hide (show (if (p1 && ov) || (!p1 && p2) then false else rgG a.data.toList m.data.toList (8 * m.size - (i + 1)) (i + 1) (ov || !p1)) = q by
            rw [← H.out, show 8 * m.size - i = (8 * m.size - (i + 1)) + 1 by omega, rgG, hp1, hp2])
          have P1 := hide hp1
          have P2 := hide hp2
          have hia : i < 8 * a.size := by rw [HAM2.out]; exact hlt
          have hlti : (i : Int) < 8 * (m.size : Int) := by omega
          clear hp1 hp2
          go_wp2_with fail
          refine (bit_any m i (by omega) hlt p1 P1.out _).mono ?_
          rintro e w5 ⟨rfl, rfl⟩
          cases p1
          · go_wp2_with fail
            refine (bit_any a i (by omega) hia p2 P2.out _).mono ?_
            rintro e w5 ⟨rfl, rfl⟩
            cases p2
            · have HY := hide (show rgG a.data.toList m.data.toList (8 * m.size - (i + 1)) (i + 1) true = q by rw [← HX.out]; simp)
              cases ov
              all_goals
                go_wp2_with fail
                go_round
                case rel => exact ⟨i + 1, true, by omega, rfl, by go_num, HY⟩
                case measure => simp [intOf]; omega
            · have HY := hide (show false = q by rw [← HX.out]; simp)
              go_wp2_with fail
              go_ret
              exact ⟨ret_bool HY.out, HB1.out⟩
          · cases ov
            · have HY := hide (show rgG a.data.toList m.data.toList (8 * m.size - (i + 1)) (i + 1) false = q by rw [← HX.out]; simp)
              go_wp2_with fail
              go_round
              case rel => exact ⟨i + 1, false, by omega, rfl, by go_num, HY⟩
              case measure => simp [intOf]; omega
            · have HY := hide (show false = q by rw [← HX.out]; simp)
              go_wp2_with fail
              go_ret
              exact ⟨ret_bool HY.out, HB1.out⟩
        · have HY := hide (show true = q by rw [← H.out, show 8 * m.size - i = 0 by omega, rgG])
          have hlti : ¬ (i : Int) < 8 * (m.size : Int) := by omega
          go_wp2_with fail
          go_ret
          exact ⟨ret_bool HY.out, HB1.out⟩
  · have t1 : ((s.size : Int) != 8) = true := by rw [bne_iff_ne]; omega
    have t2 : ((s.size : Int) != 32) = true := by rw [bne_iff_ne]; omega
    have HN := hide (show false = q by
      rw [← hq, rangeB, hss]
      have e1 : (s.size == 8) = false := by rw [beq_eq_false_iff_ne]; omega
      have e2 : (s.size == 32) = false := by rw [beq_eq_false_iff_ne]; omega
      rw [e1, e2]; rfl)
    clear hq h8
    go_enter Tryz.func91, Tryz.ntmps91
    go_wp2_with fail
    go_ret
    exact ⟨ret_bool HN.out, Below.refl _ _⟩
end Go.Proofs.YtodapmkdmkhhfaaGreatDoor

/- The functions of package host: AddressWithin. -/
namespace Go.Proofs.YtodapmkdmkhhfaaGreatDoor
open Go.RowKit

def sub1 (m o : UInt8) : Bool := (m.toNat &&& (255 - o.toNat)) == 0
def msk1 (x m b : UInt8) : Bool := (x.toNat &&& m.toNat) == b.toNat
def subG (m o : List UInt8) : Nat → Nat → Bool
  | 0, _ => true
  | n + 1, i => sub1 (m.getD i 0) (o.getD i 0) && subG m o n (i + 1)
def mskG (x m b : List UInt8) : Nat → Nat → Bool
  | 0, _ => true
  | n + 1, i => msk1 (x.getD i 0) (m.getD i 0) (b.getD i 0) && mskG x m b n (i + 1)
def loH (s : List UInt8) : List UInt8 := s.take (s.length / 2)
def hiH (s : List UInt8) : List UInt8 := s.drop (s.length / 2)
def awB (a r : List UInt8) : Bool := rangeB r && (if (a.length == r.length && rangeB a) = true then subG (hiH r) (hiH a) (hiH r).length 0 && mskG (loH a) (hiH r) (loH r) (hiH r).length 0
  else (a.length == (loH r).length && addrB a) && mskG a (hiH r) (loH r) (hiH r).length 0)
theorem sub1_eq (m o : UInt8) : (bits .andNot .u8 (m.toNat : Int) (o.toNat : Int) != 0) = !sub1 m o := by
  rw [u8_andNot_nat _ _ m.toNat_lt o.toNat_lt, sub1, bne, Bool.eq_iff_iff]
  simp
theorem msk1_eq (x m b : UInt8) : (bits .and .u8 (x.toNat : Int) (m.toNat : Int) != (b.toNat : Int)) = !msk1 x m b := by
  rw [u8_and_nat _ _ x.toNat_lt m.toNat_lt, msk1, bne, Bool.eq_iff_iff]
  simp only [Bool.not_eq_true', beq_eq_false_iff_ne, ne_eq]
  exact not_congr (by omega)

theorem ba_ext {a b : ByteArray} (h : a.data.toList = b.data.toList) : a = b := by
  cases a; cases b
  simp at h
  rw [h]
theorem halves_v (s : ByteArray) (hs : s.size ≤ 1000000) : ∃ a m : ByteArray, Hid (a.data.toList = loH s.data.toList ∧ m.data.toList = hiH s.data.toList) ∧ a.size = s.size / 2 ∧ m.size = s.size - s.size / 2 ∧
    ∀ W, Calls Tryz.prog 92 #[.string s] W fun e w' => e = .returned (.tuple #[.string a, .string m]) ∧ ∃ n, w' = W.drewN n := by
  refine ⟨⟨(loH s.data.toList).toArray⟩, ⟨(hiH s.data.toList).toArray⟩, hide ⟨rfl, rfl⟩, ?_, ?_, fun W => ?_⟩
  · show (loH s.data.toList).length = _
    rw [loH, List.length_take, size_string]; omega
  · show (hiH s.data.toList).length = _
    rw [hiH, List.length_drop, size_string]
  · obtain ⟨a, m, HAM, -, -, hc⟩ := halves_any s hs W
    obtain ⟨h1, h2⟩ := HAM.out
    have e1 : a = ⟨(loH s.data.toList).toArray⟩ := ba_ext (by rw [h1, loH, size_string])
    have e2 : m = ⟨(hiH s.data.toList).toArray⟩ := ba_ext (by rw [h2, hiH, size_string])
    rw [← e1, ← e2]
    exact hc

set_option maxHeartbeats 8000000 in
theorem haw_any (a r : ByteArray) (ha : a.size ≤ 1000000) (hr : r.size ≤ 1000000) (q : Bool) (hq : awB a.data.toList r.data.toList = q) (w : World) :
    Calls Tryz.prog 66 #[.string a, .string r] w fun e w' => e = .returned (.bool q) ∧ Below w.heap.size w w' := by
  have hsa := size_string a
  have hsr := size_string r
  obtain ⟨p1, hp1⟩ : ∃ p, rangeB r.data.toList = p := ⟨_, rfl⟩
  obtain ⟨p2, hp2⟩ : ∃ p, rangeB a.data.toList = p := ⟨_, rfl⟩
  obtain ⟨p3, hp3⟩ : ∃ p, addrB a.data.toList = p := ⟨_, rfl⟩
  have P1 := hide hp1
  have P2 := hide hp2
  have P3 := hide hp3
  cases p1
  · have HN := hide (show false = q by rw [← hq, awB, hp1]; rfl)
    clear hq hp1 hp2 hp3
    go_enter Tryz.func66, Tryz.ntmps66
    go_wp2_with fail
    refine (range_any r hr false P1.out _).mono ?_
    rintro e w1 ⟨rfl, hb1⟩
    go_wp2_with fail
    go_ret
    exact ⟨ret_bool HN.out, hb1⟩
  · have hr32 : r.size = 8 ∨ r.size = 32 := by
      have := hp1
      rw [rangeB, hsr] at this
      simp only [Bool.and_eq_true, Bool.or_eq_true, beq_iff_eq] at this
      exact this.1
    obtain ⟨b, m, HBM, hbz, hmz, hv⟩ := halves_v r hr
    have HV := hide hv
    have hbm : b.size = m.size := by omega
    have hm16 : m.size ≤ 16 := by omega
    have hml : (hiH r.data.toList).length = m.size := by rw [← HBM.out.2, size_string]
    have hbl : (loH r.data.toList).length = b.size := by rw [← HBM.out.1, size_string]
    have HBM2 := hide hbm
    by_cases hl : a.size = r.size
    · have t1 : ((a.size : Int) == (r.size : Int)) = true := by rw [hl]; simp
      cases p2
      · have t2 : ((a.size : Int) != (b.size : Int)) = true := by rw [bne_iff_ne]; omega
        have HN := hide (show false = q by
          rw [← hq, awB, hp1, hp2, hbl, hsa, show (a.size == b.size) = false by rw [beq_eq_false_iff_ne]; omega]; simp)
        clear hq hp1 hp2 hp3 hv hbz hmz hbm hml hbl hl hr32 hsa hsr
        go_enter Tryz.func66, Tryz.ntmps66
        go_wp2_with fail
        refine (range_any r hr true P1.out _).mono ?_
        rintro e w1 ⟨rfl, hb1⟩
        have HB1 := hide hb1
        clear hb1
        go_wp2_with fail
        refine (HV.out _).mono ?_
        rintro e w2 ⟨rfl, nn, hw2⟩
        have HB2 := hide (show Below w.heap.size w w2 by rw [hw2]; exact below_drewN HB1.out nn)
        clear hw2
        go_wp2_with fail
        refine (range_any a ha false P2.out _).mono ?_
        rintro e w3 ⟨rfl, hb3⟩
        go_wp2_with fail
        go_ret
        exact ⟨ret_bool HN.out, HB2.out.trans (hb3.mono HB2.out.size)⟩
      · obtain ⟨x, o, HXO, hxz, hoz, hv2⟩ := halves_v a ha
        have HV2 := hide hv2
        have HM0 := hide (show (subG m.data.toList o.data.toList m.size 0 && mskG x.data.toList m.data.toList b.data.toList m.size 0) = q by
          rw [← hq, awB, hp1, hp2, hsa, hsr, hl, hml, HBM.out.1, HBM.out.2, HXO.out.1, HXO.out.2]; simp)
        have hxs : x.size = m.size := by omega
        have hos : o.size = m.size := by omega
        have HXS := hide hxs
        have HOS := hide hos
        have hxs' : m.size ≤ x.size := by omega
        have hos' : m.size ≤ o.size := by omega
        have hbs' : m.size ≤ b.size := by omega
        have hb16 : b.size ≤ 16 := by omega
        have hx16 : x.size ≤ 16 := by omega
        have ho16 : o.size ≤ 16 := by omega
        clear hq hp1 hp2 hp3 hv hbz hmz hbm hml hbl hl hr32 hsa hsr hxz hoz hv2 hxs hos
        go_enter Tryz.func66, Tryz.ntmps66
        go_wp2_with fail
        refine (range_any r hr true P1.out _).mono ?_
        rintro e w1 ⟨rfl, hb1⟩
        have HB1 := hide hb1
        clear hb1
        go_wp2_with fail
        refine (HV.out _).mono ?_
        rintro e w2 ⟨rfl, nn, hw2⟩
        have HB2 := hide (show Below w.heap.size w w2 by rw [hw2]; exact below_drewN HB1.out nn)
        clear hw2
        go_wp2_with fail
        refine (range_any a ha true P2.out _).mono ?_
        rintro e w3 ⟨rfl, hb3⟩
        have HB3 := hide (HB2.out.trans (hb3.mono HB2.out.size))
        clear hb3 t1
        go_wp2_with fail
        refine (HV2.out _).mono ?_
        rintro e w4 ⟨rfl, nm, hw4⟩
        have HB4 := hide (show Below w.heap.size w w4 by rw [hw4]; exact below_drewN HB3.out nm)
        clear hw4
        have hml : m.data.toList.length ≤ maxLen := by rw [size_string]; unfold maxLen; omega
        go_wp2_with (with_reducible refine wpList_str_bts _ rfl (.tmp 33) 9 86 5 rfl Tryz.underlying9 Tryz.underlying86 Tryz.underlying5 m rfl m.data.toList rfl hml ?_; intro g1 cc1 w5 hg11 hg12 hb5 hby1 hc11 hc12)
        have HB5 := hide (HB4.out.trans (hb5.mono HB4.out.size))
        clear hb5 hby1 hml hc11 hg11 hg12
        go_loopw [36] (fun i wr => ∃ k : Nat, k ≤ m.size ∧ i = .int .i64 k ∧ Below w.heap.size w wr ∧ Hid ((subG m.data.toList o.data.toList (m.size - k) k && mskG x.data.toList m.data.toList b.data.toList m.size 0) = q)) (fun i _ => m.size - (intOf i).toNat)
        case atStart => exact ⟨0, Nat.zero_le _, rfl, HB5.out, HM0⟩
        case round =>
          obtain ⟨k, hk, rfl, hbr, H⟩ := hrel
          by_cases hlt : k < m.size
          · have h2 : k < o.size := by omega
            have hk0 : (0 : Int) ≤ (k : Int) := by omega
            have hki : (k : Int) < (m.size : Int) := by omega
            have hki2 : (k : Int) < (o.size : Int) := by omega
            obtain ⟨p, hp⟩ : ∃ p, sub1 m[k] o[k] = p := ⟨_, rfl⟩
            have HX := hide (show (p && subG m.data.toList o.data.toList (m.size - (k + 1)) (k + 1) && mskG x.data.toList m.data.toList b.data.toList m.size 0) = q by
              rw [← H.out, show m.size - k = (m.size - (k + 1)) + 1 by omega, subG, getD_str m k hlt, getD_str o k h2, hp])
            have t5 := (sub1_eq m[k] o[k]).trans (by rw [hp])
            have HBR := hide hbr
            clear hp hbr
            cases p
            · have HY := hide (show false = q by rw [← HX.out]; rfl)
              go_wp2_with fail
              go_quiet (fail)
              go_wp2_with fail
              go_ret
              exact ⟨ret_bool HY.out, below_drewN HBR.out _⟩
            · have HY := hide (show (subG m.data.toList o.data.toList (m.size - (k + 1)) (k + 1) && mskG x.data.toList m.data.toList b.data.toList m.size 0) = q by rw [← HX.out]; rfl)
              go_wp2_with fail
              go_quiet (fail)
              go_wp2_with fail
              go_roundw
              case rel => exact ⟨k + 1, by omega, by go_num, below_drewN HBR.out _, HY⟩
              case measure => simp [intOf]; omega
          · have HM := hide (show mskG x.data.toList m.data.toList b.data.toList m.size 0 = q by rw [← H.out, show m.size - k = 0 by omega, subG]; rfl)
            have HBB := hide hbr
            clear hbr H
            have hml : m.data.toList.length ≤ maxLen := by rw [size_string]; unfold maxLen; omega
            go_wp2_with (with_reducible refine wpList_str_bts _ rfl (.tmp 59) 9 86 5 rfl Tryz.underlying9 Tryz.underlying86 Tryz.underlying5 m rfl m.data.toList rfl hml ?_; intro g2 cc2 wz hg21 hg22 hb2z hby2 hc21 hc22)
            have HBz := hide (HBB.out.trans (hb2z.mono HBB.out.size))
            clear hb2z hby2 hml hc21 hg21 hg22
            go_loopw [62] (fun i wr => ∃ k : Nat, k ≤ m.size ∧ i = .int .i64 k ∧ Below w.heap.size w wr ∧ Hid (mskG x.data.toList m.data.toList b.data.toList (m.size - k) k = q)) (fun i _ => m.size - (intOf i).toNat)
            case atStart => exact ⟨0, Nat.zero_le _, rfl, HBz.out, HM⟩
            case round =>
              obtain ⟨k, hk, rfl, hbr, H⟩ := hrel
              by_cases hlt : k < m.size
              · have h1 : k < x.size := by omega
                have h2 : k < b.size := by omega
                have hk0 : (0 : Int) ≤ (k : Int) := by omega
                have hki : (k : Int) < (m.size : Int) := by omega
                have hki1 : (k : Int) < (x.size : Int) := by omega
                have hki2 : (k : Int) < (b.size : Int) := by omega
                obtain ⟨p, hp⟩ : ∃ p, msk1 x[k] m[k] b[k] = p := ⟨_, rfl⟩
                have HX := hide (show (p && mskG x.data.toList m.data.toList b.data.toList (m.size - (k + 1)) (k + 1)) = q by
                  rw [← H.out, show m.size - k = (m.size - (k + 1)) + 1 by omega, mskG, getD_str x k h1, getD_str m k hlt, getD_str b k h2, hp])
                have t5 := (msk1_eq x[k] m[k] b[k]).trans (by rw [hp])
                have HBR := hide hbr
                clear hp hbr
                cases p
                · have HY := hide (show false = q by rw [← HX.out]; rfl)
                  go_wp2_with fail
                  go_quiet (fail)
                  go_wp2_with fail
                  go_ret
                  exact ⟨ret_bool HY.out, below_drewN HBR.out _⟩
                · have HY := hide (show mskG x.data.toList m.data.toList b.data.toList (m.size - (k + 1)) (k + 1) = q by rw [← HX.out]; rfl)
                  go_wp2_with fail
                  go_quiet (fail)
                  go_wp2_with fail
                  go_roundw
                  case rel => exact ⟨k + 1, by omega, by go_num, below_drewN HBR.out _, HY⟩
                  case measure => simp [intOf]; omega
              · have HY := hide (show true = q by rw [← H.out, show m.size - k = 0 by omega, mskG])
                have HBR := hide hbr
                clear hbr
                go_wp2_with fail
                go_ret
                exact ⟨ret_bool HY.out, HBR.out⟩
    · have t1 : ((a.size : Int) == (r.size : Int)) = false := by rw [beq_eq_false_iff_ne]; omega
      have HN0 := hide (show ((a.size == b.size && p3) && mskG a.data.toList m.data.toList b.data.toList m.size 0) = q by
        rw [← hq, awB, hp1, hp3, hbl, hml, hsa, hsr, HBM.out.1, HBM.out.2, show (a.size == r.size) = false by rw [beq_eq_false_iff_ne]; exact hl]; rfl)
      by_cases hab : a.size = b.size
      · have t2 : ((a.size : Int) != (b.size : Int)) = false := by rw [hab]; simp
        have HN := hide (show (p3 && mskG a.data.toList m.data.toList b.data.toList m.size 0) = q by rw [← HN0.out, hab]; simp)
        have hxs' : m.size ≤ a.size := by omega
        have hbs' : m.size ≤ b.size := by omega
        have hb16 : b.size ≤ 16 := by omega
        have hx16 : a.size ≤ 16 := by omega
        clear hq hp1 hp2 hp3 hv hbz hmz hbm hml hbl hl hr32 hsa hsr hab
        go_enter Tryz.func66, Tryz.ntmps66
        go_wp2_with fail
        refine (range_any r hr true P1.out _).mono ?_
        rintro e w1 ⟨rfl, hb1⟩
        have HB1 := hide hb1
        clear hb1
        go_wp2_with fail
        refine (HV.out _).mono ?_
        rintro e w2 ⟨rfl, nn, hw2⟩
        have HB2 := hide (show Below w.heap.size w w2 by rw [hw2]; exact below_drewN HB1.out nn)
        clear hw2
        go_wp2_with fail
        refine (haddr_any a p3 P3.out _).mono ?_
        rintro e w3 ⟨rfl, rfl⟩
        cases p3
        · go_wp2_with fail
          go_ret
          exact ⟨ret_bool (by rw [← HN.out]; rfl), HB2.out⟩
        · have HM := hide (show mskG a.data.toList m.data.toList b.data.toList m.size 0 = q by rw [← HN.out]; rfl)
          have HBB := HB2
          clear t1 t2
          have hml : m.data.toList.length ≤ maxLen := by rw [size_string]; unfold maxLen; omega
          go_wp2_with (with_reducible refine wpList_str_bts _ rfl (.tmp 59) 9 86 5 rfl Tryz.underlying9 Tryz.underlying86 Tryz.underlying5 m rfl m.data.toList rfl hml ?_; intro g2 cc2 wz hg21 hg22 hb2z hby2 hc21 hc22)
          have HBz := hide (HBB.out.trans (hb2z.mono HBB.out.size))
          clear hb2z hby2 hml hc21 hg21 hg22
          go_loopw [62] (fun i wr => ∃ k : Nat, k ≤ m.size ∧ i = .int .i64 k ∧ Below w.heap.size w wr ∧ Hid (mskG a.data.toList m.data.toList b.data.toList (m.size - k) k = q)) (fun i _ => m.size - (intOf i).toNat)
          case atStart => exact ⟨0, Nat.zero_le _, rfl, HBz.out, HM⟩
          case round =>
            obtain ⟨k, hk, rfl, hbr, H⟩ := hrel
            by_cases hlt : k < m.size
            · have h1 : k < a.size := by omega
              have h2 : k < b.size := by omega
              have hk0 : (0 : Int) ≤ (k : Int) := by omega
              have hki : (k : Int) < (m.size : Int) := by omega
              have hki1 : (k : Int) < (a.size : Int) := by omega
              have hki2 : (k : Int) < (b.size : Int) := by omega
              obtain ⟨p, hp⟩ : ∃ p, msk1 a[k] m[k] b[k] = p := ⟨_, rfl⟩
              have HX := hide (show (p && mskG a.data.toList m.data.toList b.data.toList (m.size - (k + 1)) (k + 1)) = q by
                rw [← H.out, show m.size - k = (m.size - (k + 1)) + 1 by omega, mskG, getD_str a k h1, getD_str m k hlt, getD_str b k h2, hp])
              have t5 := (msk1_eq a[k] m[k] b[k]).trans (by rw [hp])
              have HBR := hide hbr
              clear hp hbr
              cases p
              · have HY := hide (show false = q by rw [← HX.out]; rfl)
                go_wp2_with fail
                go_quiet (fail)
                go_wp2_with fail
                go_ret
                exact ⟨ret_bool HY.out, below_drewN HBR.out _⟩
              · have HY := hide (show mskG a.data.toList m.data.toList b.data.toList (m.size - (k + 1)) (k + 1) = q by rw [← HX.out]; rfl)
                go_wp2_with fail
                go_quiet (fail)
                go_wp2_with fail
                go_roundw
                case rel => exact ⟨k + 1, by omega, by go_num, below_drewN HBR.out _, HY⟩
                case measure => simp [intOf]; omega
            · have HY := hide (show true = q by rw [← H.out, show m.size - k = 0 by omega, mskG])
              have HBR := hide hbr
              clear hbr
              go_wp2_with fail
              go_ret
              exact ⟨ret_bool HY.out, HBR.out⟩
      · have t2 : ((a.size : Int) != (b.size : Int)) = true := by rw [bne_iff_ne]; omega
        have HN := hide (show false = q by rw [← HN0.out, show (a.size == b.size) = false by rw [beq_eq_false_iff_ne]; exact hab]; rfl)
        clear hq hp1 hp2 hp3 hv hbz hmz hbm hml hbl hl hr32 hsa hsr hab
        go_enter Tryz.func66, Tryz.ntmps66
        go_wp2_with fail
        refine (range_any r hr true P1.out _).mono ?_
        rintro e w1 ⟨rfl, hb1⟩
        have HB1 := hide hb1
        clear hb1
        go_wp2_with fail
        refine (HV.out _).mono ?_
        rintro e w2 ⟨rfl, nn, hw2⟩
        have HB2 := hide (show Below w.heap.size w w2 by rw [hw2]; exact below_drewN HB1.out nn)
        clear hw2
        go_wp2_with fail
        go_ret
        exact ⟨ret_bool HN.out, HB2.out⟩
end Go.Proofs.YtodapmkdmkhhfaaGreatDoor
