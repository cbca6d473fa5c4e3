/- The functions of package host: Mail, MailBase, MailMatch, MailWithin. -/
import Derived.Test.YtahamclodagihaaGreatDoorTGHosA
import Derived.Test.YtahamclodagihaaGreatDoorTGLibD
namespace Go.Proofs.YtahamclodagihaaGreatDoor
open Go.RowKit
def cutA (s : List UInt8) : List UInt8 × List UInt8 × Bool := Lib.cut s [64]
theorem cutA_len (s : List UInt8) : (cutA s).1.length ≤ s.length ∧ (cutA s).2.1.length ≤ s.length := by
 unfold cutA Lib.cut
 split
 ·simp; omega
 ·simp
theorem cutA_v (s : ByteArray) (hs : s.size ≤ 1000000) : ∃ (a b : ByteArray) (f : Bool), Hid (a.data.toList = (cutA s.data.toList).1 ∧ b.data.toList = (cutA s.data.toList).2.1 ∧ (cutA s.data.toList).2.2 = f) ∧ a.size ≤ s.size ∧ b.size ≤ s.size ∧
  ∀ W, Mx W → Calls Tryz.prog 134 #[.string s, .string ⟨#[64]⟩] W fun e w' => e = .returned (.tuple #[.string a, .string b, .bool f]) ∧ ∃ n, w' = W.drewN n := by
 obtain ⟨h1, h2⟩ := cutA_len s.data.toList
 rw [size_string] at h1 h2
 exact ⟨⟨(cutA s.data.toList).1.toArray⟩, ⟨(cutA s.data.toList).2.1.toArray⟩, _, hide ⟨rfl, rfl, rfl⟩, h1, h2, fun W hm => cut_v s hs 64 W hm _ _ _ rfl rfl rfl⟩
def mailB (s : List UInt8) : Bool := (cutA s).2.2 && decide (s.length ≤ 128) && locB (cutA s).1 && dnsB (cutA s).2.1
set_option maxHeartbeats 2000000 in
theorem hmail_any (s : ByteArray) (hs : s.size ≤ 1000000) (q : Bool) (hq : mailB s.data.toList = q) (w : World) (hmx : Mx w) :
  Calls Tryz.prog 211 #[.string s] w fun e w' => e = .returned (.bool q) ∧ Below w.heap.size w w' := by
 have hss := size_string s
 obtain ⟨a, b, f, HC, ha, hb, hcut⟩ := cutA_v s hs
 obtain ⟨p1, hp1⟩ : ∃ p, locB a.data.toList = p := ⟨_, rfl⟩
 obtain ⟨p2, hp2⟩ : ∃ p, dnsB b.data.toList = p := ⟨_, rfl⟩
 have HN := hide (show (f && decide (s.size ≤ 128) && p1 && p2) = q by
  obtain ⟨h1, h2, h3⟩ := HC.out
  rw [← hq, mailB, ← h1, ← h2, h3, hp1, hp2, hss])
 have CUT := hide hcut
 have HMX := hide hmx
 have HP1 := hide hp1
 have HP2 := hide hp2
 clear hq hcut hmx hp1 hp2 hss
 cases f
 ·go_enter Tryz.func211, Tryz.ntmps211
  go_wp2_with fail
  refine (CUT.out _ HMX.out).mono ?_
  rintro e w1 ⟨rfl, nn, hw1⟩
  have HB1 := hide (show Below w.heap.size w w1 by rw [hw1]; exact below_drewN (Below.refl _ _) nn)
  clear hw1
  go_wp2_with fail
  go_ret
  exact ⟨ret_bool (by rw [← HN.out]; rfl), HB1.out⟩
 ·by_cases h1 : s.size ≤ 128
  ·have HN2 := hide (show (p1 && p2) = q by rw [← HN.out, decide_eq_true h1]; rfl)
   go_enter Tryz.func211, Tryz.ntmps211
   go_wp2_with fail
   refine (CUT.out _ HMX.out).mono ?_
   rintro e w1 ⟨rfl, nn, hw1⟩
   have HB1 := hide (show Below w.heap.size w w1 by rw [hw1]; exact below_drewN (Below.refl _ _) nn)
   clear hw1
   go_wp2_with fail
   refine (hlocal_any a (by omega) p1 HP1.out _ (HMX.out.below HB1.out)).mono ?_
   rintro e w2 ⟨rfl, hb2⟩
   have HB2 := hide (HB1.out.trans (hb2.mono HB1.out.size))
   clear hb2
   cases p1
   ·go_wp2_with fail
    go_ret
    exact ⟨ret_bool (by rw [← HN2.out]; rfl), HB2.out⟩
   ·go_wp2_with fail
    refine (hdns_any b (by omega) p2 HP2.out _ (HMX.out.below HB2.out)).mono ?_
    rintro e w3 ⟨rfl, hb3⟩
    go_wp2_with fail
    go_ret
    exact ⟨ret_bool (by rw [← HN2.out]; rfl), HB2.out.trans (hb3.mono HB2.out.size)⟩
  ·have HN2 := hide (show false = q by rw [← HN.out, decide_eq_false h1]; rfl)
   go_enter Tryz.func211, Tryz.ntmps211
   go_wp2_with fail
   refine (CUT.out _ HMX.out).mono ?_
   rintro e w1 ⟨rfl, nn, hw1⟩
   have HB1 := hide (show Below w.heap.size w w1 by rw [hw1]; exact below_drewN (Below.refl _ _) nn)
   clear hw1
   go_wp2_with fail
   go_ret
   exact ⟨ret_bool HN2.out, HB1.out⟩
def mbB (s : List UInt8) : Bool := decide (s.length ≤ 128) && (mailB s || dnsB (Lib.trimPrefix s [46]))
theorem trim_len (s p : List UInt8) : (Lib.trimPrefix s p).length ≤ s.length := by
 unfold Lib.trimPrefix
 split
 ·simp
 ·exact Nat.le_refl _
set_option maxHeartbeats 2000000 in
theorem hmb_any (s : ByteArray) (hs : s.size ≤ 1000000) (q : Bool) (hq : mbB s.data.toList = q) (w : World) (hmx : Mx w) :
  Calls Tryz.prog 216 #[.string s] w fun e w' => e = .returned (.bool q) ∧ Below w.heap.size w w' := by
 have hss := size_string s
 obtain ⟨t, ht⟩ : ∃ t : ByteArray, t = ⟨(Lib.trimPrefix s.data.toList [46]).toArray⟩ := ⟨_, rfl⟩
 have ht2 : t.data.toList = Lib.trimPrefix s.data.toList [46] := by rw [ht]
 have hts : t.size ≤ s.size := by
  have := trim_len s.data.toList [46]
  rwa [← ht2, size_string, hss] at this
 obtain ⟨p1, hp1⟩ : ∃ p, mailB s.data.toList = p := ⟨_, rfl⟩
 obtain ⟨p2, hp2⟩ : ∃ p, dnsB t.data.toList = p := ⟨_, rfl⟩
 have HN := hide (show (decide (s.size ≤ 128) && (p1 || p2)) = q by rw [← hq, mbB, ← ht2, hp1, hp2, hss])
 have TP := hide (fun W => ht ▸ Tryz.strings_TrimPrefix s ⟨#[46]⟩ W)
 have HMX := hide hmx
 have HP1 := hide hp1
 have HP2 := hide hp2
 clear hq hmx hp1 hp2 hss ht ht2
 by_cases h1 : s.size ≤ 128
 ·have HN2 := hide (show (p1 || p2) = q by rw [← HN.out, decide_eq_true h1]; rfl)
  go_enter Tryz.func216, Tryz.ntmps216
  go_wp2_with fail
  refine (hmail_any s hs p1 HP1.out _ HMX.out).mono ?_
  rintro e w1 ⟨rfl, hb1⟩
  have HB1 := hide hb1
  clear hb1
  cases p1
  ·go_wp2_with fail
   refine (TP.out _).mono ?_
   rintro e w2 ⟨rfl, rfl⟩
   go_wp2_with fail
   refine (hdns_any t (by omega) p2 HP2.out _ (HMX.out.below HB1.out)).mono ?_
   rintro e w3 ⟨rfl, hb3⟩
   go_wp2_with fail
   go_ret
   exact ⟨ret_bool (by rw [← HN2.out]; rfl), HB1.out.trans (hb3.mono HB1.out.size)⟩
  ·go_wp2_with fail
   go_ret
   exact ⟨ret_bool (by rw [← HN2.out]; rfl), HB1.out⟩
 ·have HN2 := hide (show false = q by rw [← HN.out, decide_eq_false h1]; rfl)
  go_enter Tryz.func216, Tryz.ntmps216
  go_wp2_with fail
  go_ret
  exact ⟨ret_bool HN2.out, Below.refl _ _⟩
def mmB (a b : List UInt8) : Bool := mailB a && mailB b && ((cutA a).1 == (cutA b).1 && eqF (cutA a).2.1 (cutA b).2.1)
set_option maxHeartbeats 4000000 in
theorem hmm_any (a b : ByteArray) (ha : a.size ≤ 1000000) (hb : b.size ≤ 1000000) (q : Bool) (hq : mmB a.data.toList b.data.toList = q) (w : World) (hmx : Mx w) :
  Calls Tryz.prog 212 #[.string a, .string b] w fun e w' => e = .returned (.bool q) ∧ Below w.heap.size w w' := by
 obtain ⟨a1, a2, f, HC, ha1, ha2, hcut⟩ := cutA_v a ha
 obtain ⟨b1, b2, g, HD, hb1, hb2, hcut2⟩ := cutA_v b hb
 obtain ⟨p1, hp1⟩ : ∃ p, mailB a.data.toList = p := ⟨_, rfl⟩
 obtain ⟨p2, hp2⟩ : ∃ p, mailB b.data.toList = p := ⟨_, rfl⟩
 obtain ⟨p3, hp3⟩ : ∃ p, eqF a2.data.toList b2.data.toList = p := ⟨_, rfl⟩
 have HN := hide (show (p1 && p2 && ((a1.data.toList == b1.data.toList) && p3)) = q by
  obtain ⟨h1, h2, -⟩ := HC.out
  obtain ⟨h3, h4, -⟩ := HD.out
  rw [← hq, mmB, hp1, hp2, ← h1, ← h2, ← h3, ← h4, hp3])
 have CUT := hide hcut
 have CUT2 := hide hcut2
 have HMX := hide hmx
 have HP1 := hide hp1
 have HP2 := hide hp2
 have HP3 := hide hp3
 clear hq hcut hcut2 hmx hp1 hp2 hp3
 go_enter Tryz.func212, Tryz.ntmps212
 go_wp2_with fail
 refine (hmail_any a ha p1 HP1.out _ HMX.out).mono ?_
 rintro e w1 ⟨rfl, hw1⟩
 have HB1 := hide hw1
 clear hw1
 cases p1
 ·go_wp2_with fail
  go_ret
  exact ⟨ret_bool (by rw [← HN.out]; rfl), HB1.out⟩
 ·go_wp2_with fail
  refine (hmail_any b hb p2 HP2.out _ (HMX.out.below HB1.out)).mono ?_
  rintro e w2 ⟨rfl, hw2⟩
  have HB2 := hide (HB1.out.trans (hw2.mono HB1.out.size))
  clear hw2
  cases p2
  ·go_wp2_with fail
   go_ret
   exact ⟨ret_bool (by rw [← HN.out]; rfl), HB2.out⟩
  ·go_wp2_with fail
   refine (CUT.out _ (HMX.out.below HB2.out)).mono ?_
   rintro e w3 ⟨rfl, nn, hw3⟩
   have HB3 := hide (show Below w.heap.size w w3 by rw [hw3]; exact below_drewN HB2.out nn)
   clear hw3
   go_wp2_with fail
   refine (CUT2.out _ (HMX.out.below HB3.out)).mono ?_
   rintro e w4 ⟨rfl, nm, hw4⟩
   have HB4 := hide (show Below w.heap.size w w4 by rw [hw4]; exact below_drewN HB3.out nm)
   clear hw4
   by_cases heq : a1.toList = b1.toList
   ·have t1 : (a1.toList == b1.toList) = true := by simpa using heq
    have HN2 := hide (show p3 = q by rw [← HN.out, show (a1.data.toList == b1.data.toList) = true by simpa using (str_eq a1 b1).1 heq]; rfl)
    clear heq
    go_wp2_with fail
    refine (hequal_any a2 b2 (by omega) (by omega) p3 HP3.out _).mono ?_
    rintro e w5 ⟨rfl, hw5⟩
    go_wp2_with fail
    go_ret
    exact ⟨ret_bool HN2.out, HB4.out.trans (hw5.mono HB4.out.size)⟩
   ·have t1 : (a1.toList == b1.toList) = false := by simpa using heq
    have HN2 := hide (show false = q by rw [← HN.out, show (a1.data.toList == b1.data.toList) = false from beq_eq_false_iff_ne.2 (fun e => heq ((str_eq a1 b1).2 e))]; rfl)
    go_wp2_with fail
    go_ret
    exact ⟨ret_bool HN2.out, HB4.out⟩
end Go.Proofs.YtahamclodagihaaGreatDoor
namespace Go.Proofs.YtahamclodagihaaGreatDoor
open Go.RowKit
def whereS (s : List UInt8) : List UInt8 := if (cutA s).2.2 = true then (cutA s).2.1 else s
def mwB (s b : List UInt8) : Bool := mbB b && mbB s && (if mailB b = true then mmB s b else eqF (whereS s) b || (b.getD 0 0 == 46 && endsF (whereS s) b))
theorem mb_nil : mbB [] = false := by decide +kernel
set_option maxHeartbeats 4000000 in
theorem hmw_any (s b : ByteArray) (hs : s.size ≤ 1000000) (hb : b.size ≤ 1000000) (q : Bool) (hq : mwB s.data.toList b.data.toList = q) (w : World) (hmx : Mx w) :
  Calls Tryz.prog 249 #[.string s, .string b] w fun e w' => e = .returned (.bool q) ∧ Below w.heap.size w w' := by
 obtain ⟨a1, a2, f, HC, ha1, ha2, hcut⟩ := cutA_v s hs
 obtain ⟨p1, hp1⟩ : ∃ p, mbB b.data.toList = p := ⟨_, rfl⟩
 obtain ⟨p2, hp2⟩ : ∃ p, mbB s.data.toList = p := ⟨_, rfl⟩
 obtain ⟨p3, hp3⟩ : ∃ p, mailB b.data.toList = p := ⟨_, rfl⟩
 have HN := hide (show (p1 && p2 && (if p3 = true then mmB s.data.toList b.data.toList else eqF (whereS s.data.toList) b.data.toList || (b.data.toList.getD 0 0 == 46 && endsF (whereS s.data.toList) b.data.toList))) = q by rw [← hq, mwB, hp1, hp2, hp3])
 have CUT := hide hcut
 have HMX := hide hmx
 have HP1 := hide hp1
 have HP2 := hide hp2
 have HP3 := hide hp3
 clear hq hcut hmx hp1 hp2 hp3
 go_enter Tryz.func249, Tryz.ntmps249
 go_wp2_with fail
 refine (hmb_any b hb p1 HP1.out _ HMX.out).mono ?_
 rintro e w1 ⟨rfl, hw1⟩
 have HB1 := hide hw1
 clear hw1
 cases p1
 ·go_wp2_with fail
  go_ret
  exact ⟨ret_bool (by rw [← HN.out]; rfl), HB1.out⟩
 ·have hpos : 0 < b.size := by
   rcases Nat.eq_zero_or_pos b.size with h | h
   ·have h1 := HP1.out
    rw [List.eq_nil_of_length_eq_zero (by rw [size_string, h] : b.data.toList.length = 0), mb_nil] at h1
    cases h1
   ·exact h
  go_wp2_with fail
  refine (hmb_any s hs p2 HP2.out _ (HMX.out.below HB1.out)).mono ?_
  rintro e w2 ⟨rfl, hw2⟩
  have HB2 := hide (HB1.out.trans (hw2.mono HB1.out.size))
  clear hw2
  cases p2
  ·go_wp2_with fail
   go_ret
   exact ⟨ret_bool (by rw [← HN.out]; rfl), HB2.out⟩
  ·go_wp2_with fail
   refine (hmail_any b hb p3 HP3.out _ (HMX.out.below HB2.out)).mono ?_
   rintro e w3 ⟨rfl, hw3⟩
   have HB3 := hide (HB2.out.trans (hw3.mono HB2.out.size))
   clear hw3
   cases p3
   ·have HN3 := hide (show (eqF (whereS s.data.toList) b.data.toList || (b[0] == 46 && endsF (whereS s.data.toList) b.data.toList)) = q by rw [← HN.out, getD_str b 0 hpos]; rfl)
    go_wp2_with fail
    refine (CUT.out _ (HMX.out.below HB3.out)).mono ?_
    rintro e w4 ⟨rfl, nn, hw4⟩
    have HB4 := hide (show Below w.heap.size w w4 by rw [hw4]; exact below_drewN HB3.out nn)
    clear hw4
    cases f
    ·have hx : whereS s.data.toList = s.data.toList := by
      obtain ⟨-, -, h3⟩ := HC.out
      rw [whereS, h3]; rfl
     obtain ⟨p4, hp4⟩ : ∃ p, eqF s.data.toList b.data.toList = p := ⟨_, rfl⟩
     obtain ⟨p5, hp5⟩ : ∃ p, endsF s.data.toList b.data.toList = p := ⟨_, rfl⟩
     have HN4 := hide (show (p4 || (b[0] == 46 && p5)) = q by rw [← HN3.out, hx, hp4, hp5])
     have HP4 := hide hp4
     have HP5 := hide hp5
     clear hx hp4 hp5
     go_wp2_with fail
     refine (hequal_any s b (by omega) (by omega) p4 HP4.out _).mono ?_
     rintro e w5 ⟨rfl, hw5⟩
     have HB5 := hide (HB4.out.trans (hw5.mono HB4.out.size))
     clear hw5
     cases p4
     ·by_cases hc : b[0] = 46
      ·have t3 : ((b[0].toNat : Int) == 46) = true := by rw [hc]; rfl
       have HN5 := hide (show p5 = q by rw [← HN4.out, hc]; simp)
       clear hc
       go_wp2_with fail
       refine (hends_any s b (by omega) (by omega) p5 HP5.out _).mono ?_
       rintro e w6 ⟨rfl, hw6⟩
       go_wp2_with fail
       go_ret
       exact ⟨ret_bool HN5.out, HB5.out.trans (hw6.mono HB5.out.size)⟩
      ·have t3 : ((b[0].toNat : Int) == 46) = false := (byte_beq b[0] 46).trans (by simpa using hc)
       have HN5 := hide (show false = q by rw [← HN4.out, show (b[0] == 46) = false by simpa using hc]; rfl)
       clear hc
       go_wp2_with fail
       go_ret
       exact ⟨ret_bool HN5.out, HB5.out⟩
     ·go_wp2_with fail
      go_ret
      exact ⟨ret_bool (by rw [← HN4.out]; rfl), HB5.out⟩
    ·have hx : whereS s.data.toList = a2.data.toList := by
      obtain ⟨-, h2, h3⟩ := HC.out
      rw [whereS, h3, h2]; rfl
     obtain ⟨p4, hp4⟩ : ∃ p, eqF a2.data.toList b.data.toList = p := ⟨_, rfl⟩
     obtain ⟨p5, hp5⟩ : ∃ p, endsF a2.data.toList b.data.toList = p := ⟨_, rfl⟩
     have HN4 := hide (show (p4 || (b[0] == 46 && p5)) = q by rw [← HN3.out, hx, hp4, hp5])
     have HP4 := hide hp4
     have HP5 := hide hp5
     clear hx hp4 hp5
     go_wp2_with fail
     refine (hequal_any a2 b (by omega) (by omega) p4 HP4.out _).mono ?_
     rintro e w5 ⟨rfl, hw5⟩
     have HB5 := hide (HB4.out.trans (hw5.mono HB4.out.size))
     clear hw5
     cases p4
     ·by_cases hc : b[0] = 46
      ·have t3 : ((b[0].toNat : Int) == 46) = true := by rw [hc]; rfl
       have HN5 := hide (show p5 = q by rw [← HN4.out, hc]; simp)
       clear hc
       go_wp2_with fail
       refine (hends_any a2 b (by omega) (by omega) p5 HP5.out _).mono ?_
       rintro e w6 ⟨rfl, hw6⟩
       go_wp2_with fail
       go_ret
       exact ⟨ret_bool HN5.out, HB5.out.trans (hw6.mono HB5.out.size)⟩
      ·have t3 : ((b[0].toNat : Int) == 46) = false := (byte_beq b[0] 46).trans (by simpa using hc)
       have HN5 := hide (show false = q by rw [← HN4.out, show (b[0] == 46) = false by simpa using hc]; rfl)
       clear hc
       go_wp2_with fail
       go_ret
       exact ⟨ret_bool HN5.out, HB5.out⟩
     ·go_wp2_with fail
      go_ret
      exact ⟨ret_bool (by rw [← HN4.out]; rfl), HB5.out⟩
   ·have HN3 := hide (show mmB s.data.toList b.data.toList = q by rw [← HN.out]; rfl)
    go_wp2_with fail
    refine (hmm_any s b hs hb q HN3.out _ (HMX.out.below HB3.out)).mono ?_
    rintro e w4 ⟨rfl, hw4⟩
    go_wp2_with fail
    go_ret
    exact ⟨rfl, HB3.out.trans (hw4.mono HB3.out.size)⟩
def addrB (s : List UInt8) : Bool := s.length == 4 || s.length == 16
set_option maxHeartbeats 400000 in
theorem haddr_any (s : ByteArray) (q : Bool) (hq : addrB s.data.toList = q) (w : World) : Calls Tryz.prog 219 #[.string s] w fun e w' => e = .returned (.bool q) ∧ w = w' := by
 have hss := size_string s
 unfold addrB at hq
 rw [hss] at hq
 have HQ := hide hq
 clear hq hss
 by_cases h4 : s.size = 4
 ·have t1 : ((s.size : Int) == 4) = true := by rw [h4]; rfl
  have HN := hide (show true = q by rw [← HQ.out, h4]; rfl)
  clear h4
  go_enter Tryz.func219, Tryz.ntmps219
  go_wp2_with fail
  go_ret
  exact ⟨ret_bool HN.out, rfl⟩
 ·have t1 : ((s.size : Int) == 4) = false := by rw [beq_eq_false_iff_ne]; omega
  by_cases h16 : s.size = 16
  ·have t2 : ((s.size : Int) == 16) = true := by rw [h16]; rfl
   have HN := hide (show true = q by rw [← HQ.out, h16]; rfl)
   clear h4 h16
   go_enter Tryz.func219, Tryz.ntmps219
   go_wp2_with fail
   go_ret
   exact ⟨ret_bool HN.out, rfl⟩
  ·have t2 : ((s.size : Int) == 16) = false := by rw [beq_eq_false_iff_ne]; omega
   have HN := hide (show false = q by rw [← HQ.out]; simp [h4, h16])
   clear h4 h16
   go_enter Tryz.func219, Tryz.ntmps219
   go_wp2_with fail
   go_ret
   exact ⟨ret_bool HN.out, rfl⟩
theorem halves_any (s : ByteArray) (hs : s.size ≤ 1000000) (w : World) : ∃ a m : ByteArray, Hid (a.data.toList = s.data.toList.take (s.size / 2) ∧ m.data.toList = s.data.toList.drop (s.size / 2)) ∧ a.size = s.size / 2 ∧ m.size = s.size - s.size / 2 ∧
  Calls Tryz.prog 260 #[.string s] w fun e w' => e = .returned (.tuple #[.string a, .string m]) ∧ ∃ n, w' = w.drewN n := by
 have hss := size_string s
 obtain ⟨a, ha⟩ : ∃ a, a = s.extract 0 (s.size / 2) := ⟨_, rfl⟩
 obtain ⟨m, hm⟩ : ∃ m, m = s.extract (s.size / 2) s.size := ⟨_, rfl⟩
 have ha2 : a.data.toList = s.data.toList.take (s.size / 2) := by rw [ha, Lib.extract_data]; simp
 have hm2 : m.data.toList = s.data.toList.drop (s.size / 2) := by
  rw [hm, Lib.extract_data, List.take_of_length_le]
  rw [List.length_drop, hss]; omega
 refine ⟨a, m, hide ⟨ha2, hm2⟩, by rw [← size_string, ha2, List.length_take, hss]; omega, by rw [← size_string, hm2, List.length_drop, hss], ?_⟩
 obtain ⟨h, hh⟩ : ∃ h, h = s.size / 2 := ⟨_, rfl⟩
 have sl1 : ∀ W : World, (Instr.slice 9 (.string s) none (some (.int .i64 (h : Int))) none).run Tryz.prog W = .ok (.string a) W := fun W => by
  have h9 := run_slice_string_h (P := Tryz.prog) W 9 s Tryz.underlying9 .i64 (h : Int) (by omega) (by omega)
  rw [h9, ha, Int.toNat_natCast, hh]
 have sl2 : ∀ W : World, (Instr.slice 9 (.string s) (some (.int .i64 (h : Int))) none none).run Tryz.prog W = .ok (.string m) W := fun W => by
  have h9 := run_slice_string_l (P := Tryz.prog) W 9 s Tryz.underlying9 .i64 (h : Int) (by omega) (by omega)
  rw [h9, hm, Int.toNat_natCast, hh]
 have hq1 : (s.size : Int).tdiv 2 = (h : Int) := by rw [Int.tdiv_eq_ediv_of_nonneg (by omega)]; omega
 have hq2 : (s.size : Int) / 2 = (h : Int) := by omega
 have hq3 : IntKind.i64.wrap (h : Int) = (h : Int) := IntWalk.i64_in _ (by omega)
 clear ha hm ha2 hm2 hh hss
 go_enter Tryz.func260, Tryz.ntmps260
 go_wp2_with fail
 go_quiet (fail)
 go_wp2_with fail
 go_ret2
 exact ⟨rfl, _, rfl⟩
end Go.Proofs.YtahamclodagihaaGreatDoor
namespace Go.Proofs.YtahamclodagihaaGreatDoor
open Go.RowKit
end Go.Proofs.YtahamclodagihaaGreatDoor
namespace Go.Proofs.YtahamclodagihaaGreatDoor
open Go.RowKit
end Go.Proofs.YtahamclodagihaaGreatDoor
namespace Go.Proofs.YtahamclodagihaaGreatDoor
open Go.RowKit
end Go.Proofs.YtahamclodagihaaGreatDoor
namespace Go.Proofs.YtahamclodagihaaGreatDoor
open Go.RowKit
theorem and1 (x : Nat) (h : x < 256) : bits .and .u8 (x : Int) 1 = ((x % 2 : Nat) : Int) := by
 have : ∀ n : Fin 256, bits .and .u8 ((n.1 : Nat) : Int) 1 = ((n.1 % 2 : Nat) : Int) := by decide +kernel
 exact this ⟨x, h⟩
theorem bit_eq (c r : Nat) (h : c < 256) : (bits .and .u8 ((c : Int) / 2 ^ r) 1 == 1) = (c / 2 ^ r % 2 == 1) := by
 have hx : ((c : Int) / 2 ^ r) = ((c / 2 ^ r : Nat) : Int) := by simp
 have hl : c / 2 ^ r < 256 := Nat.lt_of_le_of_lt (Nat.div_le_self _ _) h
 rw [hx, and1 _ hl, Bool.eq_iff_iff]
 simp only [beq_iff_eq]
 omega
def bitAt (l : List UInt8) (i : Nat) : Bool := (l.getD (i / 8) 0).toNat / 2 ^ (7 - i % 8) % 2 == 1
set_option maxHeartbeats 1000000 in
theorem bit_any (s : ByteArray) (i : Nat) (hs : s.size ≤ 1000) (hi : i < 8 * s.size) (q : Bool) (hq : bitAt s.data.toList i = q) (w : World) :
  Calls Tryz.prog 261 #[.string s, .int .i64 (i : Int)] w fun e w' => e = .returned (.bool q) ∧ w = w' := by
 obtain ⟨j, r, hr, rfl⟩ : ∃ j r, r < 8 ∧ i = 8 * j + r := ⟨i / 8, i % 8, by omega, by omega⟩
 have hj : j < s.size := by omega
 have HQ := hide (show (s[j].toNat / 2 ^ (7 - r) % 2 == 1) = q by
  rw [← hq, bitAt, show (8 * j + r) / 8 = j by omega, show (8 * j + r) % 8 = r by omega, getD_str s j hj])
 obtain ⟨I, hI⟩ : ∃ I : Int, I = ((8 * j + r : Nat) : Int) := ⟨_, rfl⟩
 rw [← hI]
 have h1 : I / 8 = (j : Int) := by omega
 have h2 : I % 8 = (r : Int) := by omega
 have h3 : 0 ≤ I := by omega
 have h4 : I ≤ 8000 := by omega
 have hc := byte_lt s[j]
 have hr2 : (r : Int) < 8 := by omega
 clear hq hI
 go_enter Tryz.func261, Tryz.ntmps261
 go_wp2_with fail
 go_ret
 exact ⟨ret_bool ((bit_eq _ _ (by omega)).trans HQ.out), rfl⟩
def rgG (a m : List UInt8) : Nat → Nat → Bool → Bool
 | 0, _, _ => true
 | n + 1, i, over => if (bitAt m i && over) || (!bitAt m i && bitAt a i) then false else rgG a m n (i + 1) (over || !bitAt m i)
def rangeB (s : List UInt8) : Bool := (s.length == 8 || s.length == 32) && rgG (s.take (s.length / 2)) (s.drop (s.length / 2)) (8 * (s.length - s.length / 2)) 0 false
set_option maxHeartbeats 4000000 in
theorem range_any (s : ByteArray) (hs : s.size ≤ 1000000) (q : Bool) (hq : rangeB s.data.toList = q) (w : World) :
  Calls Tryz.prog 218 #[.string s] w fun e w' => e = .returned (.bool q) ∧ Below w.heap.size w w' := by
 have hss := size_string s
 by_cases h8 : s.size = 8 ∨ s.size = 32
 ·obtain ⟨a, m, HAM, haz, hmz, hcalls⟩ := halves_any s hs w
  have HQ := hide (show rgG a.data.toList m.data.toList (8 * m.size) 0 false = q by
   obtain ⟨h1, h2⟩ := HAM.out
   rw [← hq, rangeB, hss, ← h1, ← h2, hmz]
   rcases h8 with h | h <;> simp [h])
  have hms : m.size ≤ 16 := by omega
  have ham : a.size = m.size := by omega
  have t1 : ((s.size : Int) != 8) = false ∨ ((s.size : Int) != 8) = true ∧ ((s.size : Int) != 32) = false := by
   rcases h8 with h | h
   ·left; rw [h]; rfl
   ·right; rw [h]; exact ⟨rfl, rfl⟩
  have HAM2 := hide ham
  have HC := hide hcalls
  have hams : a.size ≤ 16 := by omega
  clear hq haz hmz hcalls ham h8 hss
  rcases t1 with t1 | ⟨t1, t2⟩
  all_goals
   go_enter Tryz.func218, Tryz.ntmps218
   go_wp2_with fail
   refine HC.out.mono ?_
   rintro e w1 ⟨rfl, nn, hw1⟩
   have hb1 : Below w.heap.size w w1 := by rw [hw1]; exact below_drewN (Below.refl _ _) nn
   have HB1 := hide hb1
   clear hw1 hb1 t1
   go_wp2_with fail
   go_loop [5, 6] (fun x5 x6 => ∃ (i : Nat) (ov : Bool), i ≤ 8 * m.size ∧ x5 = .bool ov ∧ x6 = .int .i64 i ∧ Hid (rgG a.data.toList m.data.toList (8 * m.size - i) i ov = q)) (fun _ x6 => 8 * m.size - (intOf x6).toNat)
   case atStart => exact ⟨0, false, by omega, rfl, rfl, HQ⟩
   case round =>
    obtain ⟨i, ov, hi, rfl, rfl, H⟩ := hrel
    by_cases hlt : i < 8 * m.size
    ·obtain ⟨p1, hp1⟩ : ∃ p, bitAt m.data.toList i = p := ⟨_, rfl⟩
     obtain ⟨p2, hp2⟩ : ∃ p, bitAt a.data.toList i = p := ⟨_, rfl⟩
     have HX := hide (show (if (p1 && ov) || (!p1 && p2) then false else rgG a.data.toList m.data.toList (8 * m.size - (i + 1)) (i + 1) (ov || !p1)) = q by
      rw [← H.out, show 8 * m.size - i = (8 * m.size - (i + 1)) + 1 by omega, rgG, hp1, hp2])
     have P1 := hide hp1
     have P2 := hide hp2
     have hia : i < 8 * a.size := by rw [HAM2.out]; exact hlt
     have hlti : (i : Int) < 8 * (m.size : Int) := by omega
     clear hp1 hp2
     go_wp2_with fail
     refine (bit_any m i (by omega) hlt p1 P1.out _).mono ?_
     rintro e w5 ⟨rfl, rfl⟩
     cases p1
     ·go_wp2_with fail
      refine (bit_any a i (by omega) hia p2 P2.out _).mono ?_
      rintro e w5 ⟨rfl, rfl⟩
      cases p2
      ·have HY := hide (show rgG a.data.toList m.data.toList (8 * m.size - (i + 1)) (i + 1) true = q by rw [← HX.out]; simp)
       cases ov
       all_goals
        go_wp2_with fail
        go_round
        case rel => exact ⟨i + 1, true, by omega, rfl, by go_num, HY⟩
        case measure => simp [intOf]; omega
      ·have HY := hide (show false = q by rw [← HX.out]; simp)
       go_wp2_with fail
       go_ret
       exact ⟨ret_bool HY.out, HB1.out⟩
     ·cases ov
      ·have HY := hide (show rgG a.data.toList m.data.toList (8 * m.size - (i + 1)) (i + 1) false = q by rw [← HX.out]; simp)
       go_wp2_with fail
       go_round
       case rel => exact ⟨i + 1, false, by omega, rfl, by go_num, HY⟩
       case measure => simp [intOf]; omega
      ·have HY := hide (show false = q by rw [← HX.out]; simp)
       go_wp2_with fail
       go_ret
       exact ⟨ret_bool HY.out, HB1.out⟩
    ·have HY := hide (show true = q by rw [← H.out, show 8 * m.size - i = 0 by omega, rgG])
     have hlti : ¬ (i : Int) < 8 * (m.size : Int) := by omega
     go_wp2_with fail
     go_ret
     exact ⟨ret_bool HY.out, HB1.out⟩
 ·have t1 : ((s.size : Int) != 8) = true := by rw [bne_iff_ne]; omega
  have t2 : ((s.size : Int) != 32) = true := by rw [bne_iff_ne]; omega
  have HN := hide (show false = q by
   rw [← hq, rangeB, hss]
   have e1 : (s.size == 8) = false := by rw [beq_eq_false_iff_ne]; omega
   have e2 : (s.size == 32) = false := by rw [beq_eq_false_iff_ne]; omega
   rw [e1, e2]; rfl)
  clear hq h8
  go_enter Tryz.func218, Tryz.ntmps218
  go_wp2_with fail
  go_ret
  exact ⟨ret_bool HN.out, Below.refl _ _⟩
end Go.Proofs.YtahamclodagihaaGreatDoor
