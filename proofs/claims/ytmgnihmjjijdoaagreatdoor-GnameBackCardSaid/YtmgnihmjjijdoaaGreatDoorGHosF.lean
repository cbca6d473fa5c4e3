/- The functions of package host: Mail, MailBase, MailMatch, MailWithin. -/
import Derived.Test.YtmgnihmjjijdoaaGreatDoorGHosA
import Derived.Test.YtmgnihmjjijdoaaGreatDoorGLibD
namespace Go.Proofs.YtmgnihmjjijdoaaGreatDoor
open Go.RowKit
def cutA (s : List UInt8) : List UInt8 × List UInt8 × Bool := Lib.cut s [64]
theorem cutA_len (s : List UInt8) : (cutA s).1.length ≤ s.length ∧ (cutA s).2.1.length ≤ s.length := by
 unfold cutA Lib.cut
 split
 ·simp; omega
 ·simp
theorem cutA_v (s : ByteArray) (hs : s.size ≤ 1000000) : ∃ (a b : ByteArray) (f : Bool), Hid (a.data.toList = (cutA s.data.toList).1 ∧ b.data.toList = (cutA s.data.toList).2.1 ∧ (cutA s.data.toList).2.2 = f) ∧ a.size ≤ s.size ∧ b.size ≤ s.size ∧
  ∀ W, Mx W → Calls Tryz.prog 97 #[.string s, .string ⟨#[64]⟩] W fun e w' => e = .returned (.tuple #[.string a, .string b, .bool f]) ∧ ∃ n, w' = W.drewN n := by
 obtain ⟨h1, h2⟩ := cutA_len s.data.toList
 rw [size_string] at h1 h2
 exact ⟨⟨(cutA s.data.toList).1.toArray⟩, ⟨(cutA s.data.toList).2.1.toArray⟩, _, hide ⟨rfl, rfl, rfl⟩, h1, h2, fun W hm => cut_v s hs 64 W hm _ _ _ rfl rfl rfl⟩
def mailB (s : List UInt8) : Bool := (cutA s).2.2 && decide (s.length ≤ 128) && locB (cutA s).1 && dnsB (cutA s).2.1
set_option maxHeartbeats 2000000 in
theorem hmail_any (s : ByteArray) (hs : s.size ≤ 1000000) (q : Bool) (hq : mailB s.data.toList = q) (w : World) (hmx : Mx w) :
  Calls Tryz.prog 98 #[.string s] w fun e w' => e = .returned (.bool q) ∧ Below w.heap.size w w' := by
 have hss := size_string s
 obtain ⟨a, b, f, HC, ha, hb, hcut⟩ := cutA_v s hs
 obtain ⟨p1, hp1⟩ : ∃ p, locB a.data.toList = p := ⟨_, rfl⟩
 obtain ⟨p2, hp2⟩ : ∃ p, dnsB b.data.toList = p := ⟨_, rfl⟩
 have HN := hide (show (f && decide (s.size ≤ 128) && p1 && p2) = q by
  obtain ⟨h1, h2, h3⟩ := HC.out
  rw [← hq, mailB, ← h1, ← h2, h3, hp1, hp2, hss])
 have CUT := hide hcut
 have HMX := hide hmx
 have HP1 := hide hp1
 have HP2 := hide hp2
 clear hq hcut hmx hp1 hp2 hss
 cases f
 ·go_enter Tryz.func98, Tryz.ntmps98
  go_wp2_with fail
  refine (CUT.out _ HMX.out).mono ?_
  rintro e w1 ⟨rfl, nn, hw1⟩
  have HB1 := hide (show Below w.heap.size w w1 by rw [hw1]; exact below_drewN (Below.refl _ _) nn)
  clear hw1
  go_wp2_with fail
  go_ret
  exact ⟨ret_bool (by rw [← HN.out]; rfl), HB1.out⟩
 ·by_cases h1 : s.size ≤ 128
  ·have HN2 := hide (show (p1 && p2) = q by rw [← HN.out, decide_eq_true h1]; rfl)
   go_enter Tryz.func98, Tryz.ntmps98
   go_wp2_with fail
   refine (CUT.out _ HMX.out).mono ?_
   rintro e w1 ⟨rfl, nn, hw1⟩
   have HB1 := hide (show Below w.heap.size w w1 by rw [hw1]; exact below_drewN (Below.refl _ _) nn)
   clear hw1
   go_wp2_with fail
   refine (hlocal_any a (by omega) p1 HP1.out _ (HMX.out.below HB1.out)).mono ?_
   rintro e w2 ⟨rfl, hb2⟩
   have HB2 := hide (HB1.out.trans (hb2.mono HB1.out.size))
   clear hb2
   cases p1
   ·go_wp2_with fail
    go_ret
    exact ⟨ret_bool (by rw [← HN2.out]; rfl), HB2.out⟩
   ·go_wp2_with fail
    refine (hdns_any b (by omega) p2 HP2.out _ (HMX.out.below HB2.out)).mono ?_
    rintro e w3 ⟨rfl, hb3⟩
    go_wp2_with fail
    go_ret
    exact ⟨ret_bool (by rw [← HN2.out]; rfl), HB2.out.trans (hb3.mono HB2.out.size)⟩
  ·have HN2 := hide (show false = q by rw [← HN.out, decide_eq_false h1]; rfl)
   go_enter Tryz.func98, Tryz.ntmps98
   go_wp2_with fail
   refine (CUT.out _ HMX.out).mono ?_
   rintro e w1 ⟨rfl, nn, hw1⟩
   have HB1 := hide (show Below w.heap.size w w1 by rw [hw1]; exact below_drewN (Below.refl _ _) nn)
   clear hw1
   go_wp2_with fail
   go_ret
   exact ⟨ret_bool HN2.out, HB1.out⟩
def mbB (s : List UInt8) : Bool := decide (s.length ≤ 128) && (mailB s || dnsB (Lib.trimPrefix s [46]))
theorem trim_len (s p : List UInt8) : (Lib.trimPrefix s p).length ≤ s.length := by
 unfold Lib.trimPrefix
 split
 ·simp
 ·exact Nat.le_refl _
set_option maxHeartbeats 2000000 in
theorem hmb_any (s : ByteArray) (hs : s.size ≤ 1000000) (q : Bool) (hq : mbB s.data.toList = q) (w : World) (hmx : Mx w) :
  Calls Tryz.prog 123 #[.string s] w fun e w' => e = .returned (.bool q) ∧ Below w.heap.size w w' := by
 have hss := size_string s
 obtain ⟨t, ht⟩ : ∃ t : ByteArray, t = ⟨(Lib.trimPrefix s.data.toList [46]).toArray⟩ := ⟨_, rfl⟩
 have ht2 : t.data.toList = Lib.trimPrefix s.data.toList [46] := by rw [ht]
 have hts : t.size ≤ s.size := by
  have := trim_len s.data.toList [46]
  rwa [← ht2, size_string, hss] at this
 obtain ⟨p1, hp1⟩ : ∃ p, mailB s.data.toList = p := ⟨_, rfl⟩
 obtain ⟨p2, hp2⟩ : ∃ p, dnsB t.data.toList = p := ⟨_, rfl⟩
 have HN := hide (show (decide (s.size ≤ 128) && (p1 || p2)) = q by rw [← hq, mbB, ← ht2, hp1, hp2, hss])
 have TP := hide (fun W => ht ▸ Tryz.strings_TrimPrefix s ⟨#[46]⟩ W)
 have HMX := hide hmx
 have HP1 := hide hp1
 have HP2 := hide hp2
 clear hq hmx hp1 hp2 hss ht ht2
 by_cases h1 : s.size ≤ 128
 ·have HN2 := hide (show (p1 || p2) = q by rw [← HN.out, decide_eq_true h1]; rfl)
  go_enter Tryz.func123, Tryz.ntmps123
  go_wp2_with fail
  refine (hmail_any s hs p1 HP1.out _ HMX.out).mono ?_
  rintro e w1 ⟨rfl, hb1⟩
  have HB1 := hide hb1
  clear hb1
  cases p1
  ·go_wp2_with fail
   refine (TP.out _).mono ?_
   rintro e w2 ⟨rfl, rfl⟩
   go_wp2_with fail
   refine (hdns_any t (by omega) p2 HP2.out _ (HMX.out.below HB1.out)).mono ?_
   rintro e w3 ⟨rfl, hb3⟩
   go_wp2_with fail
   go_ret
   exact ⟨ret_bool (by rw [← HN2.out]; rfl), HB1.out.trans (hb3.mono HB1.out.size)⟩
  ·go_wp2_with fail
   go_ret
   exact ⟨ret_bool (by rw [← HN2.out]; rfl), HB1.out⟩
 ·have HN2 := hide (show false = q by rw [← HN.out, decide_eq_false h1]; rfl)
  go_enter Tryz.func123, Tryz.ntmps123
  go_wp2_with fail
  go_ret
  exact ⟨ret_bool HN2.out, Below.refl _ _⟩
def mmB (a b : List UInt8) : Bool := mailB a && mailB b && ((cutA a).1 == (cutA b).1 && eqF (cutA a).2.1 (cutA b).2.1)
set_option maxHeartbeats 4000000 in
theorem hmm_any (a b : ByteArray) (ha : a.size ≤ 1000000) (hb : b.size ≤ 1000000) (q : Bool) (hq : mmB a.data.toList b.data.toList = q) (w : World) (hmx : Mx w) :
  Calls Tryz.prog 99 #[.string a, .string b] w fun e w' => e = .returned (.bool q) ∧ Below w.heap.size w w' := by
 obtain ⟨a1, a2, f, HC, ha1, ha2, hcut⟩ := cutA_v a ha
 obtain ⟨b1, b2, g, HD, hb1, hb2, hcut2⟩ := cutA_v b hb
 obtain ⟨p1, hp1⟩ : ∃ p, mailB a.data.toList = p := ⟨_, rfl⟩
 obtain ⟨p2, hp2⟩ : ∃ p, mailB b.data.toList = p := ⟨_, rfl⟩
 obtain ⟨p3, hp3⟩ : ∃ p, eqF a2.data.toList b2.data.toList = p := ⟨_, rfl⟩
 have HN := hide (show (p1 && p2 && ((a1.data.toList == b1.data.toList) && p3)) = q by
  obtain ⟨h1, h2, -⟩ := HC.out
  obtain ⟨h3, h4, -⟩ := HD.out
  rw [← hq, mmB, hp1, hp2, ← h1, ← h2, ← h3, ← h4, hp3])
 have CUT := hide hcut
 have CUT2 := hide hcut2
 have HMX := hide hmx
 have HP1 := hide hp1
 have HP2 := hide hp2
 have HP3 := hide hp3
 clear hq hcut hcut2 hmx hp1 hp2 hp3
 go_enter Tryz.func99, Tryz.ntmps99
 go_wp2_with fail
 refine (hmail_any a ha p1 HP1.out _ HMX.out).mono ?_
 rintro e w1 ⟨rfl, hw1⟩
 have HB1 := hide hw1
 clear hw1
 cases p1
 ·go_wp2_with fail
  go_ret
  exact ⟨ret_bool (by rw [← HN.out]; rfl), HB1.out⟩
 ·go_wp2_with fail
  refine (hmail_any b hb p2 HP2.out _ (HMX.out.below HB1.out)).mono ?_
  rintro e w2 ⟨rfl, hw2⟩
  have HB2 := hide (HB1.out.trans (hw2.mono HB1.out.size))
  clear hw2
  cases p2
  ·go_wp2_with fail
   go_ret
   exact ⟨ret_bool (by rw [← HN.out]; rfl), HB2.out⟩
  ·go_wp2_with fail
   refine (CUT.out _ (HMX.out.below HB2.out)).mono ?_
   rintro e w3 ⟨rfl, nn, hw3⟩
   have HB3 := hide (show Below w.heap.size w w3 by rw [hw3]; exact below_drewN HB2.out nn)
   clear hw3
   go_wp2_with fail
   refine (CUT2.out _ (HMX.out.below HB3.out)).mono ?_
   rintro e w4 ⟨rfl, nm, hw4⟩
   have HB4 := hide (show Below w.heap.size w w4 by rw [hw4]; exact below_drewN HB3.out nm)
   clear hw4
   by_cases heq : a1.toList = b1.toList
   ·have t1 : (a1.toList == b1.toList) = true := by simpa using heq
    have HN2 := hide (show p3 = q by rw [← HN.out, show (a1.data.toList == b1.data.toList) = true by simpa using (str_eq a1 b1).1 heq]; rfl)
    clear heq
    go_wp2_with fail
    refine (hequal_any a2 b2 (by omega) (by omega) p3 HP3.out _).mono ?_
    rintro e w5 ⟨rfl, hw5⟩
    go_wp2_with fail
    go_ret
    exact ⟨ret_bool HN2.out, HB4.out.trans (hw5.mono HB4.out.size)⟩
   ·have t1 : (a1.toList == b1.toList) = false := by simpa using heq
    have HN2 := hide (show false = q by rw [← HN.out, show (a1.data.toList == b1.data.toList) = false from beq_eq_false_iff_ne.2 (fun e => heq ((str_eq a1 b1).2 e))]; rfl)
    go_wp2_with fail
    go_ret
    exact ⟨ret_bool HN2.out, HB4.out⟩
end Go.Proofs.YtmgnihmjjijdoaaGreatDoor
namespace Go.Proofs.YtmgnihmjjijdoaaGreatDoor
open Go.RowKit
def addrB (s : List UInt8) : Bool := s.length == 4 || s.length == 16
set_option maxHeartbeats 400000 in
theorem haddr_any (s : ByteArray) (q : Bool) (hq : addrB s.data.toList = q) (w : World) : Calls Tryz.prog 126 #[.string s] w fun e w' => e = .returned (.bool q) ∧ w = w' := by
 have hss := size_string s
 unfold addrB at hq
 rw [hss] at hq
 have HQ := hide hq
 clear hq hss
 by_cases h4 : s.size = 4
 ·have t1 : ((s.size : Int) == 4) = true := by rw [h4]; rfl
  have HN := hide (show true = q by rw [← HQ.out, h4]; rfl)
  clear h4
  go_enter Tryz.func126, Tryz.ntmps126
  go_wp2_with fail
  go_ret
  exact ⟨ret_bool HN.out, rfl⟩
 ·have t1 : ((s.size : Int) == 4) = false := by rw [beq_eq_false_iff_ne]; omega
  by_cases h16 : s.size = 16
  ·have t2 : ((s.size : Int) == 16) = true := by rw [h16]; rfl
   have HN := hide (show true = q by rw [← HQ.out, h16]; rfl)
   clear h4 h16
   go_enter Tryz.func126, Tryz.ntmps126
   go_wp2_with fail
   go_ret
   exact ⟨ret_bool HN.out, rfl⟩
  ·have t2 : ((s.size : Int) == 16) = false := by rw [beq_eq_false_iff_ne]; omega
   have HN := hide (show false = q by rw [← HQ.out]; simp [h4, h16])
   clear h4 h16
   go_enter Tryz.func126, Tryz.ntmps126
   go_wp2_with fail
   go_ret
   exact ⟨ret_bool HN.out, rfl⟩
theorem halves_any (s : ByteArray) (hs : s.size ≤ 1000000) (w : World) : ∃ a m : ByteArray, Hid (a.data.toList = s.data.toList.take (s.size / 2) ∧ m.data.toList = s.data.toList.drop (s.size / 2)) ∧ a.size = s.size / 2 ∧ m.size = s.size - s.size / 2 ∧
  Calls Tryz.prog 175 #[.string s] w fun e w' => e = .returned (.tuple #[.string a, .string m]) ∧ ∃ n, w' = w.drewN n := by
 have hss := size_string s
 obtain ⟨a, ha⟩ : ∃ a, a = s.extract 0 (s.size / 2) := ⟨_, rfl⟩
 obtain ⟨m, hm⟩ : ∃ m, m = s.extract (s.size / 2) s.size := ⟨_, rfl⟩
 have ha2 : a.data.toList = s.data.toList.take (s.size / 2) := by rw [ha, Lib.extract_data]; simp
 have hm2 : m.data.toList = s.data.toList.drop (s.size / 2) := by
  rw [hm, Lib.extract_data, List.take_of_length_le]
  rw [List.length_drop, hss]; omega
 refine ⟨a, m, hide ⟨ha2, hm2⟩, by rw [← size_string, ha2, List.length_take, hss]; omega, by rw [← size_string, hm2, List.length_drop, hss], ?_⟩
 obtain ⟨h, hh⟩ : ∃ h, h = s.size / 2 := ⟨_, rfl⟩
 have sl1 : ∀ W : World, (Instr.slice 9 (.string s) none (some (.int .i64 (h : Int))) none).run Tryz.prog W = .ok (.string a) W := fun W => by
  have h9 := run_slice_string_h (P := Tryz.prog) W 9 s Tryz.underlying9 .i64 (h : Int) (by omega) (by omega)
  rw [h9, ha, Int.toNat_natCast, hh]
 have sl2 : ∀ W : World, (Instr.slice 9 (.string s) (some (.int .i64 (h : Int))) none none).run Tryz.prog W = .ok (.string m) W := fun W => by
  have h9 := run_slice_string_l (P := Tryz.prog) W 9 s Tryz.underlying9 .i64 (h : Int) (by omega) (by omega)
  rw [h9, hm, Int.toNat_natCast, hh]
 have hq1 : (s.size : Int).tdiv 2 = (h : Int) := by rw [Int.tdiv_eq_ediv_of_nonneg (by omega)]; omega
 have hq2 : (s.size : Int) / 2 = (h : Int) := by omega
 have hq3 : IntKind.i64.wrap (h : Int) = (h : Int) := IntWalk.i64_in _ (by omega)
 clear ha hm ha2 hm2 hh hss
 go_enter Tryz.func175, Tryz.ntmps175
 go_wp2_with fail
 go_quiet (fail)
 go_wp2_with fail
 go_ret2
 exact ⟨rfl, _, rfl⟩
end Go.Proofs.YtmgnihmjjijdoaaGreatDoor
namespace Go.Proofs.YtmgnihmjjijdoaaGreatDoor
open Go.RowKit
theorem rlow_v (s : ByteArray) (hs : s.size ≤ 1000000) (w : World) :
  Calls Tryz.prog 91 #[.string s] w fun e w' => ∃ t : ByteArray, Hid (t.data.toList = s.data.toList.map low) ∧ e = .returned (.string t) ∧ Below w.heap.size w w' :=
 (Lower_any s hs w).mono fun _ _ ⟨he, hb⟩ => ⟨_, hide rfl, he, hb⟩
set_option maxHeartbeats 1000000 in
theorem ralike_any (a b : ByteArray) (ha : a.size ≤ 1000000) (hb : b.size ≤ 1000000) (q : Bool) (hq : eqF a.data.toList b.data.toList = q) (w : World) :
  Calls Tryz.prog 53 #[.string a, .string b] w fun e w' => e = .returned (.bool q) ∧ Below w.heap.size w w' := by
 have HQ := hide hq
 clear hq
 go_enter Tryz.func53, Tryz.ntmps53
 go_wp2_with fail
 refine (rlow_v a ha _).mono ?_
 rintro e w1 ⟨t, HT, rfl, hb1⟩
 have HB1 := hide hb1
 clear hb1
 go_wp2_with fail
 refine (rlow_v b hb _).mono ?_
 rintro e w2 ⟨u, HU, rfl, hb2⟩
 have HB2 := hide (HB1.out.trans (hb2.mono HB1.out.size))
 clear hb2
 go_wp2_with fail
 go_ret
 exact ⟨ret_bool (by rw [str_beq, HT.out, HU.out, ← HQ.out]; rfl), HB2.out⟩
theorem lab_alnum (c : UInt8) : labC c = (alnum c || c == 45) := by
 rfl
theorem alnum_v (c : UInt8) (q : Bool) (hq : alnum c = q) (w : World) : Calls Tryz.prog 113 #[.int .u8 (c.toNat : Int)] w fun e w' => e = .returned (.bool q) ∧ w = w' := hq ▸ Alnum_any c w
set_option maxRecDepth 100000 in
set_option maxHeartbeats 8000000 in
theorem rdns_any (s : ByteArray) (hs : s.size ≤ 1000000) (q : Bool) (hq : dnsB s.data.toList = q) (w : World) :
  Calls Tryz.prog 129 #[.string s] w fun e w' => e = .returned (.bool q) ∧ Below w.heap.size w w' := by
 have hss := size_string s
 by_cases h1 : s.size ≤ 128
 ·have hn1 : ¬ 128 < s.size := by omega
  obtain ⟨ps, hps⟩ : ∃ ps, splitC 46 s.data.toList = ps := ⟨_, rfl⟩
  have H0 := hide (show q = (ps.drop 0).all labB by rw [← hq, dnsB, hss, decide_eq_true h1, hps]; rfl)
  have HPL := hide (show ∀ p ∈ ps, p.length ≤ 128 from fun p hp => by
   have := splitC_mem_len 46 s.data.toList p (hps ▸ hp)
   omega)
  have hpl : ps.length ≤ 129 := by
   have := splitC_len 46 s.data.toList
   rw [hps] at this
   omega
  have SP := hide (fun W => hps ▸ rSplit_any s (by omega) 46 W)
  clear hq hps hss
  go_enter Tryz.func129, Tryz.ntmps129
  go_wp2_with fail
  refine (SP.out _).mono ?_
  rintro e w1 ⟨v, rfl, hb1, hsl⟩
  obtain ⟨A, c, hv⟩ := hsl.shape
  subst hv
  have HB1 := hide hb1
  have HSL := hide hsl
  clear hb1 hsl
  go_wp2_with fail
  go_loopw [12] (fun i wr => ∃ k : Nat, k ≤ ps.length ∧ i = .int .i64 k ∧ Below w1.heap.size w1 wr ∧ Hid (q = (ps.drop k).all labB)) (fun i _ => ps.length - (intOf i).toNat)
  case atStart => exact ⟨0, Nat.zero_le _, rfl, Below.refl _ _, H0⟩
  case round =>
   obtain ⟨k, hk, rfl, hb, H⟩ := hrel
   have HBW := hide (HB1.out.trans (hb.mono HB1.out.size))
   by_cases hlt : k < ps.length
   ·obtain ⟨bk, off, xs, hA, hbS, hx, hcell⟩ := HSL.out.at_ hlt
    subst hA
    have hpp := HPL.out ps[k] (List.getElem_mem hlt)
    have HX := hide (show q = (labB ps[k] && (ps.drop (k + 1)).all labB) by rw [H.out, List.drop_eq_getElem_cons hlt, List.all_cons])
    obtain ⟨p, hp⟩ : ∃ p : ByteArray, p = ⟨ps[k].toArray⟩ := ⟨_, rfl⟩
    have hp2 : ps[k] = p.data.toList := by rw [hp]
    have hxs : xs = strC ps[k] := hx
    rw [hxs] at hcell
    have e0 := hcell 0 (.string p) (by rw [hp]; rfl)
    have d0 : wr.cell? ⟨bk, off + k, none⟩ = some (.string p) := (hb.cell (p := ⟨bk, off + k, none⟩) hbS.2).trans (by simpa using e0)
    have hlt' : (k : Int) < (ps.length : Int) := by omega
    rw [hp2] at HX hpp
    rw [size_string] at hpp
    have hsp := size_string p
    have HB := hide hb
    clear hx hcell hp hp2 hxs e0 hb
    by_cases g1 : 1 ≤ p.size
    ·have m1 : ¬ p.size < 1 := by omega
     by_cases g2 : p.size ≤ 63
     ·have m2 : ¬ 63 < p.size := by omega
      have hq2 : labB p.data.toList = (!(p[0] == 45) && !(p[p.size - 1] == 45) && p.data.toList.all labC) := by
       rw [labB, hsp, decide_eq_true g1, decide_eq_true g2, getD_str p 0 (by omega), getD_str p (p.size - 1) (by omega)]; rfl
      have hp0 : 0 < p.size := by omega
      by_cases g3 : p[0] = 45
      ·have t3 : ((p[0].toNat : Int) == 45) = true := by rw [g3]; rfl
       have HN := hide (show q = false by rw [HX.out, hq2, g3]; rfl)
       clear g3 hq2
       go_wp2_with fail
       go_ret
       exact ⟨ret_bool HN.out.symm, HBW.out⟩
      ·have t3 : ((p[0].toNat : Int) == 45) = false := (byte_beq p[0] 45).trans (by simpa using g3)
       have hix : ∀ W : World, (Instr.index 9 (.string p) (.int .i64 ((p.size : Int) - 1))).run Tryz.prog W = .ok (.int .u8 (p[p.size - 1].toNat : Int)) W := fun W => by
        have h9 := run_index_string (P := Tryz.prog) (w := W) 9 p .i64 ((p.size : Int) - 1) Tryz.underlying9
        rw [h9, dif_pos (by omega)]
        have h8 : ((p.size : Int) - 1).toNat = p.size - 1 := by omega
        simp only [h8]
       obtain ⟨cl, hcl⟩ : ∃ cl, p[p.size - 1] = cl := ⟨_, rfl⟩
       rw [hcl] at hix hq2
       by_cases g4 : cl = 45
       ·have t4 : ((cl.toNat : Int) == 45) = true := by rw [g4]; rfl
        have HN := hide (show q = false by rw [HX.out, hq2, g4]; simp)
        clear g3 g4 hq2 hcl
        go_wp2_with fail
        go_ret
        exact ⟨ret_bool HN.out.symm, HBW.out⟩
       ·have t4 : ((cl.toNat : Int) == 45) = false := (byte_beq cl 45).trans (by simpa using g4)
        have HX2 := hide (show q = ((p.data.toList.drop 0).all labC && (ps.drop (k + 1)).all labB) by
         have e3 : (p[0] == 45) = false := by simpa using g3
         have e4 : (cl == 45) = false := by simpa using g4
         rw [HX.out, hq2, e3, e4]; rfl)
        clear g3 g4 hq2 hcl HX
        go_wp2_with fail
        clear t3 t4 hix d0
        go_loopw [5] (fun i wi => ∃ j : Nat, j ≤ p.size ∧ i = .int .i64 j ∧ wr = wi ∧ Hid (q = ((p.data.toList.drop j).all labC && (ps.drop (k + 1)).all labB))) (fun i _ => p.size - (intOf i).toNat)
        case atStart => exact ⟨0, Nat.zero_le _, rfl, rfl, HX2⟩
        case round =>
         obtain ⟨j, hj, rfl, rfl, H3⟩ := hrel
         by_cases hjl : j < p.size
         ·have hjl' : (j : Int) < (p.size : Int) := by omega
          obtain ⟨b, hbj⟩ : ∃ b, p[j] = b := ⟨_, rfl⟩
          have hixj : ∀ W : World, (Instr.index 9 (.string p) (.int .i64 (j : Int))).run Tryz.prog W = .ok (.int .u8 (b.toNat : Int)) W := fun W => by
           have h9 := run_index_string (P := Tryz.prog) (w := W) 9 p .i64 (j : Int) Tryz.underlying9
           rw [h9, dif_pos (by omega)]
           simp only [Int.toNat_natCast, hbj]
          obtain ⟨p1, hp1⟩ : ∃ x, alnum b = x := ⟨_, rfl⟩
          obtain ⟨p3, hp3⟩ : ∃ x, (b == 45) = x := ⟨_, rfl⟩
          have HX4 := hide (show q = ((p1 || p3) && ((p.data.toList.drop (j + 1)).all labC && (ps.drop (k + 1)).all labB)) by
           rw [H3.out, drop_string p j hjl, List.all_cons, hbj, lab_alnum, hp1, hp3, Bool.and_assoc])
          have t5 : ((b.toNat : Int) == 45) = p3 := (byte_beq b 45).trans hp3
          have t6 : ((b.toNat : Int) != 45) = !p3 := by rw [bne, t5]
          have P1 := hide hp1
          clear hp1 hp3 hbj H3
          go_wp2_with fail
          refine (alnum_v b p1 P1.out _).mono ?_
          rintro e w5 ⟨rfl, rfl⟩
          cases p1
          ·cases p3
           ·have HN := hide (show q = false from HX4.out.trans (by simp))
            go_wp2_with fail
            go_ret
            exact ⟨ret_bool HN.out.symm, HBW.out⟩
           ·have HY := hide (show q = ((p.data.toList.drop (j + 1)).all labC && (ps.drop (k + 1)).all labB) from HX4.out.trans (by simp))
            go_wp2_with fail
            go_roundw
            case rel => exact ⟨j + 1, by omega, by go_num, trivial, HY⟩
            case measure => simp [intOf]; omega
          ·have HY := hide (show q = ((p.data.toList.drop (j + 1)).all labC && (ps.drop (k + 1)).all labB) from HX4.out.trans (by simp))
           go_wp2_with fail
           go_roundw
           case rel => exact ⟨j + 1, by omega, by go_num, trivial, HY⟩
           case measure => simp [intOf]; omega
         ·have HY := hide (show q = (ps.drop (k + 1)).all labB by rw [H3.out, drop_string_end p j (by omega)]; rfl)
          clear H3
          go_wp2_with fail
          go_roundw
          case rel => exact ⟨k + 1, by omega, by go_num, HB.out, HY⟩
          case measure => simp [intOf]; omega
     ·have m2 : 63 < p.size := by omega
      have HN := hide (show q = false from by rw [HX.out, labB, hsp, decide_eq_false g2]; simp)
      go_wp2_with fail
      go_ret
      exact ⟨ret_bool HN.out.symm, HBW.out⟩
    ·have m1 : p.size < 1 := by omega
     have HN := hide (show q = false from by rw [HX.out, labB, hsp, decide_eq_false g1]; simp)
     go_wp2_with fail
     go_ret
     exact ⟨ret_bool HN.out.symm, HBW.out⟩
   ·have HY := hide (show q = true by rw [H.out, List.drop_of_length_le (by omega)]; rfl)
    clear hb
    go_wp2_with fail
    go_ret
    exact ⟨ret_bool HY.out.symm, HBW.out⟩
 ·have hn1 : 128 < s.size := by omega
  have HN := hide (show q = false by rw [← hq, dnsB, hss, decide_eq_false h1]; rfl)
  clear hq
  go_enter Tryz.func129, Tryz.ntmps129
  go_wp2_with fail
  go_ret
  exact ⟨ret_bool HN.out.symm, Below.refl _ _⟩
set_option maxHeartbeats 1000000 in
theorem rbase_any (s : ByteArray) (hs : s.size ≤ 1000000) (q : Bool) (hq : baseB s.data.toList = q) (w : World) :
  Calls Tryz.prog 83 #[.string s] w fun e w' => e = .returned (.bool q) ∧ Below w.heap.size w w' := by
 rcases empty_cases s with ⟨h0, h1, h2, h3⟩ | ⟨h0, h1, h2, h3⟩
 ·have HN := hide (show q = true by rw [← hq, baseB, emptyB, h0]; rfl)
  clear hq h0
  go_enter Tryz.func83, Tryz.ntmps83
  go_wp2_with fail
  go_ret
  exact ⟨ret_bool HN.out.symm, Below.refl _ _⟩
 ·have HN := hide (show dnsB s.data.toList = q by rw [← hq, baseB, emptyB, show (s.data.toList == []) = false by simpa using h0]; rfl)
  clear hq h0
  go_enter Tryz.func83, Tryz.ntmps83
  go_wp2_with fail
  refine (rdns_any s hs q HN.out _).mono ?_
  rintro e w1 ⟨rfl, hb1⟩
  go_wp2_with fail
  go_ret
  exact ⟨rfl, hb1⟩
end Go.Proofs.YtmgnihmjjijdoaaGreatDoor
namespace Go.Proofs.YtmgnihmjjijdoaaGreatDoor
open Go.RowKit
theorem ib_cases : ∀ (l : List UInt8) (c : UInt8), Lib.indexByte l c = -1 ∨ 0 ≤ Lib.indexByte l c
  | [], _ => .inl rfl
  | b :: l, c => by
    unfold Lib.indexByte
    rcases ib_cases l c with h | h
    · rw [h]
      by_cases hb : (b == c) = true
      · rw [if_pos hb]; exact .inr (by omega)
      · rw [if_neg hb]; exact .inl rfl
    · by_cases hb : (b == c) = true
      · rw [if_pos hb]; exact .inr (by omega)
      · rw [if_neg hb]
        have : (Lib.indexByte l c == -1) = false := by rw [beq_eq_false_iff_ne]; omega
        rw [this]
        exact .inr (by show (0 : Int) ≤ Lib.indexByte l c + 1; omega)
theorem split_more (l : List UInt8) (c : UInt8) : decide (1 < (splitC c l).length) = decide (0 ≤ Lib.indexByte l c) := by
 rw [splitC_index]
 rcases ib_cases l c with h | h
 ·rw [if_pos h, h]; rfl
 ·rw [if_neg (by omega), decide_eq_true h]
  have hn := splitC_ne c (l.drop ((Lib.indexByte l c).toNat + 1))
  have : 0 < (splitC c (l.drop ((Lib.indexByte l c).toNat + 1))).length := List.length_pos_iff.2 hn
  rw [List.length_cons, decide_eq_true (by omega)]
theorem pat_form (s : List UInt8) : (∃ r, s = 42 :: 46 :: r) ∨ (Lib.hasPrefix s [42, 46] = false ∧ (s.take 2 == [42, 46]) = false) := by
  match s with
  | [] => exact .inr ⟨rfl, rfl⟩
  | [a] =>
    refine .inr ⟨?_, ?_⟩
    · unfold Lib.hasPrefix
      cases h : ((42 : UInt8) == a) <;> simp [List.isPrefixOf, h]
    · simp
  | a :: b :: r =>
    by_cases h : a = 42 ∧ b = 46
    · obtain ⟨rfl, rfl⟩ := h
      exact .inl ⟨r, rfl⟩
    · refine .inr ⟨?_, ?_⟩
      · rw [Bool.eq_false_iff]
        intro h2
        unfold Lib.hasPrefix at h2
        simp only [List.isPrefixOf, Bool.and_eq_true, beq_iff_eq] at h2
        exact h ⟨h2.1.symm, h2.2.1.symm⟩
      · rw [beq_eq_false_iff_ne]
        intro h2
        simp only [List.take_succ_cons, List.take_zero, List.cons.injEq, and_true] at h2
        exact h h2
theorem dns_star (r : List UInt8) : dnsB (42 :: 46 :: r) = false := by
 have h := splitC_hit 46 [42] r (by simp)
 have h2 : splitC 46 (42 :: 46 :: r) = [42] :: splitC 46 r := h
 unfold dnsB
 rw [h2, List.all_cons, show labB [42] = false by decide, Bool.false_and, Bool.and_false]
theorem dns_nil : dnsB [] = false := by decide
theorem rpat_eq (s : List UInt8) : patB s = (dnsB s || (decide (s.length ≤ 128) && decide (2 < s.length) && (s.take 2 == [42, 46]) && dnsB (s.drop 2) && decide (2 < (splitC 46 s).length))) := by
 rcases pat_form s with ⟨r, rfl⟩ | ⟨h1, h2⟩
 ·have h2 : splitC 46 (42 :: 46 :: r) = [42] :: splitC 46 r := splitC_hit 46 [42] r (by simp)
  rw [dns_star, h2, patB, if_pos (by rfl), ← split_more]
  simp only [List.drop_succ_cons, List.drop_zero, List.take_succ_cons, List.take_zero, List.length_cons, Bool.false_or]
  by_cases hr : r = []
  ·subst hr; rw [dns_nil]; simp
  ·have hl : 0 < r.length := List.length_pos_iff.2 hr
   rw [decide_eq_true (show 2 < r.length + 1 + 1 by omega), show decide (2 < (splitC 46 r).length + 1) = decide (1 < (splitC 46 r).length) by rw [decide_eq_decide]; omega]
   simp
 ·rw [patB, if_neg (by rw [h1]; decide), h2]
  simp
set_option maxHeartbeats 2000000 in
theorem rpattern_any (s : ByteArray) (hs : s.size ≤ 1000000) (q : Bool) (hq : patB s.data.toList = q) (w : World) :
  Calls Tryz.prog 84 #[.string s] w fun e w' => e = .returned (.bool q) ∧ Below w.heap.size w w' := by
 have hss := size_string s
 rw [rpat_eq, hss] at hq
 obtain ⟨p0, hp0⟩ : ∃ p, dnsB s.data.toList = p := ⟨_, rfl⟩
 rw [hp0] at hq
 have HP0 := hide hp0
 clear hp0
 cases p0
 ·by_cases h1 : s.size ≤ 128
  ·by_cases h2 : 2 < s.size
   ·rw [decide_eq_true h1, decide_eq_true h2] at hq
    obtain ⟨x, hx⟩ : ∃ x : ByteArray, x = s.extract 0 2 := ⟨_, rfl⟩
    obtain ⟨y, hy⟩ : ∃ y : ByteArray, y = s.extract 2 s.size := ⟨_, rfl⟩
    have hxl : x.data.toList = s.data.toList.take 2 := by rw [hx, Lib.extract_data]; simp
    have hyl : y.data.toList = s.data.toList.drop 2 := by
     rw [hy, Lib.extract_data, List.take_of_length_le]
     rw [List.length_drop, hss]; omega
    have hys : y.size ≤ 1000000 := by rw [hy, ba_size_ex _ _ _ (Nat.le_refl _)]; omega
    have HS1 : ∀ W : World, (Instr.slice 9 (.string s) none (some (.int .i64 2)) none).run Tryz.prog W = .ok (.string x) W := fun W => by
     have h9 := run_slice_string_h (P := Tryz.prog) W 9 s Tryz.underlying9 .i64 2 (by omega) (by omega)
     rw [h9, hx]; rfl
    have HS2 : ∀ W : World, (Instr.slice 9 (.string s) (some (.int .i64 2)) none none).run Tryz.prog W = .ok (.string y) W := fun W => by
     have h9 := run_slice_string_l (P := Tryz.prog) W 9 s Tryz.underlying9 .i64 2 (by omega) (by omega)
     rw [h9, hy]; rfl
    rw [← hxl, ← hyl] at hq
    obtain ⟨p1, hp1⟩ : ∃ p, (x.data.toList == [42, 46]) = p := ⟨_, rfl⟩
    have t1 : (x.toList == (⟨#[42, 46]⟩ : ByteArray).toList) = p1 := by rw [str_beq]; exact hp1
    obtain ⟨p2, hp2⟩ : ∃ p, dnsB y.data.toList = p := ⟨_, rfl⟩
    obtain ⟨ps, hps⟩ : ∃ ps, splitC 46 s.data.toList = ps := ⟨_, rfl⟩
    rw [hp1, hp2, hps] at hq
    have HP2 := hide hp2
    have SP := hide (fun W => hps ▸ rSplit_any s (by omega) 46 W)
    have HQ := hide (show (p1 && p2 && decide (2 < ps.length)) = q by rw [← hq]; rfl)
    have e1 : (s.size : Int) ≤ 128 := by omega
    have e2 : (2 : Int) < (s.size : Int) := by omega
    clear hq hxl hyl hx hy hp1 hp2 hps hss
    go_enter Tryz.func84, Tryz.ntmps84
    go_wp2_with fail
    refine (rdns_any s hs false HP0.out _).mono ?_
    rintro e w1 ⟨rfl, hb1⟩
    cases p1
    ·have n1 : ¬ x.toList = [42, 46] := fun h => by
      rw [h] at t1
      rw [ByteArray.toList_eq] at t1
      exact absurd t1 (by decide)
     have HN := hide (show q = false from HQ.out.symm)
     go_wp2_with fail
     go_ret
     exact ⟨ret_bool HN.out.symm, hb1⟩
    ·have n1 : x.toList = [42, 46] := by
      rw [eq_of_beq t1, ByteArray.toList_eq]
     have HB1 := hide hb1
     clear hb1
     go_wp2_with fail
     refine (rdns_any y hys p2 HP2.out _).mono ?_
     rintro e w2 ⟨rfl, hb2⟩
     have HB2 := hide (HB1.out.trans (hb2.mono HB1.out.size))
     clear hb2
     cases p2
     ·have HN := hide (show q = false from HQ.out.symm)
      go_wp2_with fail
      go_ret
      exact ⟨ret_bool HN.out.symm, HB2.out⟩
     ·go_wp2_with fail
      refine (SP.out _).mono ?_
      rintro e w3 ⟨v, rfl, hb3, hsl⟩
      obtain ⟨A, c, hv⟩ := hsl.shape
      subst hv
      have HB3 := hide (HB2.out.trans (hb3.mono HB2.out.size))
      clear hb3 hsl
      go_wp2_with fail
      go_ret
      exact ⟨ret_bool (by rw [← HQ.out]; simp; omega), HB3.out⟩
   ·have HQ := hide (show q = false by rw [← hq, decide_eq_false h2]; simp)
    have e1 : (s.size : Int) ≤ 128 := by omega
    have e2 : ¬ (2 : Int) < (s.size : Int) := by omega
    clear hq hss
    go_enter Tryz.func84, Tryz.ntmps84
    go_wp2_with fail
    refine (rdns_any s hs false HP0.out _).mono ?_
    rintro e w1 ⟨rfl, hb1⟩
    have HN := hide (show q = false from HQ.out)
    go_wp2_with fail
    go_ret
    exact ⟨ret_bool HN.out.symm, hb1⟩
  ·have HQ := hide (show q = false by rw [← hq, decide_eq_false h1]; simp)
   have e1 : ¬ (s.size : Int) ≤ 128 := by omega
   clear hq hss
   go_enter Tryz.func84, Tryz.ntmps84
   go_wp2_with fail
   refine (rdns_any s hs false HP0.out _).mono ?_
   rintro e w1 ⟨rfl, hb1⟩
   have HN := hide (show q = false from HQ.out)
   go_wp2_with fail
   go_ret
   exact ⟨ret_bool HN.out.symm, hb1⟩
 ·have HQ := hide (show true = q by rw [← hq]; rfl)
  clear hq hss
  go_enter Tryz.func84, Tryz.ntmps84
  go_wp2_with fail
  refine (rdns_any s hs true HP0.out _).mono ?_
  rintro e w1 ⟨rfl, hb1⟩
  go_wp2_with fail
  go_ret
  exact ⟨ret_bool HQ.out, hb1⟩
end Go.Proofs.YtmgnihmjjijdoaaGreatDoor
namespace Go.Proofs.YtmgnihmjjijdoaaGreatDoor
open Go.RowKit
end Go.Proofs.YtmgnihmjjijdoaaGreatDoor
namespace Go.Proofs.YtmgnihmjjijdoaaGreatDoor
open Go.RowKit
theorem and1 (x : Nat) (h : x < 256) : bits .and .u8 (x : Int) 1 = ((x % 2 : Nat) : Int) := by
 have : ∀ n : Fin 256, bits .and .u8 ((n.1 : Nat) : Int) 1 = ((n.1 % 2 : Nat) : Int) := by decide +kernel
 exact this ⟨x, h⟩
theorem bit_eq (c r : Nat) (h : c < 256) : (bits .and .u8 ((c : Int) / 2 ^ r) 1 == 1) = (c / 2 ^ r % 2 == 1) := by
 have hx : ((c : Int) / 2 ^ r) = ((c / 2 ^ r : Nat) : Int) := by simp
 have hl : c / 2 ^ r < 256 := Nat.lt_of_le_of_lt (Nat.div_le_self _ _) h
 rw [hx, and1 _ hl, Bool.eq_iff_iff]
 simp only [beq_iff_eq]
 omega
def bitAt (l : List UInt8) (i : Nat) : Bool := (l.getD (i / 8) 0).toNat / 2 ^ (7 - i % 8) % 2 == 1
set_option maxHeartbeats 1000000 in
theorem bit_any (s : ByteArray) (i : Nat) (hs : s.size ≤ 1000) (hi : i < 8 * s.size) (q : Bool) (hq : bitAt s.data.toList i = q) (w : World) :
  Calls Tryz.prog 176 #[.string s, .int .i64 (i : Int)] w fun e w' => e = .returned (.bool q) ∧ w = w' := by
 obtain ⟨j, r, hr, rfl⟩ : ∃ j r, r < 8 ∧ i = 8 * j + r := ⟨i / 8, i % 8, by omega, by omega⟩
 have hj : j < s.size := by omega
 have HQ := hide (show (s[j].toNat / 2 ^ (7 - r) % 2 == 1) = q by
  rw [← hq, bitAt, show (8 * j + r) / 8 = j by omega, show (8 * j + r) % 8 = r by omega, getD_str s j hj])
 obtain ⟨I, hI⟩ : ∃ I : Int, I = ((8 * j + r : Nat) : Int) := ⟨_, rfl⟩
 rw [← hI]
 have h1 : I / 8 = (j : Int) := by omega
 have h2 : I % 8 = (r : Int) := by omega
 have h3 : 0 ≤ I := by omega
 have h4 : I ≤ 8000 := by omega
 have hc := byte_lt s[j]
 have hr2 : (r : Int) < 8 := by omega
 clear hq hI
 go_enter Tryz.func176, Tryz.ntmps176
 go_wp2_with fail
 go_ret
 exact ⟨ret_bool ((bit_eq _ _ (by omega)).trans HQ.out), rfl⟩
def rgG (a m : List UInt8) : Nat → Nat → Bool → Bool
 | 0, _, _ => true
 | n + 1, i, over => if (bitAt m i && over) || (!bitAt m i && bitAt a i) then false else rgG a m n (i + 1) (over || !bitAt m i)
def rangeB (s : List UInt8) : Bool := (s.length == 8 || s.length == 32) && rgG (s.take (s.length / 2)) (s.drop (s.length / 2)) (8 * (s.length - s.length / 2)) 0 false
set_option maxHeartbeats 4000000 in
theorem range_any (s : ByteArray) (hs : s.size ≤ 1000000) (q : Bool) (hq : rangeB s.data.toList = q) (w : World) :
  Calls Tryz.prog 125 #[.string s] w fun e w' => e = .returned (.bool q) ∧ Below w.heap.size w w' := by
 have hss := size_string s
 by_cases h8 : s.size = 8 ∨ s.size = 32
 ·obtain ⟨a, m, HAM, haz, hmz, hcalls⟩ := halves_any s hs w
  have HQ := hide (show rgG a.data.toList m.data.toList (8 * m.size) 0 false = q by
   obtain ⟨h1, h2⟩ := HAM.out
   rw [← hq, rangeB, hss, ← h1, ← h2, hmz]
   rcases h8 with h | h <;> simp [h])
  have hms : m.size ≤ 16 := by omega
  have ham : a.size = m.size := by omega
  have t1 : ((s.size : Int) != 8) = false ∨ ((s.size : Int) != 8) = true ∧ ((s.size : Int) != 32) = false := by
   rcases h8 with h | h
   ·left; rw [h]; rfl
   ·right; rw [h]; exact ⟨rfl, rfl⟩
  have HAM2 := hide ham
  have HC := hide hcalls
  have hams : a.size ≤ 16 := by omega
  clear hq haz hmz hcalls ham h8 hss
  rcases t1 with t1 | ⟨t1, t2⟩
  all_goals
   go_enter Tryz.func125, Tryz.ntmps125
   go_wp2_with fail
   refine HC.out.mono ?_
   rintro e w1 ⟨rfl, nn, hw1⟩
   have hb1 : Below w.heap.size w w1 := by rw [hw1]; exact below_drewN (Below.refl _ _) nn
   have HB1 := hide hb1
   clear hw1 hb1 t1
   go_wp2_with fail
   go_loop [5, 6] (fun x5 x6 => ∃ (i : Nat) (ov : Bool), i ≤ 8 * m.size ∧ x5 = .bool ov ∧ x6 = .int .i64 i ∧ Hid (rgG a.data.toList m.data.toList (8 * m.size - i) i ov = q)) (fun _ x6 => 8 * m.size - (intOf x6).toNat)
   case atStart => exact ⟨0, false, by omega, rfl, rfl, HQ⟩
   case round =>
    obtain ⟨i, ov, hi, rfl, rfl, H⟩ := hrel
    by_cases hlt : i < 8 * m.size
    ·obtain ⟨p1, hp1⟩ : ∃ p, bitAt m.data.toList i = p := ⟨_, rfl⟩
     obtain ⟨p2, hp2⟩ : ∃ p, bitAt a.data.toList i = p := ⟨_, rfl⟩
     have HX := hide (show (if (p1 && ov) || (!p1 && p2) then false else rgG a.data.toList m.data.toList (8 * m.size - (i + 1)) (i + 1) (ov || !p1)) = q by
      rw [← H.out, show 8 * m.size - i = (8 * m.size - (i + 1)) + 1 by omega, rgG, hp1, hp2])
     have P1 := hide hp1
     have P2 := hide hp2
     have hia : i < 8 * a.size := by rw [HAM2.out]; exact hlt
     have hlti : (i : Int) < 8 * (m.size : Int) := by omega
     clear hp1 hp2
     go_wp2_with fail
     refine (bit_any m i (by omega) hlt p1 P1.out _).mono ?_
     rintro e w5 ⟨rfl, rfl⟩
     cases p1
     ·go_wp2_with fail
      refine (bit_any a i (by omega) hia p2 P2.out _).mono ?_
      rintro e w5 ⟨rfl, rfl⟩
      cases p2
      ·have HY := hide (show rgG a.data.toList m.data.toList (8 * m.size - (i + 1)) (i + 1) true = q by rw [← HX.out]; simp)
       cases ov
       all_goals
        go_wp2_with fail
        go_round
        case rel => exact ⟨i + 1, true, by omega, rfl, by go_num, HY⟩
        case measure => simp [intOf]; omega
      ·have HY := hide (show false = q by rw [← HX.out]; simp)
       go_wp2_with fail
       go_ret
       exact ⟨ret_bool HY.out, HB1.out⟩
     ·cases ov
      ·have HY := hide (show rgG a.data.toList m.data.toList (8 * m.size - (i + 1)) (i + 1) false = q by rw [← HX.out]; simp)
       go_wp2_with fail
       go_round
       case rel => exact ⟨i + 1, false, by omega, rfl, by go_num, HY⟩
       case measure => simp [intOf]; omega
      ·have HY := hide (show false = q by rw [← HX.out]; simp)
       go_wp2_with fail
       go_ret
       exact ⟨ret_bool HY.out, HB1.out⟩
    ·have HY := hide (show true = q by rw [← H.out, show 8 * m.size - i = 0 by omega, rgG])
     have hlti : ¬ (i : Int) < 8 * (m.size : Int) := by omega
     go_wp2_with fail
     go_ret
     exact ⟨ret_bool HY.out, HB1.out⟩
 ·have t1 : ((s.size : Int) != 8) = true := by rw [bne_iff_ne]; omega
  have t2 : ((s.size : Int) != 32) = true := by rw [bne_iff_ne]; omega
  have HN := hide (show false = q by
   rw [← hq, rangeB, hss]
   have e1 : (s.size == 8) = false := by rw [beq_eq_false_iff_ne]; omega
   have e2 : (s.size == 32) = false := by rw [beq_eq_false_iff_ne]; omega
   rw [e1, e2]; rfl)
  clear hq h8
  go_enter Tryz.func125, Tryz.ntmps125
  go_wp2_with fail
  go_ret
  exact ⟨ret_bool HN.out, Below.refl _ _⟩
end Go.Proofs.YtmgnihmjjijdoaaGreatDoor
