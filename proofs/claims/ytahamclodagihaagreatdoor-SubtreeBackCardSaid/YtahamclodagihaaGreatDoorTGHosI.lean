/- The functions of package host: AddressWithin. -/
import Derived.Test.YtahamclodagihaaGreatDoorTGHosF
import Derived.Laws.BitsAllLaws
import Derived.Test.YtahamclodagihaaGreatDoorTGNamD
import Derived.Test.YtahamclodagihaaGreatDoorTGNenI
import Derived.Deep.RegionHeld3
namespace Go.Proofs.YtahamclodagihaaGreatDoor
open Go.RowKit
def sub1 (m o : UInt8) : Bool := (m.toNat &&& (255 - o.toNat)) == 0
def msk1 (x m b : UInt8) : Bool := (x.toNat &&& m.toNat) == b.toNat
def subG (m o : List UInt8) : Nat → Nat → Bool
 | 0, _ => true
 | n + 1, i => sub1 (m.getD i 0) (o.getD i 0) && subG m o n (i + 1)
def mskG (x m b : List UInt8) : Nat → Nat → Bool
 | 0, _ => true
 | n + 1, i => msk1 (x.getD i 0) (m.getD i 0) (b.getD i 0) && mskG x m b n (i + 1)
def loH (s : List UInt8) : List UInt8 := s.take (s.length / 2)
def hiH (s : List UInt8) : List UInt8 := s.drop (s.length / 2)
def awB (a r : List UInt8) : Bool := rangeB r && (if (a.length == r.length && rangeB a) = true then subG (hiH r) (hiH a) (hiH r).length 0 && mskG (loH a) (hiH r) (loH r) (hiH r).length 0
 else (a.length == (loH r).length && addrB a) && mskG a (hiH r) (loH r) (hiH r).length 0)
theorem sub1_eq (m o : UInt8) : (bits .andNot .u8 (m.toNat : Int) (o.toNat : Int) != 0) = !sub1 m o := by
 rw [u8_andNot_nat _ _ m.toNat_lt o.toNat_lt, sub1, bne, Bool.eq_iff_iff]
 simp
theorem msk1_eq (x m b : UInt8) : (bits .and .u8 (x.toNat : Int) (m.toNat : Int) != (b.toNat : Int)) = !msk1 x m b := by
 rw [u8_and_nat _ _ x.toNat_lt m.toNat_lt, msk1, bne, Bool.eq_iff_iff]
 simp only [Bool.not_eq_true', beq_eq_false_iff_ne, ne_eq]
 exact not_congr (by omega)
theorem ba_ext {a b : ByteArray} (h : a.data.toList = b.data.toList) : a = b := by
 cases a; cases b
 simp at h
 rw [h]
theorem halves_v (s : ByteArray) (hs : s.size ≤ 1000000) : ∃ a m : ByteArray, Hid (a.data.toList = loH s.data.toList ∧ m.data.toList = hiH s.data.toList) ∧ a.size = s.size / 2 ∧ m.size = s.size - s.size / 2 ∧
  ∀ W, Calls Tryz.prog 260 #[.string s] W fun e w' => e = .returned (.tuple #[.string a, .string m]) ∧ ∃ n, w' = W.drewN n := by
 refine ⟨⟨(loH s.data.toList).toArray⟩, ⟨(hiH s.data.toList).toArray⟩, hide ⟨rfl, rfl⟩, ?_, ?_, fun W => ?_⟩
 ·show (loH s.data.toList).length = _
  rw [loH, List.length_take, size_string]; omega
 ·show (hiH s.data.toList).length = _
  rw [hiH, List.length_drop, size_string]
 ·obtain ⟨a, m, HAM, -, -, hc⟩ := halves_any s hs W
  obtain ⟨h1, h2⟩ := HAM.out
  have e1 : a = ⟨(loH s.data.toList).toArray⟩ := ba_ext (by rw [h1, loH, size_string])
  have e2 : m = ⟨(hiH s.data.toList).toArray⟩ := ba_ext (by rw [h2, hiH, size_string])
  rw [← e1, ← e2]
  exact hc
set_option maxHeartbeats 8000000 in
theorem haw_any (a r : ByteArray) (ha : a.size ≤ 1000000) (hr : r.size ≤ 1000000) (q : Bool) (hq : awB a.data.toList r.data.toList = q) (w : World) :
  Calls Tryz.prog 251 #[.string a, .string r] w fun e w' => e = .returned (.bool q) ∧ Below w.heap.size w w' := by
 have hsa := size_string a
 have hsr := size_string r
 obtain ⟨p1, hp1⟩ : ∃ p, rangeB r.data.toList = p := ⟨_, rfl⟩
 obtain ⟨p2, hp2⟩ : ∃ p, rangeB a.data.toList = p := ⟨_, rfl⟩
 obtain ⟨p3, hp3⟩ : ∃ p, addrB a.data.toList = p := ⟨_, rfl⟩
 have P1 := hide hp1
 have P2 := hide hp2
 have P3 := hide hp3
 cases p1
 ·have HN := hide (show false = q by rw [← hq, awB, hp1]; rfl)
  clear hq hp1 hp2 hp3
  go_enter Tryz.func251, Tryz.ntmps251
  go_wp2_with fail
  refine (range_any r hr false P1.out _).mono ?_
  rintro e w1 ⟨rfl, hb1⟩
  go_wp2_with fail
  go_ret
  exact ⟨ret_bool HN.out, hb1⟩
 ·have hr32 : r.size = 8 ∨ r.size = 32 := by
   have := hp1
   rw [rangeB, hsr] at this
   simp only [Bool.and_eq_true, Bool.or_eq_true, beq_iff_eq] at this
   exact this.1
  obtain ⟨b, m, HBM, hbz, hmz, hv⟩ := halves_v r hr
  have HV := hide hv
  have hbm : b.size = m.size := by omega
  have hm16 : m.size ≤ 16 := by omega
  have hml : (hiH r.data.toList).length = m.size := by rw [← HBM.out.2, size_string]
  have hbl : (loH r.data.toList).length = b.size := by rw [← HBM.out.1, size_string]
  have HBM2 := hide hbm
  by_cases hl : a.size = r.size
  ·have t1 : ((a.size : Int) == (r.size : Int)) = true := by rw [hl]; simp
   cases p2
   ·have t2 : ((a.size : Int) != (b.size : Int)) = true := by rw [bne_iff_ne]; omega
    have HN := hide (show false = q by
     rw [← hq, awB, hp1, hp2, hbl, hsa, show (a.size == b.size) = false by rw [beq_eq_false_iff_ne]; omega]; simp)
    clear hq hp1 hp2 hp3 hv hbz hmz hbm hml hbl hl hr32 hsa hsr
    go_enter Tryz.func251, Tryz.ntmps251
    go_wp2_with fail
    refine (range_any r hr true P1.out _).mono ?_
    rintro e w1 ⟨rfl, hb1⟩
    have HB1 := hide hb1
    clear hb1
    go_wp2_with fail
    refine (HV.out _).mono ?_
    rintro e w2 ⟨rfl, nn, hw2⟩
    have HB2 := hide (show Below w.heap.size w w2 by rw [hw2]; exact below_drewN HB1.out nn)
    clear hw2
    go_wp2_with fail
    refine (range_any a ha false P2.out _).mono ?_
    rintro e w3 ⟨rfl, hb3⟩
    go_wp2_with fail
    go_ret
    exact ⟨ret_bool HN.out, HB2.out.trans (hb3.mono HB2.out.size)⟩
   ·obtain ⟨x, o, HXO, hxz, hoz, hv2⟩ := halves_v a ha
    have HV2 := hide hv2
    have HM0 := hide (show (subG m.data.toList o.data.toList m.size 0 && mskG x.data.toList m.data.toList b.data.toList m.size 0) = q by
     rw [← hq, awB, hp1, hp2, hsa, hsr, hl, hml, HBM.out.1, HBM.out.2, HXO.out.1, HXO.out.2]; simp)
    have hxs : x.size = m.size := by omega
    have hos : o.size = m.size := by omega
    have HXS := hide hxs
    have HOS := hide hos
    have hxs' : m.size ≤ x.size := by omega
    have hos' : m.size ≤ o.size := by omega
    have hbs' : m.size ≤ b.size := by omega
    have hb16 : b.size ≤ 16 := by omega
    have hx16 : x.size ≤ 16 := by omega
    have ho16 : o.size ≤ 16 := by omega
    clear hq hp1 hp2 hp3 hv hbz hmz hbm hml hbl hl hr32 hsa hsr hxz hoz hv2 hxs hos
    go_enter Tryz.func251, Tryz.ntmps251
    go_wp2_with fail
    refine (range_any r hr true P1.out _).mono ?_
    rintro e w1 ⟨rfl, hb1⟩
    have HB1 := hide hb1
    clear hb1
    go_wp2_with fail
    refine (HV.out _).mono ?_
    rintro e w2 ⟨rfl, nn, hw2⟩
    have HB2 := hide (show Below w.heap.size w w2 by rw [hw2]; exact below_drewN HB1.out nn)
    clear hw2
    go_wp2_with fail
    refine (range_any a ha true P2.out _).mono ?_
    rintro e w3 ⟨rfl, hb3⟩
    have HB3 := hide (HB2.out.trans (hb3.mono HB2.out.size))
    clear hb3 t1
    go_wp2_with fail
    refine (HV2.out _).mono ?_
    rintro e w4 ⟨rfl, nm, hw4⟩
    have HB4 := hide (show Below w.heap.size w w4 by rw [hw4]; exact below_drewN HB3.out nm)
    clear hw4
    have hml : m.data.toList.length ≤ maxLen := by rw [size_string]; unfold maxLen; omega
    go_wp2_with (with_reducible refine wpList_str_bts _ rfl (.tmp 33) 9 63 5 rfl Tryz.underlying9 Tryz.underlying63 Tryz.underlying5 m rfl m.data.toList rfl hml ?_; intro g1 cc1 w5 hg11 hg12 hb5 hby1 hc11 hc12)
    have HB5 := hide (HB4.out.trans (hb5.mono HB4.out.size))
    clear hb5 hby1 hml hc11 hg11 hg12
    go_loopw [36] (fun i wr => ∃ k : Nat, k ≤ m.size ∧ i = .int .i64 k ∧ Below w.heap.size w wr ∧ Hid ((subG m.data.toList o.data.toList (m.size - k) k && mskG x.data.toList m.data.toList b.data.toList m.size 0) = q)) (fun i _ => m.size - (intOf i).toNat)
    case atStart => exact ⟨0, Nat.zero_le _, rfl, HB5.out, HM0⟩
    case round =>
     obtain ⟨k, hk, rfl, hbr, H⟩ := hrel
     by_cases hlt : k < m.size
     ·have h2 : k < o.size := by omega
      have hk0 : (0 : Int) ≤ (k : Int) := by omega
      have hki : (k : Int) < (m.size : Int) := by omega
      have hki2 : (k : Int) < (o.size : Int) := by omega
      obtain ⟨p, hp⟩ : ∃ p, sub1 m[k] o[k] = p := ⟨_, rfl⟩
      have HX := hide (show (p && subG m.data.toList o.data.toList (m.size - (k + 1)) (k + 1) && mskG x.data.toList m.data.toList b.data.toList m.size 0) = q by
       rw [← H.out, show m.size - k = (m.size - (k + 1)) + 1 by omega, subG, getD_str m k hlt, getD_str o k h2, hp])
      have t5 := (sub1_eq m[k] o[k]).trans (by rw [hp])
      have HBR := hide hbr
      clear hp hbr
      cases p
      ·have HY := hide (show false = q by rw [← HX.out]; rfl)
       go_wp2_with fail
       go_quiet (fail)
       go_wp2_with fail
       go_ret
       exact ⟨ret_bool HY.out, below_drewN HBR.out _⟩
      ·have HY := hide (show (subG m.data.toList o.data.toList (m.size - (k + 1)) (k + 1) && mskG x.data.toList m.data.toList b.data.toList m.size 0) = q by rw [← HX.out]; rfl)
       go_wp2_with fail
       go_quiet (fail)
       go_wp2_with fail
       go_roundw
       case rel => exact ⟨k + 1, by omega, by go_num, below_drewN HBR.out _, HY⟩
       case measure => simp [intOf]; omega
     ·have HM := hide (show mskG x.data.toList m.data.toList b.data.toList m.size 0 = q by rw [← H.out, show m.size - k = 0 by omega, subG]; rfl)
      have HBB := hide hbr
      clear hbr H
      have hml : m.data.toList.length ≤ maxLen := by rw [size_string]; unfold maxLen; omega
      go_wp2_with (with_reducible refine wpList_str_bts _ rfl (.tmp 59) 9 63 5 rfl Tryz.underlying9 Tryz.underlying63 Tryz.underlying5 m rfl m.data.toList rfl hml ?_; intro g2 cc2 wz hg21 hg22 hb2z hby2 hc21 hc22)
      have HBz := hide (HBB.out.trans (hb2z.mono HBB.out.size))
      clear hb2z hby2 hml hc21 hg21 hg22
      go_loopw [62] (fun i wr => ∃ k : Nat, k ≤ m.size ∧ i = .int .i64 k ∧ Below w.heap.size w wr ∧ Hid (mskG x.data.toList m.data.toList b.data.toList (m.size - k) k = q)) (fun i _ => m.size - (intOf i).toNat)
      case atStart => exact ⟨0, Nat.zero_le _, rfl, HBz.out, HM⟩
      case round =>
       obtain ⟨k, hk, rfl, hbr, H⟩ := hrel
       by_cases hlt : k < m.size
       ·have h1 : k < x.size := by omega
        have h2 : k < b.size := by omega
        have hk0 : (0 : Int) ≤ (k : Int) := by omega
        have hki : (k : Int) < (m.size : Int) := by omega
        have hki1 : (k : Int) < (x.size : Int) := by omega
        have hki2 : (k : Int) < (b.size : Int) := by omega
        obtain ⟨p, hp⟩ : ∃ p, msk1 x[k] m[k] b[k] = p := ⟨_, rfl⟩
        have HX := hide (show (p && mskG x.data.toList m.data.toList b.data.toList (m.size - (k + 1)) (k + 1)) = q by
         rw [← H.out, show m.size - k = (m.size - (k + 1)) + 1 by omega, mskG, getD_str x k h1, getD_str m k hlt, getD_str b k h2, hp])
        have t5 := (msk1_eq x[k] m[k] b[k]).trans (by rw [hp])
        have HBR := hide hbr
        clear hp hbr
        cases p
        ·have HY := hide (show false = q by rw [← HX.out]; rfl)
         go_wp2_with fail
         go_quiet (fail)
         go_wp2_with fail
         go_ret
         exact ⟨ret_bool HY.out, below_drewN HBR.out _⟩
        ·have HY := hide (show mskG x.data.toList m.data.toList b.data.toList (m.size - (k + 1)) (k + 1) = q by rw [← HX.out]; rfl)
         go_wp2_with fail
         go_quiet (fail)
         go_wp2_with fail
         go_roundw
         case rel => exact ⟨k + 1, by omega, by go_num, below_drewN HBR.out _, HY⟩
         case measure => simp [intOf]; omega
       ·have HY := hide (show true = q by rw [← H.out, show m.size - k = 0 by omega, mskG])
        have HBR := hide hbr
        clear hbr
        go_wp2_with fail
        go_ret
        exact ⟨ret_bool HY.out, HBR.out⟩
  ·have t1 : ((a.size : Int) == (r.size : Int)) = false := by rw [beq_eq_false_iff_ne]; omega
   have HN0 := hide (show ((a.size == b.size && p3) && mskG a.data.toList m.data.toList b.data.toList m.size 0) = q by
    rw [← hq, awB, hp1, hp3, hbl, hml, hsa, hsr, HBM.out.1, HBM.out.2, show (a.size == r.size) = false by rw [beq_eq_false_iff_ne]; exact hl]; rfl)
   by_cases hab : a.size = b.size
   ·have t2 : ((a.size : Int) != (b.size : Int)) = false := by rw [hab]; simp
    have HN := hide (show (p3 && mskG a.data.toList m.data.toList b.data.toList m.size 0) = q by rw [← HN0.out, hab]; simp)
    have hxs' : m.size ≤ a.size := by omega
    have hbs' : m.size ≤ b.size := by omega
    have hb16 : b.size ≤ 16 := by omega
    have hx16 : a.size ≤ 16 := by omega
    clear hq hp1 hp2 hp3 hv hbz hmz hbm hml hbl hl hr32 hsa hsr hab
    go_enter Tryz.func251, Tryz.ntmps251
    go_wp2_with fail
    refine (range_any r hr true P1.out _).mono ?_
    rintro e w1 ⟨rfl, hb1⟩
    have HB1 := hide hb1
    clear hb1
    go_wp2_with fail
    refine (HV.out _).mono ?_
    rintro e w2 ⟨rfl, nn, hw2⟩
    have HB2 := hide (show Below w.heap.size w w2 by rw [hw2]; exact below_drewN HB1.out nn)
    clear hw2
    go_wp2_with fail
    refine (haddr_any a p3 P3.out _).mono ?_
    rintro e w3 ⟨rfl, rfl⟩
    cases p3
    ·go_wp2_with fail
     go_ret
     exact ⟨ret_bool (by rw [← HN.out]; rfl), HB2.out⟩
    ·have HM := hide (show mskG a.data.toList m.data.toList b.data.toList m.size 0 = q by rw [← HN.out]; rfl)
     have HBB := HB2
     clear t1 t2
     have hml : m.data.toList.length ≤ maxLen := by rw [size_string]; unfold maxLen; omega
     go_wp2_with (with_reducible refine wpList_str_bts _ rfl (.tmp 59) 9 63 5 rfl Tryz.underlying9 Tryz.underlying63 Tryz.underlying5 m rfl m.data.toList rfl hml ?_; intro g2 cc2 wz hg21 hg22 hb2z hby2 hc21 hc22)
     have HBz := hide (HBB.out.trans (hb2z.mono HBB.out.size))
     clear hb2z hby2 hml hc21 hg21 hg22
     go_loopw [62] (fun i wr => ∃ k : Nat, k ≤ m.size ∧ i = .int .i64 k ∧ Below w.heap.size w wr ∧ Hid (mskG a.data.toList m.data.toList b.data.toList (m.size - k) k = q)) (fun i _ => m.size - (intOf i).toNat)
     case atStart => exact ⟨0, Nat.zero_le _, rfl, HBz.out, HM⟩
     case round =>
      obtain ⟨k, hk, rfl, hbr, H⟩ := hrel
      by_cases hlt : k < m.size
      ·have h1 : k < a.size := by omega
       have h2 : k < b.size := by omega
       have hk0 : (0 : Int) ≤ (k : Int) := by omega
       have hki : (k : Int) < (m.size : Int) := by omega
       have hki1 : (k : Int) < (a.size : Int) := by omega
       have hki2 : (k : Int) < (b.size : Int) := by omega
       obtain ⟨p, hp⟩ : ∃ p, msk1 a[k] m[k] b[k] = p := ⟨_, rfl⟩
       have HX := hide (show (p && mskG a.data.toList m.data.toList b.data.toList (m.size - (k + 1)) (k + 1)) = q by
        rw [← H.out, show m.size - k = (m.size - (k + 1)) + 1 by omega, mskG, getD_str a k h1, getD_str m k hlt, getD_str b k h2, hp])
       have t5 := (msk1_eq a[k] m[k] b[k]).trans (by rw [hp])
       have HBR := hide hbr
       clear hp hbr
       cases p
       ·have HY := hide (show false = q by rw [← HX.out]; rfl)
        go_wp2_with fail
        go_quiet (fail)
        go_wp2_with fail
        go_ret
        exact ⟨ret_bool HY.out, below_drewN HBR.out _⟩
       ·have HY := hide (show mskG a.data.toList m.data.toList b.data.toList (m.size - (k + 1)) (k + 1) = q by rw [← HX.out]; rfl)
        go_wp2_with fail
        go_quiet (fail)
        go_wp2_with fail
        go_roundw
        case rel => exact ⟨k + 1, by omega, by go_num, below_drewN HBR.out _, HY⟩
        case measure => simp [intOf]; omega
      ·have HY := hide (show true = q by rw [← H.out, show m.size - k = 0 by omega, mskG])
       have HBR := hide hbr
       clear hbr
       go_wp2_with fail
       go_ret
       exact ⟨ret_bool HY.out, HBR.out⟩
   ·have t2 : ((a.size : Int) != (b.size : Int)) = true := by rw [bne_iff_ne]; omega
    have HN := hide (show false = q by rw [← HN0.out, show (a.size == b.size) = false by rw [beq_eq_false_iff_ne]; exact hab]; rfl)
    clear hq hp1 hp2 hp3 hv hbz hmz hbm hml hbl hl hr32 hsa hsr hab
    go_enter Tryz.func251, Tryz.ntmps251
    go_wp2_with fail
    refine (range_any r hr true P1.out _).mono ?_
    rintro e w1 ⟨rfl, hb1⟩
    have HB1 := hide hb1
    clear hb1
    go_wp2_with fail
    refine (HV.out _).mono ?_
    rintro e w2 ⟨rfl, nn, hw2⟩
    have HB2 := hide (show Below w.heap.size w w2 by rw [hw2]; exact below_drewN HB1.out nn)
    clear hw2
    go_wp2_with fail
    go_ret
    exact ⟨ret_bool HN.out, HB2.out⟩
end Go.Proofs.YtahamclodagihaaGreatDoor
namespace Go.Proofs.YtahamclodagihaaGreatDoor
open Go.RowKit
abbrev Gen := Int × List UInt8 × Name
def RGen : Rep Gen := fun w S g cs => ∃ vn, cs = [.int .i64 g.1, .string ⟨g.2.1.toArray⟩, vn] ∧ Sl RRdn 1 w S g.2.2 [vn]
theorem RGen.ok : RepOk RGen 3 := by
 refine ⟨?_, ?_, ?_⟩
 ·rintro w S x cs ⟨vn, rfl, _⟩; rfl
 ·rintro w S x cs ⟨vn, rfl, h⟩ u hu
  simp only [List.mem_cons, List.not_mem_nil, or_false] at hu
  rcases hu with rfl | rfl | rfl
  ·rfl
  ·rfl
  ·exact (Sl.ok RRdn.ok).one h _ (by simp)
 ·rintro w w' S S' x cs ⟨vn, rfl, h⟩ hk hS
  exact ⟨vn, rfl, (Sl.ok RRdn.ok).mono h hk hS⟩
def SmallG (g : Gen) : Prop := g.2.1.length ≤ 100000 ∧ SmallN g.2.2
def ofK (k : Int) : Int := if k = 1 then 0 else if k = 2 then 1 else if k = 4 then 2 else if k = 7 then 3 else 4
theorem of_any (k : Int) (w : World) : Calls Tryz.prog 95 #[.int .i64 k] w fun e w' => e = .returned (.int .i64 (ofK k)) ∧ w = w' := by
 by_cases h1 : k = 1
 ·subst h1
  go_enter Tryz.func95, Tryz.ntmps95
  go_wp2_with fail
  go_ret
  exact ⟨rfl, rfl⟩
 ·have t1 : (k == 1) = false := by simpa using h1
  by_cases h2 : k = 2
  ·subst h2
   go_enter Tryz.func95, Tryz.ntmps95
   go_wp2_with fail
   go_ret
   exact ⟨rfl, rfl⟩
  ·have t2 : (k == 2) = false := by simpa using h2
   by_cases h4 : k = 4
   ·subst h4
    go_enter Tryz.func95, Tryz.ntmps95
    go_wp2_with fail
    go_ret
    exact ⟨rfl, rfl⟩
   ·have t4 : (k == 4) = false := by simpa using h4
    by_cases h7 : k = 7
    ·subst h7
     go_enter Tryz.func95, Tryz.ntmps95
     go_wp2_with fail
     go_ret
     exact ⟨rfl, rfl⟩
    ·have t7 : (k == 7) = false := by simpa using h7
     have HK := hide (show ofK k = 4 by rw [ofK, if_neg h1, if_neg h2, if_neg h4, if_neg h7])
     rw [HK.out]
     clear h1 h2 h4 h7
     go_enter Tryz.func95, Tryz.ntmps95
     go_wp2_with fail
     go_ret
     exact ⟨rfl, rfl⟩
theorem of_v (k : Int) (r : Int) (hr : ofK k = r) (w : World) : Calls Tryz.prog 95 #[.int .i64 k] w fun e w' => e = .returned (.int .i64 r) ∧ w = w' := hr ▸ of_any k w
def withinG (g b : Gen) : Bool :=
 if g.1 ≠ b.1 then false else if g.1 = 1 then mwB g.2.1 b.2.1 else if g.1 = 2 then dnsWB g.2.1 b.2.1 else if g.1 = 4 then withinN g.2.2 b.2.2 else if g.1 = 7 then awB g.2.1 b.2.1 else false
set_option maxRecDepth 100000 in
set_option maxHeartbeats 4000000 in
theorem gWithin_any (k1 k2 : Int) (t1 t2 : ByteArray) (n m : Name) (A B : Option Addr) (c d : Nat) (ht1 : t1.size ≤ 100000) (ht2 : t2.size ≤ 100000) (hn : SmallN n) (hm : SmallN m) (q : Bool)
  (hq : withinG (k1, t1.data.toList, n) (k2, t2.data.toList, m) = q) (w : World) (hmx : Mx w) (h1 : Sl RRdn 1 w (Lt w.heap.size) n [.slice A n.length c]) (h2 : Sl RRdn 1 w (Lt w.heap.size) m [.slice B m.length d]) :
  Calls Tryz.prog 204 #[.agg #[.int .i64 k1, .string t1, .slice A n.length c], .agg #[.int .i64 k2, .string t2, .slice B m.length d]] w fun e w' => e = .returned (.bool q) ∧ Below w.heap.size w w' := by
 have HMX := hide hmx
 have K1 := hide h1
 have K2 := hide h2
 have HN := hide hn
 have HM := hide hm
 have HQ0 := hide hq
 clear hmx h1 h2 hn hm hq
 by_cases hk : k1 = k2
 ·subst hk
  have t0 : (k1 != k1) = false := by simp
  have HQ := hide (show (if k1 = 1 then mwB t1.data.toList t2.data.toList else if k1 = 2 then dnsWB t1.data.toList t2.data.toList else if k1 = 4 then withinN n m else if k1 = 7 then awB t1.data.toList t2.data.toList else false) = q by
   rw [← HQ0.out]
   exact (if_neg (fun h : ¬ k1 = k1 => h rfl)).symm)
  obtain ⟨kk, hkk⟩ : ∃ kk, ofK k1 = kk := ⟨_, rfl⟩
  have OF := hide (fun W => of_v k1 kk hkk W)
  obtain ⟨wa, hwa⟩ : ∃ wa, wa = (w.alloc (.cells #[.int .i64 k1, .string t1, .slice A n.length c] 62)).alloc (.cells #[.int .i64 k1, .string t2, .slice B m.length d] 62) := ⟨_, rfl⟩
  have hba : Below w.heap.size w wa := by rw [hwa]; exact ((Below.refl _ _).alloc (Nat.le_refl _) _).alloc (by simp) _
  have HBA := hide hba
  have HWA := hide hwa
  have HKK := hide hkk
  clear hwa hba hkk
  by_cases g1 : k1 = 1
  ·have HQ1 := hide (show mwB t1.data.toList t2.data.toList = q by rw [← HQ.out, if_pos g1])
   obtain rfl : kk = 0 := by rw [← HKK.out, g1]; rfl
   clear g1
   go_enter Tryz.func204, Tryz.ntmps204
   go_wp2_with fail
   refine (OF.out _).mono ?_
   rintro e w1 ⟨rfl, rfl⟩
   go_wp2_with fail
   rw [← HWA.out]
   refine (hmw_any t1 t2 (by omega) (by omega) q HQ1.out _ (HMX.out.below HBA.out)).mono ?_
   rintro e w2 ⟨rfl, hb2⟩
   go_wp2_with fail
   go_ret
   exact ⟨rfl, HBA.out.trans (hb2.mono HBA.out.size)⟩
  ·by_cases g2 : k1 = 2
   ·have HQ1 := hide (show dnsWB t1.data.toList t2.data.toList = q by rw [← HQ.out, if_neg g1, if_pos g2])
    obtain rfl : kk = 1 := by rw [← HKK.out, g2]; rfl
    clear g1 g2
    go_enter Tryz.func204, Tryz.ntmps204
    go_wp2_with fail
    refine (OF.out _).mono ?_
    rintro e w1 ⟨rfl, rfl⟩
    go_wp2_with fail
    rw [← HWA.out]
    refine (hdnsW_any t1 t2 (by omega) (by omega) q HQ1.out _ (HMX.out.below HBA.out)).mono ?_
    rintro e w2 ⟨rfl, hb2⟩
    go_wp2_with fail
    go_ret
    exact ⟨rfl, HBA.out.trans (hb2.mono HBA.out.size)⟩
   ·by_cases g4 : k1 = 4
    ·have HQ1 := hide (show withinN n m = q by rw [← HQ.out, if_neg g1, if_neg g2, if_pos g4])
     obtain rfl : kk = 2 := by rw [← HKK.out, g4]; rfl
     clear g1 g2 g4
     go_enter Tryz.func204, Tryz.ntmps204
     go_wp2_with fail
     refine (OF.out _).mono ?_
     rintro e w1 ⟨rfl, rfl⟩
     go_wp2_with fail
     rw [← HWA.out]
     refine (HQ1.out ▸ Within_any n m A B c d _ ((Sl.ok RRdn.ok).below K1.out HBA.out) ((Sl.ok RRdn.ok).below K2.out HBA.out) HN.out HM.out).mono ?_
     rintro e w2 ⟨rfl, hb2⟩
     go_wp2_with fail
     go_ret
     exact ⟨rfl, HBA.out.trans (hb2.mono HBA.out.size)⟩
    ·by_cases g7 : k1 = 7
     ·have HQ1 := hide (show awB t1.data.toList t2.data.toList = q by rw [← HQ.out, if_neg g1, if_neg g2, if_neg g4, if_pos g7])
      obtain rfl : kk = 3 := by rw [← HKK.out, g7]; rfl
      clear g1 g2 g4 g7
      go_enter Tryz.func204, Tryz.ntmps204
      go_wp2_with fail
      refine (OF.out _).mono ?_
      rintro e w1 ⟨rfl, rfl⟩
      go_wp2_with fail
      rw [← HWA.out]
      refine (haw_any t1 t2 (by omega) (by omega) q HQ1.out _).mono ?_
      rintro e w2 ⟨rfl, hb2⟩
      go_wp2_with fail
      go_ret
      exact ⟨rfl, HBA.out.trans (hb2.mono HBA.out.size)⟩
     ·have HQ1 := hide (show false = q by rw [← HQ.out, if_neg g1, if_neg g2, if_neg g4, if_neg g7])
      obtain rfl : kk = 4 := by rw [← HKK.out, ofK, if_neg g1, if_neg g2, if_neg g4, if_neg g7]
      clear g1 g2 g4 g7
      go_enter Tryz.func204, Tryz.ntmps204
      go_wp2_with fail
      refine (OF.out _).mono ?_
      rintro e w1 ⟨rfl, rfl⟩
      go_wp2_with fail
      go_ret
      exact ⟨ret_bool HQ1.out, HWA.out ▸ HBA.out⟩
 ·have t0 : (k1 != k2) = true := by rw [bne_iff_ne]; exact hk
  have HQ1 := hide (show false = q by rw [← HQ0.out, withinG, if_pos hk])
  clear hk
  go_enter Tryz.func204, Tryz.ntmps204
  go_wp2_with fail
  go_ret
  exact ⟨ret_bool HQ1.out, ((Below.refl _ _).alloc (Nat.le_refl _) _).alloc (by simp) _⟩
end Go.Proofs.YtahamclodagihaaGreatDoor
namespace Go.Proofs.YtahamclodagihaaGreatDoor
open Go.RowKit
theorem Sl.genAt {w : World} {S : Nat → Prop} {A : Option Addr} {n c : Nat} {l : List Gen} (h : Sl RGen 3 w S l [.slice A n c]) {i : Nat} (hi : i < l.length) :
    ∃ (b off : Nat) (t : ByteArray) (A' : Option Addr) (c' : Nat), A = some ⟨b, off, none⟩ ∧ S b ∧ t.data.toList = l[i].2.1 ∧ w.cell? ⟨b, off + i * 3, none⟩ = some (.int .i64 l[i].1) ∧ w.cell? ⟨b, off + i * 3 + 1, none⟩ = some (.string t) ∧
      w.cell? ⟨b, off + i * 3 + 2, none⟩ = some (.slice A' l[i].2.2.length c') ∧ Sl RRdn 1 w S l[i].2.2 [.slice A' l[i].2.2.length c'] := by
  obtain ⟨b, off, xs, hA, hb, ⟨vn, hxs, hn⟩, hh⟩ := h.at_ hi
  subst hxs
  obtain ⟨A', c', hv⟩ := hn.shape
  subst hv
  exact ⟨b, off, ⟨l[i].2.1.toArray⟩, A', c', hA, hb, rfl, hh 0 _ rfl, hh 1 _ rfl, hh 2 _ rfl, hn⟩
def SmallGs (l : List Gen) : Prop := ∀ g ∈ l, SmallG g
def insideG (g : Gen) (l : List Gen) : Bool := l.any fun b => withinG g b
def limitsG (l : List Gen) (k : Int) : Bool := l.any fun b => b.1 == k
theorem size_of_list {t : ByteArray} {l : List UInt8} (h : t.data.toList = l) {n : Nat} (hl : l.length ≤ n) : t.size ≤ n := by
 rw [← size_string, h]; exact hl
set_option maxRecDepth 100000 in
set_option maxHeartbeats 4000000 in
theorem inside_any (g : Gen) (t : ByteArray) (A : Option Addr) (c : Nat) (l : List Gen) (B : Option Addr) (d : Nat) (ht : t.data.toList = g.2.1) (hg : SmallG g) (hl : SmallGs l) (q : Bool) (hq : insideG g l = q) (w : World) (hmx : Mx w)
  (h1 : Sl RRdn 1 w (Lt w.heap.size) g.2.2 [.slice A g.2.2.length c]) (h2 : Sl RGen 3 w (Lt w.heap.size) l [.slice B l.length d]) :
  Calls Tryz.prog 140 #[.agg #[.int .i64 g.1, .string t, .slice A g.2.2.length c], .slice B l.length d] w fun e w' => e = .returned (.bool q) ∧ Below w.heap.size w w' := by
 obtain ⟨-, hlc, hlm⟩ := h2.len_
 unfold maxLen at hlm
 have hts := size_of_list ht hg.1
 have HMX := hide hmx
 have K1 := hide h1
 have K2 := hide h2
 have HG := hide hg
 have HL := hide hl
 have H0 := hide (show (l.drop 0).any (fun b => withinG g b) = q from hq)
 have HT := hide ht
 obtain ⟨kg, hkg⟩ : ∃ k, g.1 = k := ⟨_, rfl⟩
 obtain ⟨ng, hng⟩ : ∃ n, g.2.2 = n := ⟨_, rfl⟩
 have HGE := hide (show (kg, t.data.toList, ng) = g by rw [← hkg, ← hng, ht])
 rw [hkg, hng]
 rw [hng] at K1
 have hsn : SmallN ng := hng ▸ hg.2
 have HSN := hide hsn
 clear hmx h1 h2 hg hl hq ht hkg hng hsn
 go_enter Tryz.func140, Tryz.ntmps140
 go_wp2_with fail
 obtain ⟨wa, hwa⟩ : ∃ wa, wa = w.alloc (.cells #[.int .i64 kg, .string t, .slice A ng.length c] 62) := ⟨_, rfl⟩
 have a0 : wa.cell? ⟨w.heap.size, 0, none⟩ = some (.int .i64 kg) := by rw [hwa, World.cell?_alloc_new]; rfl
 have a1 : wa.cell? ⟨w.heap.size, 1, none⟩ = some (.string t) := by rw [hwa, World.cell?_alloc_new]; rfl
 have a2 : wa.cell? ⟨w.heap.size, 2, none⟩ = some (.slice A ng.length c) := by rw [hwa, World.cell?_alloc_new]; rfl
 have hba : Below w.heap.size w wa := by rw [hwa]; exact (Below.refl _ _).alloc (Nat.le_refl _) _
 rw [← hwa]
 have A0 := hide a0
 have A1 := hide a1
 have A2 := hide a2
 have HBA := hide hba
 clear hwa a0 a1 a2 hba
 go_loopw [9] (fun i wr => ∃ k : Nat, k ≤ l.length ∧ i = .int .i64 k ∧ Below wa.heap.size wa wr ∧ Hid ((l.drop k).any (fun b => withinG g b) = q)) (fun i _ => l.length - (intOf i).toNat)
 case atStart => exact ⟨0, Nat.zero_le _, rfl, Below.refl _ _, H0⟩
 case round =>
  obtain ⟨k, hk, rfl, hb, H⟩ := hrel
  have hbw := HBA.out.trans (hb.mono HBA.out.size)
  have HBW := hide hbw
  by_cases hlt : k < l.length
  ·obtain ⟨b2, o2, t2, A2', c2, hB, hbS, ht2, d0, d1, d2, hsl⟩ := K2.out.genAt hlt
   subst hB
   have hbS' : b2 < w.heap.size := hbS
   obtain ⟨hsb1, hsb2⟩ := HL.out l[k] (List.getElem_mem hlt)
   have hts2 := size_of_list ht2 hsb1
   have HX := hide (show (withinG g l[k] || (l.drop (k + 1)).any (fun b => withinG g b)) = q by rw [← H.out, List.drop_eq_getElem_cons hlt, List.any_cons])
   obtain ⟨kb, hkb⟩ : ∃ kb, l[k].1 = kb := ⟨_, rfl⟩
   obtain ⟨nb, hnb⟩ : ∃ nb, l[k].2.2 = nb := ⟨_, rfl⟩
   have hbe : l[k] = (kb, t2.data.toList, nb) := by rw [← hkb, ← hnb, ht2]
   obtain ⟨p, hp⟩ : ∃ p, withinG (kg, t.data.toList, ng) (kb, t2.data.toList, nb) = p := ⟨_, rfl⟩
   have HX2 := hide (show (p || (l.drop (k + 1)).any (fun b => withinG g b)) = q by rw [← HX.out, hbe, ← HGE.out, hp])
   have HP := hide hp
   rw [hkb] at d0
   rw [hnb] at d2 hsl hsb2
   have e0 := cell_grows hb _ _ A0.out
   have e1 := cell_grows hb _ _ A1.out
   have e2 := cell_grows hb _ _ A2.out
   have f0 := (hbw.cell (p := ⟨b2, o2 + k * 3, none⟩) hbS').trans d0
   have f1 := (hbw.cell (p := ⟨b2, o2 + k * 3 + 1, none⟩) hbS').trans d1
   have f2 := (hbw.cell (p := ⟨b2, o2 + k * 3 + 2, none⟩) hbS').trans d2
   have hgl : w.heap.size < wr.heap.size := World.block_lt_of_cell? wr ⟨w.heap.size, 0, none⟩ e0
   have q0 : ∀ ob, (wr.alloc ob).cell? ⟨w.heap.size, 0, none⟩ = some (.int .i64 kg) := fun ob => (World.cell?_alloc_lt wr ob ⟨w.heap.size, 0, none⟩ hgl).trans e0
   have q1 : ∀ ob, (wr.alloc ob).cell? ⟨w.heap.size, 1, none⟩ = some (.string t) := fun ob => (World.cell?_alloc_lt wr ob ⟨w.heap.size, 1, none⟩ hgl).trans e1
   have q2 : ∀ ob, (wr.alloc ob).cell? ⟨w.heap.size, 2, none⟩ = some (.slice A ng.length c) := fun ob => (World.cell?_alloc_lt wr ob ⟨w.heap.size, 2, none⟩ hgl).trans e2
   have hbc : Below wr.heap.size wr (wr.alloc (.cells #[.int .i64 kb, .string t2, .slice A2' nb.length c2] 62)) := (Below.refl _ _).alloc (Nat.le_refl _) _
   have hbwc := hbw.trans (hbc.mono hbw.size)
   have S1 := hide ((Sl.ok RRdn.ok).below K1.out hbwc)
   have S2 := hide ((Sl.ok RRdn.ok).below hsl hbwc)
   have HM := hide (HMX.out.below hbwc)
   have HSB := hide hsb2
   have HBC := hide (hb.trans (hbc.mono hb.size))
   clear hb hbw d0 d1 d2 hsl hsb2 hkb hnb hbe hp e0 e1 e2 ht2 hsb1 hbc hbwc
   go_wp2_with fail
   refine (gWithin_any kg kb t t2 ng nb A A2' c c2 hts hts2 HSN.out HSB.out p HP.out _ HM.out S1.out S2.out).mono ?_
   rintro e w5 ⟨rfl, hb5⟩
   have HB5 := hide (HBC.out.trans (hb5.mono HBC.out.size))
   clear hb5 q0 q1 q2 f0 f1 f2
   cases p
   ·have HY := hide (show (l.drop (k + 1)).any (fun b => withinG g b) = q by rw [← HX2.out]; rfl)
    go_wp2_with fail
    go_roundw
    case rel => exact ⟨k + 1, by omega, by go_num, HB5.out, HY⟩
    case measure => simp [intOf]; omega
   ·have HY := hide (show true = q by rw [← HX2.out]; rfl)
    go_wp2_with fail
    go_ret
    exact ⟨ret_bool HY.out, HBA.out.trans (HB5.out.mono HBA.out.size)⟩
  ·have HY := hide (show false = q by rw [← H.out, List.drop_of_length_le (by omega)]; rfl)
   clear hb hbw
   go_wp2_with fail
   go_ret
   exact ⟨ret_bool HY.out, HBW.out⟩
set_option maxRecDepth 100000 in
set_option maxHeartbeats 4000000 in
theorem limits_any (l : List Gen) (B : Option Addr) (d : Nat) (kg : Int) (q : Bool) (hq : limitsG l kg = q) (w : World) (h2 : Sl RGen 3 w (Lt w.heap.size) l [.slice B l.length d]) :
  Calls Tryz.prog 205 #[.slice B l.length d, .int .i64 kg] w fun e w' => e = .returned (.bool q) ∧ Below w.heap.size w w' := by
 obtain ⟨-, hlc, hlm⟩ := h2.len_
 unfold maxLen at hlm
 have K2 := hide h2
 have H0 := hide (show (l.drop 0).any (fun b => b.1 == kg) = q from hq)
 clear h2 hq
 go_enter Tryz.func205, Tryz.ntmps205
 go_wp2_with fail
 go_loopw [9] (fun i wr => ∃ k : Nat, k ≤ l.length ∧ i = .int .i64 k ∧ Below w.heap.size w wr ∧ Hid ((l.drop k).any (fun b => b.1 == kg) = q)) (fun i _ => l.length - (intOf i).toNat)
 case atStart => exact ⟨0, Nat.zero_le _, rfl, Below.refl _ _, H0⟩
 case round =>
  obtain ⟨k, hk, rfl, hb, H⟩ := hrel
  by_cases hlt : k < l.length
  ·obtain ⟨b2, o2, t2, A2', c2, hB, hbS, ht2, d0, d1, d2, hsl⟩ := K2.out.genAt hlt
   subst hB
   have hbS' : b2 < w.heap.size := hbS
   have HX := hide (show (l[k].1 == kg || (l.drop (k + 1)).any (fun b => b.1 == kg)) = q by rw [← H.out, List.drop_eq_getElem_cons hlt, List.any_cons])
   obtain ⟨kb, hkb⟩ : ∃ kb, l[k].1 = kb := ⟨_, rfl⟩
   obtain ⟨p, hp⟩ : ∃ p, (kb == kg) = p := ⟨_, rfl⟩
   have HX2 := hide (show (p || (l.drop (k + 1)).any (fun b => b.1 == kg)) = q by rw [← HX.out, hkb, hp])
   rw [hkb] at d0
   obtain ⟨nn, hnn⟩ : ∃ nn, l[k].2.2.length = nn := ⟨_, rfl⟩
   rw [hnn] at d2
   have f0 := (hb.cell (p := ⟨b2, o2 + k * 3, none⟩) hbS').trans d0
   have f1 := (hb.cell (p := ⟨b2, o2 + k * 3 + 1, none⟩) hbS').trans d1
   have f2 := (hb.cell (p := ⟨b2, o2 + k * 3 + 2, none⟩) hbS').trans d2
   have HB := hide (hb.alloc hb.size (.cells #[.int .i64 kb, .string t2, .slice A2' nn c2] 62))
   clear hb d0 d1 d2 hsl hkb ht2 hnn
   cases p
   ·have HY := hide (show (l.drop (k + 1)).any (fun b => b.1 == kg) = q by rw [← HX2.out]; rfl)
    go_wp2_with fail
    go_roundw
    case rel => exact ⟨k + 1, by omega, by go_num, HB.out, HY⟩
    case measure => simp [intOf]; omega
   ·have HY := hide (show true = q by rw [← HX2.out]; rfl)
    go_wp2_with fail
    go_ret
    exact ⟨ret_bool HY.out, HB.out⟩
  ·have HY := hide (show false = q by rw [← H.out, List.drop_of_length_le (by omega)]; rfl)
   have HB := hide hb
   clear hb
   go_wp2_with fail
   go_ret
   exact ⟨ret_bool HY.out, HB.out⟩
end Go.Proofs.YtahamclodagihaaGreatDoor
namespace Go.Proofs.YtahamclodagihaaGreatDoor
open Go.RowKit
end Go.Proofs.YtahamclodagihaaGreatDoor
namespace Go.Proofs.YtahamclodagihaaGreatDoor
open Go.RowKit
def Two6 (b1 o1 b2 o2 : Nat) (v0 v1 v2 u0 u1 u2 : Value) (wr W : World) : Prop :=
 W.cell? ⟨b1, o1, none⟩ = some v0 ∧ W.cell? ⟨b1, o1 + 1, none⟩ = some v1 ∧ W.cell? ⟨b1, o1 + 2, none⟩ = some v2 ∧ W.cell? ⟨b2, o2, none⟩ = some u0 ∧ W.cell? ⟨b2, o2 + 1, none⟩ = some u1 ∧ W.cell? ⟨b2, o2 + 2, none⟩ = some u2 ∧ Below wr.heap.size wr W
end Go.Proofs.YtahamclodagihaaGreatDoor
