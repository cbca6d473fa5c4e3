/- The functions of package host: letters, digits, small letters, labels, DNS names. -/
import Derived.Test.YtmgnihmjjijdoaaGreatDoorGTxtA
import Derived.Test.YtmgnihmjjijdoaaGreatDoorGNamR
namespace Go.Proofs.YtmgnihmjjijdoaaGreatDoor
open Go.RowKit
def isLet (c : UInt8) : Bool := (decide (97 ≤ (c.toNat : Int)) && decide ((c.toNat : Int) ≤ 122)) || (decide (65 ≤ (c.toNat : Int)) && decide ((c.toNat : Int) ≤ 90))
def hDig (c : UInt8) : Bool := decide (48 ≤ (c.toNat : Int)) && decide ((c.toNat : Int) ≤ 57)
set_option maxHeartbeats 400000 in
theorem hletter_any (c : UInt8) (w : World) :
  Calls Tryz.prog 180 #[.int .u8 (c.toNat : Int)] w fun e w' => e = .returned (.bool (isLet c)) ∧ w = w' := by
 unfold isLet
 generalize (c.toNat : Int) = c
 go_enter Tryz.func180, Tryz.ntmps180
 go_wp2
 all_goals go_ret
 all_goals (refine ⟨ret_bool ?_, rfl⟩; first | rfl | (rw [Bool.eq_iff_iff]; simp; done) | (rw [Bool.eq_iff_iff]; simp; omega))
set_option maxHeartbeats 400000 in
theorem hdigit_any (c : UInt8) (w : World) :
  Calls Tryz.prog 181 #[.int .u8 (c.toNat : Int)] w fun e w' => e = .returned (.bool (hDig c)) ∧ w = w' := by
 unfold hDig
 generalize (c.toNat : Int) = c
 go_enter Tryz.func181, Tryz.ntmps181
 go_wp2
 all_goals go_ret
 all_goals (refine ⟨ret_bool ?_, rfl⟩; first | rfl | (rw [Bool.eq_iff_iff]; simp; done) | (rw [Bool.eq_iff_iff]; simp; omega))
theorem hletter_v (c : UInt8) (q : Bool) (hq : isLet c = q) (w : World) : Calls Tryz.prog 180 #[.int .u8 (c.toNat : Int)] w fun e w' => e = .returned (.bool q) ∧ w = w' := hq ▸ hletter_any c w
theorem hdigit_v (c : UInt8) (q : Bool) (hq : hDig c = q) (w : World) : Calls Tryz.prog 181 #[.int .u8 (c.toNat : Int)] w fun e w' => e = .returned (.bool q) ∧ w = w' := hq ▸ hdigit_any c w
set_option maxHeartbeats 1000000 in
theorem hsmall_any (s : ByteArray) (hs : s.size ≤ 1000000) (w : World) :
  Calls Tryz.prog 137 #[.string s] w fun e w' => e = .returned (.string ⟨(s.data.toList.map low).toArray⟩) ∧ Below w.heap.size w w' := by
 have hsz := size_string s
 generalize hl : s.data.toList = l at hsz
 have HL := hide hl
 have hsl : l.length ≤ 1000000 := by omega
 have hm : l.length ≤ maxLen := by unfold maxLen; omega
 clear hsz hl
 go_enter Tryz.func137, Tryz.ntmps137
 go_wp2_with (with_reducible refine wpList_str_bts _ rfl (.tmp 6) 9 28 5 rfl Tryz.underlying9 Tryz.underlying28 Tryz.underlying5 s rfl l HL.out hm ?_; intro g c w1 hg1 hg2 hb1 hby hc1 hc2)
 go_loopw [10] (fun i wr => ∃ k : Nat, k ≤ l.length ∧ i = .int .i64 k ∧ BytesAt wr 5 g (lowTo l k) ∧ Below w.heap.size w wr) (fun i _ => l.length - (intOf i).toNat)
 case atStart => exact ⟨0, Nat.zero_le _, rfl, by simpa [lowTo] using hby, hb1⟩
 case round =>
  obtain ⟨k, hk, rfl, hby, hb⟩ := hrel
  by_cases hlt : k < l.length
  ·have hlt' : k < (lowTo l k).length := by rw [lowTo_len]; exact hlt
   have hcell := hby.cell hlt'
   rw [lowTo_at l k hlt] at hcell
   have hfree := hby.free hlt'
   have hbb := byte_lt l[k]
   obtain ⟨b, hbk⟩ : ∃ b, b = l[k] := ⟨_, rfl⟩
   rw [← hbk] at hcell hbb
   have HB := hide hbk
   clear hbk
   by_cases hup : 65 ≤ (b.toNat : Int) ∧ (b.toNat : Int) ≤ 90
   ·have hlow := low_toNat b hup
    have hset := hby.set_ hlt' (low b)
    rw [hlow] at hset
    have HSET := hide (show BytesAt _ _ g (lowTo l (k + 1)) by rw [HB.out, lowTo_set l k hlt, ← HB.out] at hset; exact hset)
    have HBB := hide (Below.setCell hb (p := ⟨g, k, none⟩) hg1 (.int .u8 ((b.toNat : Int) + 32)))
    obtain ⟨hu1, hu2⟩ := hup
    have hw1 : IntKind.u8.wrap ((b.toNat : Int) + 97) = (b.toNat : Int) + 97 := IntWalk.u8_in _ (by omega)
    have hw2 : IntKind.u8.wrap ((b.toNat : Int) + 97 - 65) = (b.toNat : Int) + 32 := by rw [IntWalk.u8_in _ (by omega)]; omega
    have hw3 : (b.toNat : Int) + 97 - 65 = (b.toNat : Int) + 32 := by omega
    clear hset hlow
    go_wp2
    go_roundw
    case rel => exact ⟨k + 1, by omega, by go_num, HSET.out, HBB.out⟩
    case measure => simp [intOf]; omega
   ·have HS2 := hide (lowTo_skip l k hlt (by rw [← HB.out]; exact low_same b hup))
    have hb2 : (b.toNat : Int) < 65 ∨ 90 < (b.toNat : Int) := by omega
    clear hup
    rcases hb2 with hb2 | hb2
    all_goals
     go_wp2
     go_roundw
     case rel => exact ⟨k + 1, by omega, by go_num, HS2.out ▸ hby, hb⟩
     case measure => simp [intOf]; omega
  ·have hkl : k = l.length := by omega
   subst hkl
   have hfin := hby.sl (c := c) (by rw [lowTo_len]; omega) hc2
   rw [lowTo_len] at hfin
   have hconv := run_bts_str (P := Tryz.prog) wr 28 9 5 Tryz.underlying28 Tryz.underlying5 Tryz.underlying9 _ _ _ hfin
   clear hfin
   go_wp2
   go_ret
   refine ⟨ret_str (by simp [lowTo]), hb⟩
theorem hsmall_v (s : ByteArray) (hs : s.size ≤ 1000000) (w : World) :
  Calls Tryz.prog 137 #[.string s] w fun e w' => ∃ t : ByteArray, Hid (t.data.toList = s.data.toList.map low) ∧ e = .returned (.string t) ∧ Below w.heap.size w w' :=
 (hsmall_any s hs w).mono fun _ _ ⟨he, hb⟩ => ⟨_, hide rfl, he, hb⟩
def eqF (a b : List UInt8) : Bool := a.map low == b.map low
set_option maxHeartbeats 1000000 in
theorem hequal_any (a b : ByteArray) (ha : a.size ≤ 1000000) (hb : b.size ≤ 1000000) (q : Bool) (hq : eqF a.data.toList b.data.toList = q) (w : World) :
  Calls Tryz.prog 96 #[.string a, .string b] w fun e w' => e = .returned (.bool q) ∧ Below w.heap.size w w' := by
 have HQ := hide hq
 clear hq
 go_enter Tryz.func96, Tryz.ntmps96
 go_wp2_with fail
 refine (hsmall_v a ha _).mono ?_
 rintro e w1 ⟨t, HT, rfl, hb1⟩
 have HB1 := hide hb1
 clear hb1
 go_wp2_with fail
 refine (hsmall_v b hb _).mono ?_
 rintro e w2 ⟨u, HU, rfl, hb2⟩
 have HB2 := hide (HB1.out.trans (hb2.mono HB1.out.size))
 clear hb2
 go_wp2_with fail
 go_ret
 exact ⟨ret_bool (by rw [str_beq, HT.out, HU.out, ← HQ.out]; rfl), HB2.out⟩
end Go.Proofs.YtmgnihmjjijdoaaGreatDoor
namespace Go.Proofs.YtmgnihmjjijdoaaGreatDoor
open Go.RowKit
def labC (c : UInt8) : Bool := isLet c || hDig c || c == 45
def labB (s : List UInt8) : Bool := decide (1 ≤ s.length) && decide (s.length ≤ 63) && !(s.getD 0 0 == 45) && !(s.getD (s.length - 1) 0 == 45) && s.all labC
theorem getD_str (s : ByteArray) (i : Nat) (h : i < s.size) : s.data.toList.getD i 0 = s[i] := by
 rw [List.getD_eq_getElem?_getD, List.getElem?_eq_getElem (by simpa using h)]; rfl
set_option maxHeartbeats 4000000 in
theorem hlabel_any (s : ByteArray) (hs : s.size ≤ 1000000) (q : Bool) (hq : labB s.data.toList = q) (w : World) :
  Calls Tryz.prog 136 #[.string s] w fun e w' => e = .returned (.bool q) ∧ Below w.heap.size w w' := by
 have hss := size_string s
 by_cases h1 : 1 ≤ s.size
 ·by_cases h2 : s.size ≤ 63
  ·have hq2 : q = (!(s[0] == 45) && !(s[s.size - 1] == 45) && s.data.toList.all labC) := by
    rw [← hq, labB, hss, decide_eq_true h1, decide_eq_true h2, getD_str s 0 (by omega), getD_str s (s.size - 1) (by omega)]; rfl
   have hn1 : ¬ s.size < 1 := by omega
   have hn2 : ¬ 63 < s.size := by omega
   have hp0 : 0 < s.size := by omega
   have hp1 : s.size - 1 < s.size := by omega
   by_cases h3 : s[0] = 45
   ·have t3 : ((s[0].toNat : Int) == 45) = true := by rw [h3]; rfl
    have HN := hide (show q = false by rw [hq2, h3]; rfl)
    clear h3 hq2
    go_enter Tryz.func136, Tryz.ntmps136
    go_wp2_with fail
    go_ret
    exact ⟨ret_bool HN.out.symm, Below.refl _ _⟩
   ·have t3 : ((s[0].toNat : Int) == 45) = false := (byte_beq s[0] 45).trans (by simpa using h3)
    have hix : ∀ W : World, (Instr.index 9 (.string s) (.int .i64 ((s.size : Int) - 1))).run Tryz.prog W = .ok (.int .u8 (s[s.size - 1].toNat : Int)) W := fun W => by
     have h9 := run_index_string (P := Tryz.prog) (w := W) 9 s .i64 ((s.size : Int) - 1) Tryz.underlying9
     rw [h9, dif_pos (by omega)]
     have h8 : ((s.size : Int) - 1).toNat = s.size - 1 := by omega
     simp only [h8]
    obtain ⟨cl, hcl⟩ : ∃ cl, s[s.size - 1] = cl := ⟨_, rfl⟩
    rw [hcl] at hix hq2
    by_cases h4 : cl = 45
    ·have t4 : ((cl.toNat : Int) == 45) = true := by rw [h4]; rfl
     have HN := hide (show q = false by rw [hq2, h4]; simp)
     clear h3 h4 hq2 hcl
     go_enter Tryz.func136, Tryz.ntmps136
     go_wp2_with fail
     go_ret
     exact ⟨ret_bool HN.out.symm, Below.refl _ _⟩
    ·have t4 : ((cl.toNat : Int) == 45) = false := (byte_beq cl 45).trans (by simpa using h4)
     have HN := hide (show q = s.data.toList.all labC by
      have e3 : (s[0] == 45) = false := by simpa using h3
      have e4 : (cl == 45) = false := by simpa using h4
      rw [hq2, e3, e4]; rfl)
     clear h3 h4 hq2 hcl
     obtain ⟨l, hl⟩ : ∃ l, s.data.toList = l := ⟨_, rfl⟩
     rw [hl] at HN hss
     have HL := hide hl
     have hm : l.length ≤ maxLen := by unfold maxLen; omega
     have hll : l.length ≤ 63 := by omega
     clear hl hq
     go_enter Tryz.func136, Tryz.ntmps136
     go_wp2_with (with_reducible refine wpList_str_bts _ rfl (.tmp 26) 9 28 5 rfl Tryz.underlying9 Tryz.underlying28 Tryz.underlying5 s rfl l HL.out hm ?_; intro g c w1 hg1 hg2 hb1 hby hc1 hc2)
     clear t3 t4 hix
     go_loopw [29] (fun i wr => ∃ k : Nat, k ≤ l.length ∧ i = .int .i64 k ∧ BytesAt wr 5 g l ∧ Below w.heap.size w wr ∧ Hid (q = (l.drop k).all labC)) (fun i _ => l.length - (intOf i).toNat)
     case atStart => exact ⟨0, Nat.zero_le _, rfl, hby, hb1, HN⟩
     case round =>
      obtain ⟨k, hk, rfl, hbyr, hbr, H⟩ := hrel
      by_cases hlt : k < l.length
      ·have hcell := hbyr.cell hlt
       obtain ⟨b, hbk⟩ : ∃ b, l[k] = b := ⟨_, rfl⟩
       rw [hbk] at hcell
       have HX := hide (show q = (labC b && (l.drop (k + 1)).all labC) by rw [H.out, List.drop_eq_getElem_cons hlt, List.all_cons, hbk])
       clear hbk
       obtain ⟨p1, hp1⟩ : ∃ p, isLet b = p := ⟨_, rfl⟩
       obtain ⟨p2, hp2⟩ : ∃ p, hDig b = p := ⟨_, rfl⟩
       have P1 := hide hp1
       have P2 := hide hp2
       have hbb := byte_beq b 45
       obtain ⟨p3, hp3⟩ : ∃ p, (b == 45) = p := ⟨_, rfl⟩
       have HX2 := hide (show q = ((p1 || p2 || p3) && (l.drop (k + 1)).all labC) by rw [HX.out, labC, hp1, hp2, hp3])
       have t5 : ((b.toNat : Int) == 45) = p3 := hbb.trans hp3
       have t6 : ((b.toNat : Int) != 45) = !p3 := by rw [bne, t5]
       clear hp1 hp2 hp3 hbb
       go_wp2_with fail
       refine (hletter_v b p1 P1.out _).mono ?_
       rintro e w5 ⟨rfl, rfl⟩
       cases p1
       ·go_wp2_with fail
        refine (hdigit_v b p2 P2.out _).mono ?_
        rintro e w5 ⟨rfl, rfl⟩
        cases p2
        ·cases p3
         ·have HY := hide (show q = false from HX2.out.trans (by simp))
          go_wp2_with fail
          go_ret
          exact ⟨ret_bool HY.out.symm, hbr⟩
         ·have HY := hide (show q = (l.drop (k + 1)).all labC from HX2.out.trans (by simp))
          go_wp2_with fail
          go_roundw
          case rel => exact ⟨k + 1, by omega, by go_num, hbyr, hbr, HY⟩
          case measure => simp [intOf]; omega
        ·have HY := hide (show q = (l.drop (k + 1)).all labC from HX2.out.trans (by simp))
         go_wp2_with fail
         go_roundw
         case rel => exact ⟨k + 1, by omega, by go_num, hbyr, hbr, HY⟩
         case measure => simp [intOf]; omega
       ·have HY := hide (show q = (l.drop (k + 1)).all labC from HX2.out.trans (by simp))
        go_wp2_with fail
        go_roundw
        case rel => exact ⟨k + 1, by omega, by go_num, hbyr, hbr, HY⟩
        case measure => simp [intOf]; omega
      ·have HY := hide (show q = true by rw [H.out, List.drop_of_length_le (by omega)]; rfl)
       go_wp2_with fail
       go_ret
       exact ⟨ret_bool HY.out.symm, hbr⟩
  ·have HN := hide (show q = false from by rw [← hq, labB, hss, decide_eq_false h2]; simp)
   go_enter Tryz.func136, Tryz.ntmps136
   go_wp2_with fail
   go_ret
   exact ⟨ret_bool HN.out.symm, Below.refl _ _⟩
 ·have HN := hide (show q = false from by rw [← hq, labB, hss, decide_eq_false h1]; simp)
  go_enter Tryz.func136, Tryz.ntmps136
  go_wp2_with fail
  go_ret
  exact ⟨ret_bool HN.out.symm, Below.refl _ _⟩
end Go.Proofs.YtmgnihmjjijdoaaGreatDoor
namespace Go.Proofs.YtmgnihmjjijdoaaGreatDoor
open Go.RowKit
def dnsB (s : List UInt8) : Bool := decide (s.length ≤ 128) && (splitC 46 s).all labB
set_option maxHeartbeats 4000000 in
theorem hdns_any (s : ByteArray) (hs : s.size ≤ 1000000) (q : Bool) (hq : dnsB s.data.toList = q) (w : World) (hmx : Mx w) :
  Calls Tryz.prog 95 #[.string s] w fun e w' => e = .returned (.bool q) ∧ Below w.heap.size w w' := by
 have hss := size_string s
 by_cases h1 : s.size ≤ 128
 ·have hn1 : ¬ 128 < s.size := by omega
  obtain ⟨ps, hps⟩ : ∃ ps, splitC 46 s.data.toList = ps := ⟨_, rfl⟩
  have H0 := hide (show q = (ps.drop 0).all labB by rw [← hq, dnsB, hss, decide_eq_true h1, hps]; rfl)
  have HPL := hide (show ∀ p ∈ ps, p.length ≤ 128 from fun p hp => by
   have := splitC_mem_len 46 s.data.toList p (hps ▸ hp)
   omega)
  have hpl : ps.length ≤ 129 := by
   have := splitC_len 46 s.data.toList
   rw [hps] at this
   omega
  have SP := hide (fun W hm => hps ▸ split_v s (by omega) 46 W hm)
  have HMX := hide hmx
  clear hq hps hmx hss
  go_enter Tryz.func95, Tryz.ntmps95
  go_wp2_with fail
  refine (SP.out _ HMX.out).mono ?_
  rintro e w1 ⟨rfl, hb1, hz1, hsl⟩
  have HB1 := hide hb1
  have HSL := hide hsl
  have HZ1 := hide hz1
  clear hb1 hsl hz1
  go_wp2_with fail
  go_loopw [11] (fun i wr => ∃ k : Nat, k ≤ ps.length ∧ i = .int .i64 k ∧ Below w1.heap.size w1 wr ∧ Hid (q = (ps.drop k).all labB)) (fun i _ => ps.length - (intOf i).toNat)
  case atStart => exact ⟨0, Nat.zero_le _, rfl, Below.refl _ _, H0⟩
  case round =>
   obtain ⟨k, hk, rfl, hb, H⟩ := hrel
   have HBW := hide (HB1.out.trans (hb.mono HB1.out.size))
   by_cases hlt : k < ps.length
   ·obtain ⟨bk, off, xs, hA, hbS, hx, hcell⟩ := HSL.out.at_ hlt
    cases hA
    have hpp := HPL.out ps[k] (List.getElem_mem hlt)
    have HX := hide (show q = (labB ps[k] && (ps.drop (k + 1)).all labB) by rw [H.out, List.drop_eq_getElem_cons hlt, List.all_cons])
    obtain ⟨p, hp⟩ : ∃ p : ByteArray, p = ⟨ps[k].toArray⟩ := ⟨_, rfl⟩
    have hp2 : ps[k] = p.data.toList := by rw [hp]
    have hxs : xs = strC ps[k] := hx
    rw [hxs] at hcell
    have e0 := hcell 0 (.string p) (by rw [hp]; rfl)
    have d0 : wr.cell? ⟨w.heap.size, k, none⟩ = some (.string p) := (hb.cell (p := ⟨w.heap.size, k, none⟩) (show w.heap.size < w1.heap.size by have := HZ1.out; omega)).trans (by simpa using e0)
    rw [hp2] at HX hpp
    rw [size_string] at hpp
    obtain ⟨p1, hp1⟩ : ∃ p1, labB p.data.toList = p1 := ⟨_, rfl⟩
    have HX2 := hide (show q = (p1 && (ps.drop (k + 1)).all labB) by rw [HX.out, hp1])
    have HP1 := hide hp1
    have HB := hide hb
    clear hx hcell hp hp2 hxs e0 hp1 hb
    go_wp2_with fail
    refine (hlabel_any p (by omega) p1 HP1.out _).mono ?_
    rintro e w5 ⟨rfl, hb5⟩
    have HB5 := hide (HB.out.trans (hb5.mono HB.out.size))
    have HW5 := hide (HBW.out.trans (hb5.mono HBW.out.size))
    clear hb5 d0
    cases p1
    ·have HY := hide (show q = false by rw [HX2.out]; rfl)
     go_wp2_with fail
     go_ret
     exact ⟨ret_bool HY.out.symm, HW5.out⟩
    ·have HY := hide (show q = (ps.drop (k + 1)).all labB by rw [HX2.out]; rfl)
     go_wp2_with fail
     go_roundw
     case rel => exact ⟨k + 1, by omega, by go_num, HB5.out, HY⟩
     case measure => simp [intOf]; omega
   ·have HY := hide (show q = true by rw [H.out, List.drop_of_length_le (by omega)]; rfl)
    clear hb
    go_wp2_with fail
    go_ret
    exact ⟨ret_bool HY.out.symm, HBW.out⟩
 ·have hn1 : 128 < s.size := by omega
  have HN := hide (show q = false by rw [← hq, dnsB, hss, decide_eq_false h1]; rfl)
  clear hq
  go_enter Tryz.func95, Tryz.ntmps95
  go_wp2_with fail
  go_ret
  exact ⟨ret_bool HN.out.symm, Below.refl _ _⟩
def emptyB (s : List UInt8) : Bool := s == []
theorem empty_cases (s : ByteArray) : (s.data.toList = [] ∧ s.toList = [] ∧ (s.toList == []) = true ∧ s.toList.isEmpty = true) ∨ (s.data.toList ≠ [] ∧ ¬ s.toList = [] ∧ (s.toList == []) = false ∧ s.toList.isEmpty = false) := by
 rw [ByteArray.toList_eq]
 by_cases h : s.data.toList = []
 ·left; simp [h]
 ·right; exact ⟨h, h, beq_eq_false_iff_ne.2 h, List.isEmpty_eq_false_iff.2 h⟩
def baseB (s : List UInt8) : Bool := emptyB s || dnsB s
set_option maxHeartbeats 1000000 in
theorem hbase_any (s : ByteArray) (hs : s.size ≤ 1000000) (q : Bool) (hq : baseB s.data.toList = q) (w : World) (hmx : Mx w) :
  Calls Tryz.prog 124 #[.string s] w fun e w' => e = .returned (.bool q) ∧ Below w.heap.size w w' := by
 rcases empty_cases s with ⟨h0, h1, h2, h3⟩ | ⟨h0, h1, h2, h3⟩
 ·have HN := hide (show q = true by rw [← hq, baseB, emptyB, h0]; rfl)
  clear hq h0
  go_enter Tryz.func124, Tryz.ntmps124
  go_wp2_with fail
  go_ret
  exact ⟨ret_bool HN.out.symm, Below.refl _ _⟩
 ·have HN := hide (show dnsB s.data.toList = q by rw [← hq, baseB, emptyB, show (s.data.toList == []) = false by simpa using h0]; rfl)
  have HMX := hide hmx
  clear hq h0 hmx
  go_enter Tryz.func124, Tryz.ntmps124
  go_wp2_with fail
  refine (hdns_any s hs q HN.out _ HMX.out).mono ?_
  rintro e w1 ⟨rfl, hb1⟩
  go_wp2_with fail
  go_ret
  exact ⟨rfl, hb1⟩
def patB (s : List UInt8) : Bool := if Lib.hasPrefix s [42, 46] = true then decide (s.length ≤ 128) && dnsB (s.drop 2) && decide (0 ≤ Lib.indexByte (s.drop 2) 46) else dnsB s
set_option maxHeartbeats 2000000 in
theorem hpat_any (s : ByteArray) (hs : s.size ≤ 1000000) (q : Bool) (hq : patB s.data.toList = q) (w : World) (hmx : Mx w) :
  Calls Tryz.prog 94 #[.string s] w fun e w' => e = .returned (.bool q) ∧ Below w.heap.size w w' := by
 have hss := size_string s
 have HMX := hide hmx
 obtain ⟨p1, hp1⟩ : ∃ p, Lib.hasPrefix s.data.toList [42, 46] = p := ⟨_, rfl⟩
 obtain ⟨rs, hrs⟩ : ∃ rs : ByteArray, rs = ⟨(Lib.trimPrefix s.data.toList [42, 46]).toArray⟩ := ⟨_, rfl⟩
 have CP := hide (fun W => hrs ▸ hp1 ▸ Tryz.strings_CutPrefix s ⟨#[42, 46]⟩ W)
 have HQ := hide hq
 have HP1 := hide hp1
 have hrs2 : rs.data.toList = Lib.trimPrefix s.data.toList [42, 46] := by rw [hrs]
 have HRS := hide hrs2
 clear hq hp1 hrs hmx hrs2
 cases p1
 ·have HN := hide (show dnsB s.data.toList = q by rw [← HQ.out, patB, HP1.out]; rfl)
  go_enter Tryz.func94, Tryz.ntmps94
  go_wp2_with fail
  refine (CP.out _).mono ?_
  rintro e w1 ⟨rfl, rfl⟩
  go_wp2_with fail
  refine (hdns_any s hs q HN.out _ HMX.out).mono ?_
  rintro e w1 ⟨rfl, hb1⟩
  go_wp2_with fail
  go_ret
  exact ⟨rfl, hb1⟩
 ·have hrl : rs.data.toList = s.data.toList.drop 2 := by rw [HRS.out, Lib.trimPrefix, if_pos HP1.out]; rfl
  have hrz : rs.size ≤ 1000000 := by rw [← size_string, hrl, List.length_drop, hss]; omega
  obtain ⟨p2, hp2⟩ : ∃ p, dnsB rs.data.toList = p := ⟨_, rfl⟩
  obtain ⟨p3, hp3⟩ : ∃ p, decide (0 ≤ Lib.indexByte rs.data.toList 46) = p := ⟨_, rfl⟩
  have HN := hide (show (decide (s.size ≤ 128) && p2 && p3) = q by rw [← HQ.out, patB, if_pos HP1.out, ← hrl, hp2, hp3, hss])
  have CT := hide (fun W => hp3 ▸ Tryz.strings_Contains_one rs 46 W)
  have HP2 := hide hp2
  clear hrl hp2 hp3 hss
  by_cases h1 : s.size ≤ 128
  ·have hd1 : decide (s.size ≤ 128) = true := by simpa using h1
   have HN2 := hide (show (p2 && p3) = q by rw [← HN.out, hd1]; rfl)
   go_enter Tryz.func94, Tryz.ntmps94
   go_wp2_with fail
   refine (CP.out _).mono ?_
   rintro e w1 ⟨rfl, rfl⟩
   go_wp2_with fail
   refine (hdns_any rs hrz p2 HP2.out _ HMX.out).mono ?_
   rintro e w1 ⟨rfl, hb1⟩
   cases p2
   ·go_wp2_with fail
    go_ret
    exact ⟨ret_bool (by rw [← HN2.out]; rfl), hb1⟩
   ·go_wp2_with fail
    refine (CT.out _).mono ?_
    rintro e w2 ⟨rfl, rfl⟩
    go_wp2_with fail
    go_ret
    exact ⟨ret_bool (by rw [← HN2.out]; rfl), hb1⟩
  ·have hd1 : decide (s.size ≤ 128) = false := by simpa using h1
   have HN2 := hide (show false = q by rw [← HN.out, hd1]; rfl)
   go_enter Tryz.func94, Tryz.ntmps94
   go_wp2_with fail
   refine (CP.out _).mono ?_
   rintro e w1 ⟨rfl, rfl⟩
   go_wp2_with fail
   go_ret
   exact ⟨ret_bool HN2.out, Below.refl _ _⟩
end Go.Proofs.YtmgnihmjjijdoaaGreatDoor
namespace Go.Proofs.YtmgnihmjjijdoaaGreatDoor
open Go.RowKit
end Go.Proofs.YtmgnihmjjijdoaaGreatDoor
namespace Go.Proofs.YtmgnihmjjijdoaaGreatDoor
open Go.RowKit
def locSet : List UInt8 := [33, 35, 36, 37, 38, 39, 42, 43, 45, 47, 61, 63, 94, 95, 96, 123, 124, 125, 126, 46]
def locC (c : UInt8) : Bool := isLet c || hDig c || locSet.contains c
def locB (s : List UInt8) : Bool := decide (1 ≤ s.length) && decide (s.length ≤ 64) && !(s.getD 0 0 == 46) && !(s.getD (s.length - 1) 0 == 46) && !(Lib.contains s [46, 46]) && s.all locC
theorem ibyte_any (c : UInt8) (p : Bool) (hp : locSet.contains c = p) (w : World) :
  Calls Tryz.prog 76 #[.string ⟨#[33, 35, 36, 37, 38, 39, 42, 43, 45, 47, 61, 63, 94, 95, 96, 123, 124, 125, 126, 46]⟩, .int .u8 (c.toNat : Int)] w fun e w' => ∃ n : Int, e = .returned (.int .i64 n) ∧ decide (0 ≤ n) = p ∧ w = w' :=
 (Tryz.strings_IndexByte ⟨#[33, 35, 36, 37, 38, 39, 42, 43, 45, 47, 61, 63, 94, 95, 96, 123, 124, 125, 126, 46]⟩ (c.toNat : Int) w).mono fun e w' ⟨he, hw⟩ => ⟨_, he, by rw [← hp]; exact indexByte_ge0 locSet c, hw.symm⟩
set_option maxHeartbeats 4000000 in
theorem hlocal_any (s : ByteArray) (hs : s.size ≤ 1000000) (q : Bool) (hq : locB s.data.toList = q) (w : World) (hmx : Mx w) :
  Calls Tryz.prog 139 #[.string s] w fun e w' => e = .returned (.bool q) ∧ Below w.heap.size w w' := by
 have hss := size_string s
 by_cases h1 : 1 ≤ s.size
 ·by_cases h2 : s.size ≤ 64
  ·have hq2 : q = (!(s[0] == 46) && !(s[s.size - 1] == 46) && !(Lib.contains s.data.toList [46, 46]) && s.data.toList.all locC) := by
    rw [← hq, locB, hss, decide_eq_true h1, decide_eq_true h2, getD_str s 0 (by omega), getD_str s (s.size - 1) (by omega)]; rfl
   have hn1 : ¬ s.size < 1 := by omega
   have hn2 : ¬ 64 < s.size := by omega
   have hp0 : 0 < s.size := by omega
   have hp1 : s.size - 1 < s.size := by omega
   by_cases h3 : s[0] = 46
   ·have t3 : ((s[0].toNat : Int) == 46) = true := by rw [h3]; rfl
    have HN := hide (show q = false by rw [hq2, h3]; rfl)
    clear h3 hq2
    go_enter Tryz.func139, Tryz.ntmps139
    go_wp2_with fail
    go_ret
    exact ⟨ret_bool HN.out.symm, Below.refl _ _⟩
   ·have t3 : ((s[0].toNat : Int) == 46) = false := (byte_beq s[0] 46).trans (by simpa using h3)
    have hix : ∀ W : World, (Instr.index 9 (.string s) (.int .i64 ((s.size : Int) - 1))).run Tryz.prog W = .ok (.int .u8 (s[s.size - 1].toNat : Int)) W := fun W => by
     have h9 := run_index_string (P := Tryz.prog) (w := W) 9 s .i64 ((s.size : Int) - 1) Tryz.underlying9
     rw [h9, dif_pos (by omega)]
     have h8 : ((s.size : Int) - 1).toNat = s.size - 1 := by omega
     simp only [h8]
    obtain ⟨cl, hcl⟩ : ∃ cl, s[s.size - 1] = cl := ⟨_, rfl⟩
    rw [hcl] at hix hq2
    by_cases h4 : cl = 46
    ·have t4 : ((cl.toNat : Int) == 46) = true := by rw [h4]; rfl
     have HN := hide (show q = false by rw [hq2, h4]; simp)
     clear h3 h4 hq2 hcl
     go_enter Tryz.func139, Tryz.ntmps139
     go_wp2_with fail
     go_ret
     exact ⟨ret_bool HN.out.symm, Below.refl _ _⟩
    ·have t4 : ((cl.toNat : Int) == 46) = false := (byte_beq cl 46).trans (by simpa using h4)
     obtain ⟨pc, hpc⟩ : ∃ p, Lib.contains s.data.toList [46, 46] = p := ⟨_, rfl⟩
     have HN := hide (show q = (!pc && s.data.toList.all locC) by
      have e3 : (s[0] == 46) = false := by simpa using h3
      have e4 : (cl == 46) = false := by simpa using h4
      rw [hq2, e3, e4, hpc]; rfl)
     obtain ⟨m, hm0⟩ := hmx
     have CT := hide (fun W hm => hpc ▸ Tryz.strings_Contains s ⟨#[46, 46]⟩ m W (by omega) hm)
     have HM0 := hide hm0
     clear h3 h4 hq2 hcl hm0 hpc
     obtain ⟨l, hl⟩ : ∃ l, s.data.toList = l := ⟨_, rfl⟩
     rw [hl] at HN hss
     have HL := hide hl
     have hm : l.length ≤ maxLen := by unfold maxLen; omega
     have hll : l.length ≤ 64 := by omega
     clear hl hq
     go_enter Tryz.func139, Tryz.ntmps139
     go_wp2_with fail
     refine (CT.out _ HM0.out).mono ?_
     rintro e w0 ⟨rfl, rfl⟩
     cases pc
     ·have HN2 := hide (show q = l.all locC from HN.out.trans (by simp))
      go_wp2_with (with_reducible refine wpList_str_bts _ rfl (.tmp 31) 9 28 5 rfl Tryz.underlying9 Tryz.underlying28 Tryz.underlying5 s rfl l HL.out hm ?_; intro g c w1 hg1 hg2 hb1 hby hc1 hc2)
      clear t3 t4 hix
      go_loopw [34] (fun i wr => ∃ k : Nat, k ≤ l.length ∧ i = .int .i64 k ∧ BytesAt wr 5 g l ∧ Below w0.heap.size w0 wr ∧ Hid (q = (l.drop k).all locC)) (fun i _ => l.length - (intOf i).toNat)
      case atStart => exact ⟨0, Nat.zero_le _, rfl, hby, hb1, HN2⟩
      case round =>
       obtain ⟨k, hk, rfl, hbyr, hbr, H⟩ := hrel
       by_cases hlt : k < l.length
       ·have hcell := hbyr.cell hlt
        obtain ⟨b, hbk⟩ : ∃ b, l[k] = b := ⟨_, rfl⟩
        rw [hbk] at hcell
        have HX := hide (show q = (locC b && (l.drop (k + 1)).all locC) by rw [H.out, List.drop_eq_getElem_cons hlt, List.all_cons, hbk])
        clear hbk
        obtain ⟨p1, hp1⟩ : ∃ p, isLet b = p := ⟨_, rfl⟩
        obtain ⟨p2, hp2⟩ : ∃ p, hDig b = p := ⟨_, rfl⟩
        obtain ⟨p3, hp3⟩ : ∃ p, locSet.contains b = p := ⟨_, rfl⟩
        have P1 := hide hp1
        have P2 := hide hp2
        have P3 := hide hp3
        have HX2 := hide (show q = ((p1 || p2 || p3) && (l.drop (k + 1)).all locC) by rw [HX.out, locC, hp1, hp2, hp3])
        clear hp1 hp2 hp3
        go_wp2_with fail
        refine (hletter_v b p1 P1.out _).mono ?_
        rintro e w5 ⟨rfl, rfl⟩
        cases p1
        ·go_wp2_with fail
         refine (hdigit_v b p2 P2.out _).mono ?_
         rintro e w5 ⟨rfl, rfl⟩
         cases p2
         ·go_wp2_with fail
          refine (ibyte_any b p3 P3.out _).mono ?_
          rintro e w5 ⟨nn, rfl, hnn, rfl⟩
          cases p3
          ·have HY := hide (show q = false from HX2.out.trans (by simp))
           go_wp2_with fail
           go_ret
           exact ⟨ret_bool HY.out.symm, hbr⟩
          ·have HY := hide (show q = (l.drop (k + 1)).all locC from HX2.out.trans (by simp))
           go_wp2_with fail
           go_roundw
           case rel => exact ⟨k + 1, by omega, by go_num, hbyr, hbr, HY⟩
           case measure => simp [intOf]; omega
         ·have HY := hide (show q = (l.drop (k + 1)).all locC from HX2.out.trans (by simp))
          go_wp2_with fail
          go_roundw
          case rel => exact ⟨k + 1, by omega, by go_num, hbyr, hbr, HY⟩
          case measure => simp [intOf]; omega
        ·have HY := hide (show q = (l.drop (k + 1)).all locC from HX2.out.trans (by simp))
         go_wp2_with fail
         go_roundw
         case rel => exact ⟨k + 1, by omega, by go_num, hbyr, hbr, HY⟩
         case measure => simp [intOf]; omega
       ·have HY := hide (show q = true by rw [H.out, List.drop_of_length_le (by omega)]; rfl)
        go_wp2_with fail
        go_ret
        exact ⟨ret_bool HY.out.symm, hbr⟩
     ·have HY := hide (show q = false from HN.out.trans (by simp))
      go_wp2_with fail
      go_ret
      exact ⟨ret_bool HY.out.symm, Below.refl _ _⟩
  ·have HN := hide (show q = false from by rw [← hq, locB, hss, decide_eq_false h2]; simp)
   go_enter Tryz.func139, Tryz.ntmps139
   go_wp2_with fail
   go_ret
   exact ⟨ret_bool HN.out.symm, Below.refl _ _⟩
 ·have HN := hide (show q = false from by rw [← hq, locB, hss, decide_eq_false h1]; simp)
  go_enter Tryz.func139, Tryz.ntmps139
  go_wp2_with fail
  go_ret
  exact ⟨ret_bool HN.out.symm, Below.refl _ _⟩
end Go.Proofs.YtmgnihmjjijdoaaGreatDoor
