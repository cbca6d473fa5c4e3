/- General names, plain: what Check asks, what Encode writes. The functions valid of package gname and Check, both sides. -/
import Derived.Test.YtmgnihmjjijdoaaGreatDoorGnZ
import Derived.Test.YtmgnihmjjijdoaaGreatDoorGNenP
import Derived.Test.YtmgnihmjjijdoaaGreatDoorGRefF
import Derived.Test.YtmgnihmjjijdoaaGreatDoorGNenI
import Derived.Test.YtmgnihmjjijdoaaGreatDoorGNenE
import Derived.Test.YtmgnihmjjijdoaaGreatDoorGmA
import Derived.BigRegion
namespace Go.Proofs.YtmgnihmjjijdoaaGreatDoor
open Go.RowKit
def validK (k : Int) (c : Bool) (t : List UInt8) : Bool :=
 if k = 1 then (if c then mbB t else mailB t) else if k = 2 then (if c then baseB t else patB t) else if k = 7 then (if c then rangeB t else addrB t) else false
def chkG (g : Gen) (c : Bool) : Int :=
 if g.1 = 4 then (if g.2.1 = [] then chkN g.2.2 else 14) else if g.2.2 = [] ∧ validK g.1 c g.2.1 = true then 0 else 14
def encGB (g : Gen) : List UInt8 := if g.1 = 4 then wrapW 164 (encB g.2.2) else wrapW (128 + g.1.toNat) g.2.1
def encG (g : Gen) (c : Bool) : List UInt8 × Int := if chkG g c = 0 then (encGB g, 0) else ([], chkG g c)
theorem chkG_kind {g : Gen} {c : Bool} (h : chkG g c = 0) (h4 : g.1 ≠ 4) : g.1 = 1 ∨ g.1 = 2 ∨ g.1 = 7 := by
 rw [chkG, if_neg h4] at h
 split at h
 ·rename_i hv
  have hv := hv.2
  unfold validK at hv
  split at hv
  ·exact .inl ‹_›
  ·split at hv
   ·exact .inr (.inl ‹_›)
   ·split at hv
    ·exact .inr (.inr ‹_›)
    ·cases hv
 ·cases h
set_option maxRecDepth 100000 in
set_option maxHeartbeats 4000000 in
theorem valid_any (k : Int) (hk : k = 1 ∨ k = 2 ∨ k = 7) (c : Bool) (s : ByteArray) (hs : s.size ≤ 1000000) (q : Bool) (hq : validK k c s.data.toList = q) (w : World) (hmx : Mx w) :
  Calls Tryz.prog 77 #[.int .i64 (ofK k), .string s, .bool c] w fun e w' => e = .returned (.bool q) ∧ Below w.heap.size w w' := by
 rcases hk with rfl | rfl | rfl
 ·have HF := hide (fun (h : mailB s.data.toList = q) => hmail_any s hs q h w hmx)
  have HT := hide (fun (h : mbB s.data.toList = q) => hmb_any s hs q h w hmx)
  have HQ := hide hq
  rw [show ofK 1 = 0 from rfl]
  clear hmx hs hq
  cases c
  ·have HP := hide (HF.out HQ.out)
   clear HF HT HQ
   go_enter Tryz.func77, Tryz.ntmps77
   go_wp2_with fail
   refine HP.out.mono ?_
   rintro e w1 ⟨rfl, hb1⟩
   cases q
   ·go_wp2_with fail
    go_ret
    exact ⟨rfl, hb1⟩
   ·go_wp2_with fail
    go_ret
    exact ⟨rfl, hb1⟩
  ·have HP := hide (HT.out HQ.out)
   clear HF HT HQ
   go_enter Tryz.func77, Tryz.ntmps77
   go_wp2_with fail
   refine HP.out.mono ?_
   rintro e w1 ⟨rfl, hb1⟩
   cases q
   ·go_wp2_with fail
    go_ret
    exact ⟨rfl, hb1⟩
   ·go_wp2_with fail
    go_ret
    exact ⟨rfl, hb1⟩
 ·have HF := hide (fun (h : patB s.data.toList = q) => hpat_any s hs q h w hmx)
  have HT := hide (fun (h : baseB s.data.toList = q) => hbase_any s hs q h w hmx)
  have HQ := hide hq
  rw [show ofK 2 = 1 from rfl]
  clear hmx hs hq
  cases c
  ·have HP := hide (HF.out HQ.out)
   clear HF HT HQ
   go_enter Tryz.func77, Tryz.ntmps77
   go_wp2_with fail
   refine HP.out.mono ?_
   rintro e w1 ⟨rfl, hb1⟩
   cases q
   ·go_wp2_with fail
    go_ret
    exact ⟨rfl, hb1⟩
   ·go_wp2_with fail
    go_ret
    exact ⟨rfl, hb1⟩
  ·have HP := hide (HT.out HQ.out)
   clear HF HT HQ
   go_enter Tryz.func77, Tryz.ntmps77
   go_wp2_with fail
   refine HP.out.mono ?_
   rintro e w1 ⟨rfl, hb1⟩
   cases q
   ·go_wp2_with fail
    go_ret
    exact ⟨rfl, hb1⟩
   ·go_wp2_with fail
    go_ret
    exact ⟨rfl, hb1⟩
 ·have HF := hide (fun (h : addrB s.data.toList = q) => haddr_any s q h w)
  have HT := hide (fun (h : rangeB s.data.toList = q) => range_any s hs q h w)
  have HQ := hide hq
  rw [show ofK 7 = 3 from rfl]
  clear hmx hs hq
  cases c
  ·have HP := hide (HF.out HQ.out)
   clear HF HT HQ
   go_enter Tryz.func77, Tryz.ntmps77
   go_wp2_with fail
   refine HP.out.mono ?_
   rintro e w1 ⟨rfl, rfl⟩
   cases q
   ·go_wp2_with fail
    go_ret
    exact ⟨rfl, Below.refl _ _⟩
   ·go_wp2_with fail
    go_ret
    exact ⟨rfl, Below.refl _ _⟩
  ·have HP := hide (HT.out HQ.out)
   clear HF HT HQ
   go_enter Tryz.func77, Tryz.ntmps77
   go_wp2_with fail
   refine HP.out.mono ?_
   rintro e w1 ⟨rfl, hb1⟩
   cases q
   ·go_wp2_with fail
    go_ret
    exact ⟨rfl, hb1⟩
   ·go_wp2_with fail
    go_ret
    exact ⟨rfl, hb1⟩
end Go.Proofs.YtmgnihmjjijdoaaGreatDoor
namespace Go.Proofs.YtmgnihmjjijdoaaGreatDoor
open Go.RowKit
theorem chkG_4 (t : List UInt8) (n : Name) (c : Bool) : chkG (4, t, n) c = if t = [] then chkN n else 14 := by simp [chkG]
theorem chkG_t {k : Int} (h4 : k ≠ 4) (t : List UInt8) (n : Name) (c : Bool) : chkG (k, t, n) c = if n = [] ∧ validK k c t = true then 0 else 14 := by simp [chkG, h4]
theorem validK_no {k : Int} (h : ¬ (k = 1 ∨ k = 2 ∨ k = 7)) (c : Bool) (t : List UInt8) : validK k c t = false := by
 unfold validK
 rw [if_neg (fun e => h (.inl e)), if_neg (fun e => h (.inr (.inl e))), if_neg (fun e => h (.inr (.inr e)))]
theorem ofK_no {k : Int} (h : ¬ (k = 1 ∨ k = 2 ∨ k = 7)) (h4 : k ≠ 4) : ofK k = 4 := by
 unfold ofK
 rw [if_neg (fun e => h (.inl e)), if_neg (fun e => h (.inr (.inl e))), if_neg h4, if_neg (fun e => h (.inr (.inr e)))]
set_option maxRecDepth 100000 in
set_option maxHeartbeats 4000000 in
theorem gCheck_any (k : Int) (t : ByteArray) (n : Name) (c : Bool) (A : Option Addr) (cc : Nat) (ht : t.size ≤ 1000000) (hn : SmallN n) (q : Int) (hq : chkG (k, t.data.toList, n) c = q) (w : World) (hmx : Mx w) (h : Sl RRdn 1 w (Lt w.heap.size) n [.slice A n.length cc]) :
  Calls Tryz.prog 40 #[.agg #[.int .i64 k, .string t, .slice A n.length cc], .bool c] w fun e w' => e = .returned (.int .i64 q) ∧ Below w.heap.size w w' := by
 obtain ⟨wa, hwa⟩ : ∃ wa, wa = w.alloc (.cells #[.int .i64 k, .string t, .slice A n.length cc] 26) := ⟨_, rfl⟩
 obtain ⟨c0, c1, c2⟩ := gen_cells9 hwa
 have hba : Below w.heap.size w wa := by rw [hwa]; exact (Below.refl _ _).alloc (Nat.le_refl _) _
 have HMX := hide (hmx.below hba)
 have HSL := hide ((Sl.ok RRdn.ok).below h hba)
 have HSN := hide hn
 have HT := hide ht
 have HQ0 := hide hq
 have HBA := hide hba
 have HWA := hide hwa
 clear hmx h hn hwa hba ht hq
 by_cases h4 : k = 4
 ·subst h4
  have HOF := hide (fun W => of_v 4 2 rfl W)
  by_cases ht0 : t.data.toList = []
  ·have HQ := hide (show chkN n = q by rw [← HQ0.out, chkG_4, if_pos ht0])
   have ht3 : t.size = 0 := by rw [← size_string, ht0]; rfl
   have ht4 : ((t.size : Int) == 0) = true := by rw [ht3]; rfl
   have ht2 : t.toList = [] := by rw [ByteArray.toList_eq]; exact ht0
   have ht5 : (t.toList == []) = true := by simpa using ht2
   have ht6 : t.toList.isEmpty = true := by simpa using ht2
   clear ht0 ht3
   go_enter Tryz.func40, Tryz.ntmps40
   go_upto_region 1 with (fail)
   rw [← HWA.out]
   go_wp2_with fail
   refine (HOF.out _).mono ?_
   rintro e w1 ⟨rfl, rfl⟩
   go_wp2_with fail
   refine (Check_any n A cc _ HMX.out HSL.out HSN.out).mono ?_
   rintro e w1 ⟨rfl, hb1⟩
   rw [HQ.out]
   go_wp2_with fail
   go_ret
   exact ⟨rfl, HBA.out.trans (hb1.mono HBA.out.size)⟩
  ·have HQ := hide (show 14 = q by rw [← HQ0.out, chkG_4, if_neg ht0])
   have ht2 : ¬ t.toList = [] := by rw [ByteArray.toList_eq]; exact ht0
   have ht5 : (t.toList == []) = false := by simpa using ht2
   have ht6 : t.toList.isEmpty = false := by simpa using ht2
   have ht3 : t.size ≠ 0 := fun e => ht0 (List.eq_nil_of_length_eq_zero (by rw [size_string]; exact e))
   have ht4 : ((t.size : Int) == 0) = false := by rw [beq_eq_false_iff_ne]; omega
   clear ht0 ht3 ht2
   go_enter Tryz.func40, Tryz.ntmps40
   go_upto_region 1 with (fail)
   rw [← HWA.out]
   go_wp2_with fail
   refine (HOF.out _).mono ?_
   rintro e w1 ⟨rfl, rfl⟩
   go_wp2_with fail
   go_ret
   exact ⟨ret_int HQ.out, HBA.out⟩
 ·by_cases hk : k = 1 ∨ k = 2 ∨ k = 7
  ·obtain ⟨o, ho⟩ : ∃ o, ofK k = o := ⟨_, rfl⟩
   have ho3 : o = 0 ∨ o = 1 ∨ o = 3 := by rcases hk with rfl | rfl | rfl <;> simp [ofK] at ho <;> omega
   have o4 : (o == 4) = false := by rw [beq_eq_false_iff_ne]; omega
   have o2 : (o == 2) = false := by rw [beq_eq_false_iff_ne]; omega
   have HOF := hide (fun W => of_v k o ho W)
   obtain ⟨p, hp⟩ : ∃ p, validK k c t.data.toList = p := ⟨_, rfl⟩
   have HV := hide (fun W hm => ho ▸ valid_any k hk c t (by have := HT.out; omega) p hp W hm)
   have HQ1 := hide (show (if n = [] ∧ p = true then 0 else 14) = q by rw [← HQ0.out, chkG_t h4, hp])
   clear hp h4 hk ho ho3
   by_cases hn0 : n = []
   ·have hl0 : (0 : Int) < (n.length : Int) ↔ False := by simp [hn0]
    have hl1 : n.length = 0 := by simp [hn0]
    have hl2 : ¬ (0 : Int) < (n.length : Int) := by omega
    have HN0 := hide hn0
    clear hn0 hl0 hl1
    go_enter Tryz.func40, Tryz.ntmps40
    go_upto_region 1 with (fail)
    rw [← HWA.out]
    go_wp2_with fail
    refine (HOF.out _).mono ?_
    rintro e w1 ⟨rfl, rfl⟩
    go_wp2_with fail
    refine (HV.out _ HMX.out).mono ?_
    rintro e w1 ⟨rfl, hb1⟩
    have HB1 := hide (HBA.out.trans (hb1.mono HBA.out.size))
    clear hb1
    cases p
    ·have HQ := hide (show 14 = q by rw [← HQ1.out, if_neg (by simp)])
     go_wp2_with fail
     go_ret
     exact ⟨ret_int HQ.out, HB1.out⟩
    ·have HQ := hide (show 0 = q by rw [← HQ1.out, if_pos ⟨HN0.out, rfl⟩])
     go_wp2_with fail
     go_ret
     exact ⟨ret_int HQ.out, HB1.out⟩
   ·have HQ := hide (show 14 = q by rw [← HQ1.out, if_neg (fun h => hn0 h.1)])
    have hl1 : n.length ≠ 0 := fun e => hn0 (List.eq_nil_of_length_eq_zero e)
    obtain ⟨nl, hnl⟩ : ∃ m, n.length = m := ⟨_, rfl⟩
    have HWA2 := hide (hnl ▸ HWA.out)
    have hl2 : (0 : Int) < (nl : Int) := by omega
    rw [hnl] at c2 ⊢
    clear hn0 hl1 HSL HWA hnl
    go_enter Tryz.func40, Tryz.ntmps40
    go_upto_region 1 with (fail)
    rw [← HWA2.out]
    go_wp2_with fail
    refine (HOF.out _).mono ?_
    rintro e w1 ⟨rfl, rfl⟩
    go_wp2_with fail
    go_ret
    exact ⟨ret_int HQ.out, HBA.out⟩
  ·have HOF := hide (fun W => of_v k 4 (ofK_no hk h4) W)
   have HQ := hide (show 14 = q by rw [← HQ0.out, chkG_t h4, validK_no hk, if_neg (by simp)])
   clear h4 hk
   go_enter Tryz.func40, Tryz.ntmps40
   go_upto_region 1 with (fail)
   rw [← HWA.out]
   go_wp2_with fail
   refine (HOF.out _).mono ?_
   rintro e w1 ⟨rfl, rfl⟩
   go_wp2_with fail
   go_ret
   exact ⟨ret_int HQ.out, HBA.out⟩
set_option maxRecDepth 100000 in
set_option maxHeartbeats 4000000 in
theorem rCheckG_any (k : Int) (t : ByteArray) (n : Name) (c : Bool) (A : Option Addr) (cc : Nat) (ht : t.size ≤ 1000000) (hn : SmallN n) (q : Int) (hq : chkG (k, t.data.toList, n) c = q) (w : World) (hmx : Mx w) (h : Sl RRdn 1 w (Lt w.heap.size) n [.slice A n.length cc]) :
  Calls Tryz.prog 44 #[.agg #[.int .i64 k, .string t, .slice A n.length cc], .bool c] w fun e w' => e = .returned (.int .i64 q) ∧ Below w.heap.size w w' := by
 obtain ⟨wa, hwa⟩ : ∃ wa, wa = w.alloc (.cells #[.int .i64 k, .string t, .slice A n.length cc] 26) := ⟨_, rfl⟩
 obtain ⟨c0, c1, c2⟩ := gen_cells9 hwa
 have hba : Below w.heap.size w wa := by rw [hwa]; exact (Below.refl _ _).alloc (Nat.le_refl _) _
 have HMX := hide (hmx.below hba)
 have HSL := hide ((Sl.ok RRdn.ok).below h hba)
 have HSN := hide hn
 have HT := hide ht
 have HQ0 := hide hq
 have HBA := hide hba
 have HWA := hide hwa
 clear hmx h hn hwa hba ht hq
 have hs := HT.out
 by_cases h4 : k = 4
 ·subst h4
  clear hs
  by_cases ht0 : t.data.toList = []
  ·have HQ := hide (show chkN n = q by rw [← HQ0.out, chkG_4, if_pos ht0])
   have ht3 : t.size = 0 := by rw [← size_string, ht0]; rfl
   have ht4 : ((t.size : Int) == 0) = true := by rw [ht3]; rfl
   have ht2 : t.toList = [] := by rw [ByteArray.toList_eq]; exact ht0
   have ht5 : (t.toList == []) = true := by simpa using ht2
   have ht6 : t.toList.isEmpty = true := by simpa using ht2
   clear ht0 ht3
   go_enter Tryz.func44, Tryz.ntmps44
   go_upto_region 1 with (fail)
   rw [← HWA.out]
   go_wp2_with fail
   refine (rCheck_any n A cc _ HMX.out HSL.out HSN.out).mono ?_
   rintro e w1 ⟨rfl, hb1⟩
   rw [HQ.out]
   go_wp2_with fail
   go_ret
   exact ⟨rfl, HBA.out.trans (hb1.mono HBA.out.size)⟩
  ·have HQ := hide (show 14 = q by rw [← HQ0.out, chkG_4, if_neg ht0])
   have ht2 : ¬ t.toList = [] := by rw [ByteArray.toList_eq]; exact ht0
   have ht5 : (t.toList == []) = false := by simpa using ht2
   have ht6 : t.toList.isEmpty = false := by simpa using ht2
   have ht3 : t.size ≠ 0 := fun e => ht0 (List.eq_nil_of_length_eq_zero (by rw [size_string]; exact e))
   have ht4 : ((t.size : Int) == 0) = false := by rw [beq_eq_false_iff_ne]; omega
   clear ht0 ht3 ht2
   go_enter Tryz.func44, Tryz.ntmps44
   go_upto_region 1 with (fail)
   rw [← HWA.out]
   go_wp2_with fail
   go_ret
   exact ⟨ret_int HQ.out, HBA.out⟩
 ·by_cases h1 : k = 1
  ·subst h1
   have HF := hide (fun p (h : validK 1 false t.data.toList = p) => rmail_any t (by omega) p h wa)
   have HTT := hide (fun p (h : validK 1 true t.data.toList = p) => rmb_any t (by omega) p h wa)
   obtain ⟨p, hp⟩ : ∃ p, validK 1 c t.data.toList = p := ⟨_, rfl⟩
   have HQ1 := hide (show (if n = [] ∧ p = true then 0 else 14) = q by rw [← HQ0.out, chkG_t h4, hp])
   have HQV := hide hp
   clear hp h4
   cases c
   ·have HP := hide (HF.out p HQV.out)
    clear HF HTT HQV
    go_enter Tryz.func44, Tryz.ntmps44
    go_upto_region 1 with (fail)
    rw [← HWA.out]
    go_wp2_with fail
    refine HP.out.mono ?_
    rintro e w1 ⟨rfl, hb1⟩
    have c2 := cell_grows hb1 _ _ c2
    have HB1 := hide (HBA.out.trans (hb1.mono HBA.out.size))
    clear hb1
    cases p
    ·have HQ := hide (show 14 = q by rw [← HQ1.out, if_neg (by simp)])
     go_wp2_with fail
     go_ret
     exact ⟨ret_int HQ.out, HB1.out⟩
    ·by_cases hn0 : n = []
     ·have HQ := hide (show 0 = q by rw [← HQ1.out, if_pos ⟨hn0, rfl⟩])
      have hl1 : n.length = 0 := by simp [hn0]
      have hl2 : ¬ (0 : Int) < (n.length : Int) := by omega
      clear hn0 hl1
      go_wp2_with fail
      go_ret
      exact ⟨ret_int HQ.out, HB1.out⟩
     ·have HQ := hide (show 14 = q by rw [← HQ1.out, if_neg (fun h => hn0 h.1)])
      have hl1 : n.length ≠ 0 := fun e => hn0 (List.eq_nil_of_length_eq_zero e)
      obtain ⟨nl, hnl⟩ : ∃ m, n.length = m := ⟨_, rfl⟩
      have hl2 : (0 : Int) < (nl : Int) := by omega
      rw [hnl] at c2 ⊢
      clear hn0 hl1 HSL hnl
      go_wp2_with fail
      go_ret
      exact ⟨ret_int HQ.out, HB1.out⟩
   ·have HP := hide (HTT.out p HQV.out)
    clear HF HTT HQV
    go_enter Tryz.func44, Tryz.ntmps44
    go_upto_region 1 with (fail)
    rw [← HWA.out]
    go_wp2_with fail
    refine HP.out.mono ?_
    rintro e w1 ⟨rfl, hb1⟩
    have c2 := cell_grows hb1 _ _ c2
    have HB1 := hide (HBA.out.trans (hb1.mono HBA.out.size))
    clear hb1
    cases p
    ·have HQ := hide (show 14 = q by rw [← HQ1.out, if_neg (by simp)])
     go_wp2_with fail
     go_ret
     exact ⟨ret_int HQ.out, HB1.out⟩
    ·by_cases hn0 : n = []
     ·have HQ := hide (show 0 = q by rw [← HQ1.out, if_pos ⟨hn0, rfl⟩])
      have hl1 : n.length = 0 := by simp [hn0]
      have hl2 : ¬ (0 : Int) < (n.length : Int) := by omega
      clear hn0 hl1
      go_wp2_with fail
      go_ret
      exact ⟨ret_int HQ.out, HB1.out⟩
     ·have HQ := hide (show 14 = q by rw [← HQ1.out, if_neg (fun h => hn0 h.1)])
      have hl1 : n.length ≠ 0 := fun e => hn0 (List.eq_nil_of_length_eq_zero e)
      obtain ⟨nl, hnl⟩ : ∃ m, n.length = m := ⟨_, rfl⟩
      have hl2 : (0 : Int) < (nl : Int) := by omega
      rw [hnl] at c2 ⊢
      clear hn0 hl1 HSL hnl
      go_wp2_with fail
      go_ret
      exact ⟨ret_int HQ.out, HB1.out⟩
  ·by_cases h2 : k = 2
   ·subst h2
    have HF := hide (fun p (h : validK 2 false t.data.toList = p) => rpattern_any t (by omega) p h wa)
    have HTT := hide (fun p (h : validK 2 true t.data.toList = p) => rbase_any t (by omega) p h wa)
    obtain ⟨p, hp⟩ : ∃ p, validK 2 c t.data.toList = p := ⟨_, rfl⟩
    have HQ1 := hide (show (if n = [] ∧ p = true then 0 else 14) = q by rw [← HQ0.out, chkG_t h4, hp])
    have HQV := hide hp
    clear hp h4
    cases c
    ·have HP := hide (HF.out p HQV.out)
     clear HF HTT HQV
     go_enter Tryz.func44, Tryz.ntmps44
     go_upto_region 1 with (fail)
     rw [← HWA.out]
     go_wp2_with fail
     refine HP.out.mono ?_
     rintro e w1 ⟨rfl, hb1⟩
     have c2 := cell_grows hb1 _ _ c2
     have HB1 := hide (HBA.out.trans (hb1.mono HBA.out.size))
     clear hb1
     cases p
     ·have HQ := hide (show 14 = q by rw [← HQ1.out, if_neg (by simp)])
      go_wp2_with fail
      go_ret
      exact ⟨ret_int HQ.out, HB1.out⟩
     ·by_cases hn0 : n = []
      ·have HQ := hide (show 0 = q by rw [← HQ1.out, if_pos ⟨hn0, rfl⟩])
       have hl1 : n.length = 0 := by simp [hn0]
       have hl2 : ¬ (0 : Int) < (n.length : Int) := by omega
       clear hn0 hl1
       go_wp2_with fail
       go_ret
       exact ⟨ret_int HQ.out, HB1.out⟩
      ·have HQ := hide (show 14 = q by rw [← HQ1.out, if_neg (fun h => hn0 h.1)])
       have hl1 : n.length ≠ 0 := fun e => hn0 (List.eq_nil_of_length_eq_zero e)
       obtain ⟨nl, hnl⟩ : ∃ m, n.length = m := ⟨_, rfl⟩
       have hl2 : (0 : Int) < (nl : Int) := by omega
       rw [hnl] at c2 ⊢
       clear hn0 hl1 HSL hnl
       go_wp2_with fail
       go_ret
       exact ⟨ret_int HQ.out, HB1.out⟩
    ·have HP := hide (HTT.out p HQV.out)
     clear HF HTT HQV
     go_enter Tryz.func44, Tryz.ntmps44
     go_upto_region 1 with (fail)
     rw [← HWA.out]
     go_wp2_with fail
     refine HP.out.mono ?_
     rintro e w1 ⟨rfl, hb1⟩
     have c2 := cell_grows hb1 _ _ c2
     have HB1 := hide (HBA.out.trans (hb1.mono HBA.out.size))
     clear hb1
     cases p
     ·have HQ := hide (show 14 = q by rw [← HQ1.out, if_neg (by simp)])
      go_wp2_with fail
      go_ret
      exact ⟨ret_int HQ.out, HB1.out⟩
     ·by_cases hn0 : n = []
      ·have HQ := hide (show 0 = q by rw [← HQ1.out, if_pos ⟨hn0, rfl⟩])
       have hl1 : n.length = 0 := by simp [hn0]
       have hl2 : ¬ (0 : Int) < (n.length : Int) := by omega
       clear hn0 hl1
       go_wp2_with fail
       go_ret
       exact ⟨ret_int HQ.out, HB1.out⟩
      ·have HQ := hide (show 14 = q by rw [← HQ1.out, if_neg (fun h => hn0 h.1)])
       have hl1 : n.length ≠ 0 := fun e => hn0 (List.eq_nil_of_length_eq_zero e)
       obtain ⟨nl, hnl⟩ : ∃ m, n.length = m := ⟨_, rfl⟩
       have hl2 : (0 : Int) < (nl : Int) := by omega
       rw [hnl] at c2 ⊢
       clear hn0 hl1 HSL hnl
       go_wp2_with fail
       go_ret
       exact ⟨ret_int HQ.out, HB1.out⟩
   ·by_cases h7 : k = 7
    ·subst h7
     have HF := hide (fun p (h : validK 7 false t.data.toList = p) => (raddr_any t p h wa).mono (fun e w' hh => (⟨hh.1, hh.2 ▸ Below.refl _ _⟩ : e = .returned (.bool p) ∧ Below wa.heap.size wa w')))
     have HTT := hide (fun p (h : validK 7 true t.data.toList = p) => rrange_any t (by omega) p h wa)
     obtain ⟨p, hp⟩ : ∃ p, validK 7 c t.data.toList = p := ⟨_, rfl⟩
     have HQ1 := hide (show (if n = [] ∧ p = true then 0 else 14) = q by rw [← HQ0.out, chkG_t h4, hp])
     have HQV := hide hp
     clear hp h4
     cases c
     ·have HP := hide (HF.out p HQV.out)
      clear HF HTT HQV
      go_enter Tryz.func44, Tryz.ntmps44
      go_upto_region 1 with (fail)
      rw [← HWA.out]
      go_wp2_with fail
      refine HP.out.mono ?_
      rintro e w1 ⟨rfl, hb1⟩
      have c2 := cell_grows hb1 _ _ c2
      have HB1 := hide (HBA.out.trans (hb1.mono HBA.out.size))
      clear hb1
      cases p
      ·have HQ := hide (show 14 = q by rw [← HQ1.out, if_neg (by simp)])
       go_wp2_with fail
       go_ret
       exact ⟨ret_int HQ.out, HB1.out⟩
      ·by_cases hn0 : n = []
       ·have HQ := hide (show 0 = q by rw [← HQ1.out, if_pos ⟨hn0, rfl⟩])
        have hl1 : n.length = 0 := by simp [hn0]
        have hl2 : ¬ (0 : Int) < (n.length : Int) := by omega
        clear hn0 hl1
        go_wp2_with fail
        go_ret
        exact ⟨ret_int HQ.out, HB1.out⟩
       ·have HQ := hide (show 14 = q by rw [← HQ1.out, if_neg (fun h => hn0 h.1)])
        have hl1 : n.length ≠ 0 := fun e => hn0 (List.eq_nil_of_length_eq_zero e)
        obtain ⟨nl, hnl⟩ : ∃ m, n.length = m := ⟨_, rfl⟩
        have hl2 : (0 : Int) < (nl : Int) := by omega
        rw [hnl] at c2 ⊢
        clear hn0 hl1 HSL hnl
        go_wp2_with fail
        go_ret
        exact ⟨ret_int HQ.out, HB1.out⟩
     ·have HP := hide (HTT.out p HQV.out)
      clear HF HTT HQV
      go_enter Tryz.func44, Tryz.ntmps44
      go_upto_region 1 with (fail)
      rw [← HWA.out]
      go_wp2_with fail
      refine HP.out.mono ?_
      rintro e w1 ⟨rfl, hb1⟩
      have c2 := cell_grows hb1 _ _ c2
      have HB1 := hide (HBA.out.trans (hb1.mono HBA.out.size))
      clear hb1
      cases p
      ·have HQ := hide (show 14 = q by rw [← HQ1.out, if_neg (by simp)])
       go_wp2_with fail
       go_ret
       exact ⟨ret_int HQ.out, HB1.out⟩
      ·by_cases hn0 : n = []
       ·have HQ := hide (show 0 = q by rw [← HQ1.out, if_pos ⟨hn0, rfl⟩])
        have hl1 : n.length = 0 := by simp [hn0]
        have hl2 : ¬ (0 : Int) < (n.length : Int) := by omega
        clear hn0 hl1
        go_wp2_with fail
        go_ret
        exact ⟨ret_int HQ.out, HB1.out⟩
       ·have HQ := hide (show 14 = q by rw [← HQ1.out, if_neg (fun h => hn0 h.1)])
        have hl1 : n.length ≠ 0 := fun e => hn0 (List.eq_nil_of_length_eq_zero e)
        obtain ⟨nl, hnl⟩ : ∃ m, n.length = m := ⟨_, rfl⟩
        have hl2 : (0 : Int) < (nl : Int) := by omega
        rw [hnl] at c2 ⊢
        clear hn0 hl1 HSL hnl
        go_wp2_with fail
        go_ret
        exact ⟨ret_int HQ.out, HB1.out⟩
    ·have HQ := hide (show 14 = q by rw [← HQ0.out, chkG_t h4, validK_no (by omega), if_neg (by simp)])
     have t1 : (k == 1) = false := by simpa using h1
     have t2 : (k == 2) = false := by simpa using h2
     have t4 : (k == 4) = false := by simpa using h4
     have t7 : (k == 7) = false := by simpa using h7
     clear hs h1 h2 h4 h7
     go_enter Tryz.func44, Tryz.ntmps44
     go_upto_region 1 with (fail)
     rw [← HWA.out]
     go_wp2_with fail
     go_ret
     exact ⟨ret_int HQ.out, HBA.out⟩
end Go.Proofs.YtmgnihmjjijdoaaGreatDoor
namespace Go.Proofs.YtmgnihmjjijdoaaGreatDoor
open Go.RowKit
theorem encB_size {n : Name} (h : chkN n = 0) : (encB n).length ≤ 40000 := by
 have := encN_size n
 rwa [encN, if_pos h] at this
set_option maxRecDepth 100000 in
set_option maxHeartbeats 8000000 in
theorem gEncode_any (k : Int) (t : ByteArray) (n : Name) (c : Bool) (A : Option Addr) (cc : Nat) (ht : t.size ≤ 100000) (hn : SmallN n) (w : World) (hmx : Mx w) (h : Sl RRdn 1 w (Lt w.heap.size) n [.slice A n.length cc]) :
  Calls Tryz.prog 16 #[.agg #[.int .i64 k, .string t, .slice A n.length cc], .bool c] w fun e w' => e = .returned (wrapR (encG (k, t.data.toList, n) c)) ∧ Below w.heap.size w w' := by
 obtain ⟨wa, hwa⟩ : ∃ wa, wa = w.alloc (.cells #[.int .i64 k, .string t, .slice A n.length cc] 26) := ⟨_, rfl⟩
 obtain ⟨c0, c1, c2⟩ := gen_cells9 hwa
 have hba : Below w.heap.size w wa := by rw [hwa]; exact (Below.refl _ _).alloc (Nat.le_refl _) _
 have HMX := hide (hmx.below hba)
 have HSL := hide ((Sl.ok RRdn.ok).below h hba)
 have HSN := hide hn
 have HT := hide ht
 obtain ⟨o, ho⟩ : ∃ o, encG (k, t.data.toList, n) c = o := ⟨_, rfl⟩
 rw [ho]
 have HO := hide ho
 have HBA := hide hba
 have HWA := hide hwa
 obtain ⟨q, hq⟩ : ∃ q, chkG (k, t.data.toList, n) c = q := ⟨_, rfl⟩
 have HQ := hide hq
 clear hmx h hn hwa hba ht ho hq
 go_enter Tryz.func16, Tryz.ntmps16
 go_upto_region 1 with (fail)
 rw [← HWA.out]
 clear HWA
 go_wp2_with fail
 refine (gCheck_any k t n c A cc (by have := HT.out; omega) HSN.out q HQ.out _ HMX.out HSL.out).mono ?_
 rintro e w1 ⟨rfl, hb1⟩
 have c0 := cell_grows hb1 _ _ c0
 have c1 := cell_grows hb1 _ _ c1
 have c2 := cell_grows hb1 _ _ c2
 have HMX := hide (HMX.out.below hb1)
 have HSL := hide ((Sl.ok RRdn.ok).below HSL.out hb1)
 have HB1 := hide (HBA.out.trans (hb1.mono HBA.out.size))
 clear hb1
 by_cases hq0 : q = 0
 ·subst hq0
  have HE := hide (show o = (encGB (k, t.data.toList, n), 0) by rw [← HO.out, encG, if_pos HQ.out])
  by_cases h4 : k = 4
  ·subst h4
   have HNC := hide (show chkN n = 0 by
    have := HQ.out
    rw [chkG_4] at this
    split at this
    ·exact this
    ·cases this)
   have HEK := hide (show encGB (4, t.data.toList, n) = wrapW 164 (encB n) from rfl)
   obtain ⟨Y, hY⟩ : ∃ Y : ByteArray, Y = ⟨(encB n).toArray⟩ := ⟨_, rfl⟩
   have hYs : Y.size ≤ 40000 := by rw [hY, ba_mk]; exact encB_size HNC.out
   have hYd : Y.data.toList = encB n := by rw [hY]
   obtain ⟨E, hE⟩ : ∃ E : ByteArray, E = ⟨(wrapW 164 Y.data.toList).toArray⟩ := ⟨_, rfl⟩
   have HR := hide (show wrapR o = .tuple #[.string E, .int .i64 0] by rw [HE.out, HEK.out, wrapR, hE, hYd])
   have HRN := hide (show wrapR (encN n) = .tuple #[.string Y, .int .i64 0] by rw [encN, if_pos HNC.out, wrapR, hY])
   have HW := hide (show ∀ W : World, Calls Tryz.prog 46 #[.int .i64 164, .slice (some ⟨W.heap.size, 0, none⟩) 1 1] (W.alloc (.cells #[.string Y] 9)) fun e9 w' => e9 = .returned (.tuple #[.string E, .int .i64 0]) ∧ Below W.heap.size W w' from fun W => by have := wrap_one 164 (by omega) (by omega) Y (by omega) _ (wrapF_one (t := 164) (x := Y) (by omega)) W; rw [wrapR, ← hE] at this; exact this)
   clear hE hY hYd hYs
   go_wp2_with fail
   refine (NEncode_any n A cc _ HMX.out HSL.out HSN.out).mono ?_
   rintro e w2 ⟨rfl, hb2⟩
   rw [HRN.out]
   have HB2 := hide (HB1.out.trans (hb2.mono HB1.out.size))
   have c0 := cell_grows hb2 _ _ c0
   have c1 := cell_grows hb2 _ _ c1
   have c2 := cell_grows hb2 _ _ c2
   clear hb2
   go_wp2_with fail
   refine (HW.out _).mono ?_
   rintro e w3 ⟨rfl, hb3⟩
   have HB3 := hide (HB2.out.trans (hb3.mono HB2.out.size))
   clear hb3
   go_wp2_with fail
   go_ret2
   exact ⟨by rw [HR.out]; rfl, HB3.out⟩
  ·rcases chkG_kind HQ.out h4 with hk | hk | hk
   ·have hk' : k = 1 := hk
    subst hk'
    have HEK := hide (show encGB (1, t.data.toList, n) = wrapW 129 t.data.toList from rfl)
    obtain ⟨E, hE⟩ : ∃ E : ByteArray, E = ⟨(wrapW 129 t.data.toList).toArray⟩ := ⟨_, rfl⟩
    have HR := hide (show wrapR o = .tuple #[.string E, .int .i64 0] by rw [HE.out, HEK.out, wrapR, hE])
    clear hk h4
    have HW := hide (show ∀ W : World, Calls Tryz.prog 46 #[.int .i64 129, .slice (some ⟨W.heap.size, 0, none⟩) 1 1] (W.alloc (.cells #[.string t] 9)) fun e9 w' => e9 = .returned (.tuple #[.string E, .int .i64 0]) ∧ Below W.heap.size W w' from fun W => by
     have := wrap_one 129 (by omega) (by omega) t (by have := HT.out; omega) _ (wrapF_one (t := 129) (x := t) (by have := HT.out; omega)) W
     rw [wrapR, ← hE] at this
     exact this)
    clear hE
    go_wp2_with fail
    refine (HW.out _).mono ?_
    rintro e w2 ⟨rfl, hb2⟩
    have HB2 := hide (HB1.out.trans (hb2.mono HB1.out.size))
    clear hb2
    go_wp2_with fail
    go_ret2
    exact ⟨by rw [HR.out]; rfl, HB2.out⟩
   ·have hk' : k = 2 := hk
    subst hk'
    have HEK := hide (show encGB (2, t.data.toList, n) = wrapW 130 t.data.toList from rfl)
    obtain ⟨E, hE⟩ : ∃ E : ByteArray, E = ⟨(wrapW 130 t.data.toList).toArray⟩ := ⟨_, rfl⟩
    have HR := hide (show wrapR o = .tuple #[.string E, .int .i64 0] by rw [HE.out, HEK.out, wrapR, hE])
    clear hk h4
    have HW := hide (show ∀ W : World, Calls Tryz.prog 46 #[.int .i64 130, .slice (some ⟨W.heap.size, 0, none⟩) 1 1] (W.alloc (.cells #[.string t] 9)) fun e9 w' => e9 = .returned (.tuple #[.string E, .int .i64 0]) ∧ Below W.heap.size W w' from fun W => by
     have := wrap_one 130 (by omega) (by omega) t (by have := HT.out; omega) _ (wrapF_one (t := 130) (x := t) (by have := HT.out; omega)) W
     rw [wrapR, ← hE] at this
     exact this)
    clear hE
    go_wp2_with fail
    refine (HW.out _).mono ?_
    rintro e w2 ⟨rfl, hb2⟩
    have HB2 := hide (HB1.out.trans (hb2.mono HB1.out.size))
    clear hb2
    go_wp2_with fail
    go_ret2
    exact ⟨by rw [HR.out]; rfl, HB2.out⟩
   ·have hk' : k = 7 := hk
    subst hk'
    have HEK := hide (show encGB (7, t.data.toList, n) = wrapW 135 t.data.toList from rfl)
    obtain ⟨E, hE⟩ : ∃ E : ByteArray, E = ⟨(wrapW 135 t.data.toList).toArray⟩ := ⟨_, rfl⟩
    have HR := hide (show wrapR o = .tuple #[.string E, .int .i64 0] by rw [HE.out, HEK.out, wrapR, hE])
    clear hk h4
    have HW := hide (show ∀ W : World, Calls Tryz.prog 46 #[.int .i64 135, .slice (some ⟨W.heap.size, 0, none⟩) 1 1] (W.alloc (.cells #[.string t] 9)) fun e9 w' => e9 = .returned (.tuple #[.string E, .int .i64 0]) ∧ Below W.heap.size W w' from fun W => by
     have := wrap_one 135 (by omega) (by omega) t (by have := HT.out; omega) _ (wrapF_one (t := 135) (x := t) (by have := HT.out; omega)) W
     rw [wrapR, ← hE] at this
     exact this)
    clear hE
    go_wp2_with fail
    refine (HW.out _).mono ?_
    rintro e w2 ⟨rfl, hb2⟩
    have HB2 := hide (HB1.out.trans (hb2.mono HB1.out.size))
    clear hb2
    go_wp2_with fail
    go_ret2
    exact ⟨by rw [HR.out]; rfl, HB2.out⟩
 ·have ht : (q != 0) = true := by simp [hq0]
  have HN := hide (show o = ([], q) by rw [← HO.out, encG, if_neg (by rw [HQ.out]; exact hq0), HQ.out])
  clear hq0
  go_wp2_with fail
  go_ret2
  exact ⟨by rw [HN.out]; rfl, HB1.out⟩
end Go.Proofs.YtmgnihmjjijdoaaGreatDoor
namespace Go.Proofs.YtmgnihmjjijdoaaGreatDoor
open Go.RowKit
def decGC (g : Gen) (c : Bool) : Except Int Gen := if chkG g c = 0 then .ok g else .error (chkG g c)
def decGN (c : Bool) : Except Int Name → Except Int Gen
 | .error k => .error k
 | .ok n => decGC (4, [], n) c
def decG (tag : Int) (t : List UInt8) (c : Bool) : Except Int Gen :=
 if tag = 129 ∨ tag = 130 ∨ tag = 135 then decGC (tag - 128, t, []) c else if tag = 164 then decGN c (decN t) else .error 5
def toG : Except Int Gen → Int × Gen
 | .error k => (k, (0, [], []))
 | .ok g => (0, g)
theorem decGC_ok {g : Gen} {c : Bool} (h : chkG g c = 0) : decGC g c = .ok g := if_pos h
theorem decGC_no {g : Gen} {c : Bool} (h : chkG g c ≠ 0) : decGC g c = .error (chkG g c) := if_neg h
theorem decN_err0' (b : List UInt8) : decN b ≠ .error 0 := by
  intro h
  unfold decN at h
  cases h1 : oneF b with
  | error k =>
    rw [h1] at h
    simp only [decNO, Except.error.injEq] at h
    subst h
    exact one_err0 b h1
  | ok e =>
    rw [h1, decNO] at h
    cases h2 : openF e.1 48 e.2.1 with
    | error k =>
      rw [h2] at h
      simp only [decNG, Except.error.injEq] at h
      subst h
      exact openF_err0 h2
    | ok l =>
      rw [h2, decNG] at h
      cases h3 : mapE decR l with
      | error k =>
        rw [h3] at h
        simp only [decNF, Except.error.injEq] at h
        subst h
        exact mapE_err0 decR_err0 l h3
      | ok n =>
        rw [h3] at h
        unfold decNF at h
        simp only at h
        split at h
        · cases h
        · rename_i hn
          exact hn (Except.error.inj h)
def MedG (g : Gen) : Prop := g.2.1.length ≤ 1000000 ∧ SmallN g.2.2
def MedGs (l : List Gen) : Prop := ∀ g ∈ l, MedG g
def DecGPost (w : World) (p : Int × Gen) (e : Ending) (w' : World) : Prop :=
  ∃ (t : ByteArray) (A : Option Addr) (c : Nat), e = .returned (.tuple #[.agg #[.int .i64 p.2.1, .string t, .slice A p.2.2.2.length c], .int .i64 p.1]) ∧ t.data.toList = p.2.2.1 ∧
    Sl RRdn 1 w' (Btw w.heap.size w'.heap.size) p.2.2.2 [.slice A p.2.2.2.length c] ∧ Below w.heap.size w w' ∧ MedG p.2
theorem DecGPost.intro {w : World} {k : Int} {t : ByteArray} {n : Name} {q : Int} {r : Except Int Gen} {A : Option Addr} {c : Nat} {e : Ending} {w' : World} (hr : toG r = (q, (k, t.data.toList, n)))
  (he : e = .returned (.tuple #[.agg #[.int .i64 k, .string t, .slice A n.length c], .int .i64 q])) (hsl : Sl RRdn 1 w' (Btw w.heap.size w'.heap.size) n [.slice A n.length c]) (hb : Below w.heap.size w w') (hsm : MedG (k, t.data.toList, n)) : DecGPost w (toG r) e w' := by
 rw [hr]
 exact ⟨t, A, c, he, rfl, hsl, hb, hsm⟩
structure DSt (w : World) (gR gG : Nat) (k : Int) (t : ByteArray) (v : Value) (W : World) : Prop where
 below : Below w.heap.size w W
 r : GB gR 0 ⟨#[]⟩ (.slice none 0 0) W
 g : GB gG k t v W
 hR : w.heap.size ≤ gR
 hG : gR < gG
theorem DSt.grow {w W W' : World} {gR gG : Nat} {k : Int} {t : ByteArray} {v : Value} (h : DSt w gR gG k t v W) (hb : Below W.heap.size W W') : DSt w gR gG k t v W' :=
 ⟨h.below.trans (hb.mono h.below.size), h.r.below hb, h.g.below hb, h.hR, h.hG⟩
theorem DSt.set0 {w W : World} {gR gG : Nat} {k : Int} {t : ByteArray} {v : Value} (h : DSt w gR gG k t v W) (k' : Int) : DSt w gR gG k' t v (W.setCell ⟨gG, 0, none⟩ (.int .i64 k')) :=
 ⟨h.below.setCell (p := ⟨gG, 0, none⟩) (by have := h.hR; have := h.hG; show _ ≤ gG; omega) _, h.r.other (by have := h.hG; omega), h.g.store0 k', h.hR, h.hG⟩
theorem DSt.set1 {w W : World} {gR gG : Nat} {k : Int} {t : ByteArray} {v : Value} (h : DSt w gR gG k t v W) (t' : ByteArray) : DSt w gR gG k t' v (W.setCell ⟨gG, 1, none⟩ (.string t')) :=
 ⟨h.below.setCell (p := ⟨gG, 1, none⟩) (by have := h.hR; have := h.hG; show _ ≤ gG; omega) _, h.r.other (by have := h.hG; omega), h.g.store1 t', h.hR, h.hG⟩
theorem DSt.set2 {w W : World} {gR gG : Nat} {k : Int} {t : ByteArray} {v : Value} (h : DSt w gR gG k t v W) (v' : Value) : DSt w gR gG k t v' (W.setCell ⟨gG, 2, none⟩ v') :=
 ⟨h.below.setCell (p := ⟨gG, 2, none⟩) (by have := h.hR; have := h.hG; show _ ≤ gG; omega) _, h.r.other (by have := h.hG; omega), h.g.store2 v', h.hR, h.hG⟩
theorem DSt.drew {w W : World} {gR gG : Nat} {k : Int} {t : ByteArray} {v : Value} (h : DSt w gR gG k t v W) : DSt w gR gG k t v W.drew :=
 ⟨h.below.drew, h.r, h.g, h.hR, h.hG⟩
theorem DSt.fin {w W : World} {gR gG : Nat} {k : Int} {t : ByteArray} {v : Value} (h : DSt w gR gG k t v W) (a : Int) (b : ByteArray) (n : Name) (A : Option Addr) (c : Nat) (hsl : Sl RRdn 1 W (fun j => w.heap.size ≤ j ∧ j < W.heap.size ∧ j ≠ gR) n [.slice A n.length c]) :
  ∃ W', W' = ((W.setCell ⟨gR, 0, none⟩ (.int .i64 a)).setCell ⟨gR, 1, none⟩ (.string b)).setCell ⟨gR, 2, none⟩ (.slice A n.length c) ∧ GB gR a b (.slice A n.length c) W' ∧ Below w.heap.size w W' ∧ Sl RRdn 1 W' (Btw w.heap.size W'.heap.size) n [.slice A n.length c] := by
 refine ⟨_, rfl, h.r.store a b _, ((h.below.setCell (p := ⟨gR, 0, none⟩) h.hR _).setCell (p := ⟨gR, 1, none⟩) h.hR _).setCell (p := ⟨gR, 2, none⟩) h.hR _, ?_⟩
 exact (Sl.ok RRdn.ok).mono hsl (fun j hj => (Below.heap_setCell _ ⟨gR, 2, none⟩ _ j hj.2.2).trans ((Below.heap_setCell _ ⟨gR, 1, none⟩ _ j hj.2.2).trans (Below.heap_setCell _ ⟨gR, 0, none⟩ _ j hj.2.2))) (fun j hj => ⟨hj.1, by have := hj.2.1; simpa using this⟩)
theorem DSt.fin0 {w W : World} {gR gG : Nat} {k : Int} {t : ByteArray} {v : Value} (h : DSt w gR gG k t v W) :
  ∃ W', W' = ((W.setCell ⟨gR, 0, none⟩ (.int .i64 0)).setCell ⟨gR, 1, none⟩ (.string ⟨#[]⟩)).setCell ⟨gR, 2, none⟩ (.slice none 0 0) ∧ GB gR 0 ⟨#[]⟩ (.slice none 0 0) W' ∧ Below w.heap.size w W' := by
 obtain ⟨W', h1, h2, h3, -⟩ := h.fin 0 ⟨#[]⟩ [] none 0 (Sl.nil _ _ _ _)
 exact ⟨W', h1, h2, h3⟩
theorem DecGPost.intro0 {w : World} {q : Int} {r : Except Int Gen} {e : Ending} {w' : World} (hr : r = .error q) (he : e = .returned (.tuple #[.agg #[.int .i64 0, .string ⟨#[]⟩, .slice none 0 0], .int .i64 q])) (hb : Below w.heap.size w w') : DecGPost w (toG r) e w' := by
 subst hr
 exact ⟨⟨#[]⟩, none, 0, he, rfl, Sl.nil _ _ _ _, hb, by show ([] : List UInt8).length ≤ 1000000; decide, nil_small⟩
end Go.Proofs.YtmgnihmjjijdoaaGreatDoor
