/- The functions of package text and its reference: what each computes, by walking its code. First part: single bytes, Valid of the kinds of bytes. -/
import Derived.Test.YtmgnihmjjijdoaaGreatDoorLib
import Derived.Test.YtmgnihmjjijdoaaGreatDoorShelf
import Derived.Lib.IndexAny
import Derived.Deep.RegionHeld3
import Derived.Deep.QuietTactic
import Derived.BigQuiet
namespace Go.Proofs.YtmgnihmjjijdoaaGreatDoor
open Go.RowKit
def letterB (c : Int) : Bool := decide (97 ≤ c) && decide (c ≤ 122) || decide (65 ≤ c) && decide (c ≤ 90) || decide (48 ≤ c) && decide (c ≤ 57)
def alnum (c : UInt8) : Bool := letterB (c.toNat : Int)
def plainSet : List UInt8 := [32, 39, 40, 41, 45, 46, 47, 58, 63, 64, 95]
def printSet : List UInt8 := [32, 39, 40, 41, 43, 44, 45, 46, 47, 58, 61, 63]
def isPlain (c : UInt8) : Bool := alnum c || plainSet.contains c
def isPrint (c : UInt8) : Bool := alnum c || printSet.contains c
def isIA5 (c : UInt8) : Bool := decide (32 ≤ (c.toNat : Int)) && decide ((c.toNat : Int) ≤ 126)
set_option maxHeartbeats 400000 in
theorem letter_any (c : UInt8) (w : World) :
  Calls Tryz.prog 102 #[.int .u8 (c.toNat : Int)] w fun e w' => e = .returned (.bool (alnum c)) ∧ w = w' := by
 unfold alnum
 generalize (c.toNat : Int) = c
 go_enter Tryz.func102, Tryz.ntmps102
 go_wp2
 all_goals go_ret
 all_goals (refine ⟨ret_bool ?_, rfl⟩; unfold letterB; rw [Bool.eq_iff_iff]; simp; omega)
set_option maxHeartbeats 400000 in
theorem Alnum_any (c : UInt8) (w : World) :
  Calls Tryz.prog 113 #[.int .u8 (c.toNat : Int)] w fun e w' => e = .returned (.bool (alnum c)) ∧ w = w' := by
 unfold alnum
 generalize (c.toNat : Int) = c
 go_enter Tryz.func113, Tryz.ntmps113
 go_wp2
 all_goals go_ret
 all_goals (refine ⟨ret_bool ?_, rfl⟩; unfold letterB; rw [Bool.eq_iff_iff]; simp; omega)
theorem byte_beq (a b : UInt8) : ((a.toNat : Int) == (b.toNat : Int)) = (a == b) := by
 rw [Bool.eq_iff_iff]
 simp only [beq_iff_eq]
 constructor
 ·intro h
  exact UInt8.toNat_inj.1 (by omega)
 ·rintro rfl; rfl
set_option maxHeartbeats 400000 in
theorem Among_any (c : UInt8) (s : ByteArray) (hs : s.size ≤ maxLen) (w : World) :
  Calls Tryz.prog 114 #[.int .u8 (c.toNat : Int), .string s] w fun e w' => e = .returned (.bool (s.data.toList.contains c)) ∧ w = w' := by
 unfold maxLen at hs
 obtain ⟨r, hr⟩ : ∃ r, r = s.data.toList.contains c := ⟨_, rfl⟩
 rw [← hr]
 have HR := hide hr
 clear hr
 go_enter Tryz.func114, Tryz.ntmps114
 go_wp2
 go_loop [5] (fun i => ∃ k : Nat, k ≤ s.size ∧ i = .int .i64 k ∧ Hid (r = (s.data.toList.drop k).contains c)) (fun i => s.size - (intOf i).toNat)
 case atStart => exact ⟨0, Nat.zero_le _, rfl, HR⟩
 case round =>
  obtain ⟨k, hk, rfl, H⟩ := hrel
  by_cases hlt : k < s.size
  ·have hd := drop_string s k hlt
   have hb := byte_beq s[k] c
   have H2 : Hid (r = (s.data.toList.drop k).contains c ∧ s.data.toList.drop k = s[k] :: s.data.toList.drop (k + 1)) := ⟨H, hd⟩
   clear hd H
   by_cases hc : s[k] = c
   ·have hb' : ((s[k].toNat : Int) == (c.toNat : Int)) = true := by simp [hc]
    have H3 := hide hc
    clear hc hb
    go_wp2
    go_ret
    refine ⟨ret_bool ?_, rfl⟩
    obtain ⟨h1, h2⟩ := H2
    rw [h1, h2, H3.out]
    simp
   ·have hb' : ((s[k].toNat : Int) == (c.toNat : Int)) = false := by simp [hb, hc]
    have H3 := hide hc
    clear hc hb
    go_wp2
    go_round
    case rel =>
     refine ⟨k + 1, by omega, by go_num, ?_⟩
     obtain ⟨h1, h2⟩ := H2
     have h3 := H3.out
     show r = _
     rw [h1, h2, List.contains_cons]
     simp [Ne.symm h3]
    case measure => simp [intOf]; omega
  ·have H2 := hide (drop_string_end s k (by omega))
   go_wp2
   go_ret
   refine ⟨ret_bool ?_, rfl⟩
   rw [H.out, H2.out]
   simp
theorem indexByte_ge0 (l : List UInt8) (c : UInt8) : decide (0 ≤ Lib.indexByte l (c.toNat : Int).toNat.toUInt8) = l.contains c := by
 rw [toUInt8_byte, ← Lib.contains_iff_indexByte]
set_option maxHeartbeats 400000 in
theorem Print_any (c : UInt8) (w : World) :
  Calls Tryz.prog 171 #[.int .u8 (c.toNat : Int)] w fun e w' => e = .returned (.bool (isPrint c)) ∧ w = w' := by
 have hi := indexByte_ge0 printSet c
 unfold printSet at hi
 have H := hide hi
 clear hi
 have hb := byte_lt c
 by_cases hl : alnum c = true
 ·have H2 := hide hl
  go_enter Tryz.func171, Tryz.ntmps171
  go_wp2_with fail
  refine (letter_any c _).mono ?_
  rintro e w' ⟨rfl, rfl⟩
  go_wp2_with fail
  go_ret
  exact ⟨ret_bool (by simp [isPrint, H2.out]), rfl⟩
 ·have H2 := hide hl
  go_enter Tryz.func171, Tryz.ntmps171
  go_wp2_with fail
  refine (letter_any c _).mono ?_
  rintro e w' ⟨rfl, rfl⟩
  go_wp2_with fail
  refine (Tryz.strings_IndexByte _ _ _).mono ?_
  rintro e w' ⟨rfl, rfl⟩
  go_wp2_with fail
  go_ret
  refine ⟨ret_bool ?_, rfl⟩
  unfold isPrint printSet
  rw [← H.out]
  simp [H2.out]
set_option maxHeartbeats 400000 in
theorem IA5_any (c : UInt8) (w : World) :
  Calls Tryz.prog 172 #[.int .u8 (c.toNat : Int)] w fun e w' => e = .returned (.bool (isIA5 c)) ∧ w = w' := by
 unfold isIA5
 generalize (c.toNat : Int) = c
 go_enter Tryz.func172, Tryz.ntmps172
 go_wp2
 all_goals go_ret
 all_goals (refine ⟨ret_bool ?_, rfl⟩; rw [Bool.eq_iff_iff]; simp; omega)
end Go.Proofs.YtmgnihmjjijdoaaGreatDoor
namespace Go.Proofs.YtmgnihmjjijdoaaGreatDoor
open Go.RowKit
theorem info_u8 : (Tryz.prog.info? 5).map (fun i => (i.zero, i.size, i.bytes)) = some (some (.int .u8 0), 1, 1) := by kernel_rfl
set_option maxHeartbeats 400000 in
theorem all_any (p : UInt8 → Bool) (f : Nat) (hcf : ∀ (x : Value) (W : World), (callFunc f #[x]).run Tryz.prog W = .ok (.enter f #[x]) W)
  (hp : ∀ (c : UInt8) (W : World), Calls Tryz.prog f #[.int .u8 (c.toNat : Int)] W fun e w' => e = .returned (.bool (p c)) ∧ W = w')
  (s : ByteArray) (hs : s.size ≤ maxLen) (w : World) :
  Calls Tryz.prog 170 #[.string s, .func (.func f) #[] #[]] w fun e w' => e = .returned (.bool (s.data.toList.all p)) ∧ w = w' := by
 unfold maxLen at hs
 obtain ⟨r, hr⟩ : ∃ r, r = s.data.toList.all p := ⟨_, rfl⟩
 rw [← hr]
 have HR := hide hr
 have HP := hide hp
 clear hr hp
 go_enter Tryz.func170, Tryz.ntmps170
 go_wp2
 go_loop [5] (fun i => ∃ k : Nat, k ≤ s.size ∧ i = .int .i64 k ∧ Hid (r = (s.data.toList.drop k).all p)) (fun i => s.size - (intOf i).toNat)
 case atStart => exact ⟨0, Nat.zero_le _, rfl, HR⟩
 case round =>
  obtain ⟨k, hk, rfl, H⟩ := hrel
  by_cases hlt : k < s.size
  ·have H2 := hide (drop_string s k hlt)
   by_cases hc : p s[k] = true
   ·have H3 := hide hc
    clear hc
    go_wp2_with fail
    refine (HP.out _ _).mono ?_
    rintro e w' ⟨rfl, rfl⟩
    rw [H3.out]
    go_wp2_with fail
    go_round
    case rel => exact ⟨k + 1, by omega, by go_num, hide (by rw [H.out, H2.out]; simp [H3.out])⟩
    case measure => simp [intOf]; omega
   ·have H3 := hide (show p s[k] = false by simpa using hc)
    clear hc
    go_wp2_with fail
    refine (HP.out _ _).mono ?_
    rintro e w' ⟨rfl, rfl⟩
    rw [H3.out]
    go_wp2_with fail
    go_ret
    exact ⟨ret_bool (by rw [H.out, H2.out]; simp [H3.out]), rfl⟩
  ·have H2 := hide (drop_string_end s k (by omega))
   go_wp2_with fail
   go_ret
   exact ⟨ret_bool (by rw [H.out, H2.out]; rfl), rfl⟩
set_option maxHeartbeats 400000 in
theorem plain_any (c : UInt8) (w : World) :
  Calls Tryz.prog 61 #[.int .u8 (c.toNat : Int)] w fun e w' => e = .returned (.bool (isPlain c)) ∧ w = w' := by
 have hi := indexByte_ge0 plainSet c
 unfold plainSet at hi
 have H := hide hi
 clear hi
 have hb := byte_lt c
 by_cases hl : alnum c = true
 ·have H2 := hide hl
  go_enter Tryz.func61, Tryz.ntmps61
  go_wp2_with fail
  refine (letter_any c _).mono ?_
  rintro e w' ⟨rfl, rfl⟩
  go_wp2_with fail
  go_ret
  exact ⟨ret_bool (by simp [isPlain, H2.out]), rfl⟩
 ·have H2 := hide hl
  go_enter Tryz.func61, Tryz.ntmps61
  go_wp2_with fail
  refine (letter_any c _).mono ?_
  rintro e w' ⟨rfl, rfl⟩
  go_wp2_with fail
  refine (Tryz.strings_IndexByte _ _ _).mono ?_
  rintro e w' ⟨rfl, rfl⟩
  go_wp2_with fail
  go_ret
  refine ⟨ret_bool ?_, rfl⟩
  unfold isPlain plainSet
  rw [← H.out]
  simp [H2.out]
set_option maxHeartbeats 400000 in
theorem rplain_any (c : UInt8) (w : World) :
  Calls Tryz.prog 68 #[.int .u8 (c.toNat : Int)] w fun e w' => e = .returned (.bool (isPlain c)) ∧ w = w' := by
 have hb := byte_lt c
 by_cases hl : alnum c = true
 ·have H2 := hide hl
  go_enter Tryz.func68, Tryz.ntmps68
  go_wp2_with fail
  refine (Alnum_any c _).mono ?_
  rintro e w' ⟨rfl, rfl⟩
  go_wp2_with fail
  go_ret
  exact ⟨ret_bool (by simp [isPlain, H2.out]), rfl⟩
 ·have H2 := hide hl
  go_enter Tryz.func68, Tryz.ntmps68
  go_wp2_with fail
  refine (Alnum_any c _).mono ?_
  rintro e w' ⟨rfl, rfl⟩
  go_wp2_with fail
  refine (Among_any c _ (by decide) _).mono ?_
  rintro e w' ⟨rfl, rfl⟩
  go_wp2_with fail
  go_ret
  refine ⟨ret_bool ?_, rfl⟩
  unfold isPlain plainSet
  simp [H2.out]
def low (c : UInt8) : UInt8 := if 65 ≤ (c.toNat : Int) ∧ (c.toNat : Int) ≤ 90 then c + 32 else c
theorem low_toNat (c : UInt8) (h : 65 ≤ (c.toNat : Int) ∧ (c.toNat : Int) ≤ 90) : ((low c).toNat : Int) = (c.toNat : Int) + 32 := by
 unfold low
 rw [if_pos h, UInt8.toNat_add]
 have : (32 : UInt8).toNat = 32 := rfl
 omega
theorem low_same (c : UInt8) (h : ¬ (65 ≤ (c.toNat : Int) ∧ (c.toNat : Int) ≤ 90)) : low c = c := by
 unfold low
 rw [if_neg h]
def lowTo (l : List UInt8) (k : Nat) : List UInt8 := (l.take k).map low ++ l.drop k
theorem lowTo_len (l : List UInt8) (k : Nat) : (lowTo l k).length = l.length := by simp [lowTo]; omega
theorem lowTo_at (l : List UInt8) (k : Nat) (h : k < l.length) : (lowTo l k)[k]'(by rw [lowTo_len]; exact h) = l[k] := by
 unfold lowTo
 rw [List.getElem_append_right (by simp; omega)]
 simp [Nat.min_eq_left (Nat.le_of_lt h)]
theorem lowTo_set (l : List UInt8) (k : Nat) (h : k < l.length) : (lowTo l k).set k (low l[k]) = lowTo l (k + 1) := by
 unfold lowTo
 rw [List.set_append_right _ _ (by simp; omega)]
 simp only [List.length_map, List.length_take, Nat.min_eq_left (Nat.le_of_lt h), Nat.sub_self]
 rw [List.drop_eq_getElem_cons h, List.set_cons_zero, List.take_succ_eq_append_getElem h, List.map_append, List.append_assoc]
 rfl
theorem lowTo_skip (l : List UInt8) (k : Nat) (h : k < l.length) (hl : low l[k] = l[k]) : lowTo l k = lowTo l (k + 1) := by
 rw [← lowTo_set l k h, hl, ← lowTo_at l k h, List.set_getElem_self]
set_option maxHeartbeats 1000000 in
theorem Lower_any (s : ByteArray) (hs : s.size ≤ 1000000) (w : World) :
  Calls Tryz.prog 91 #[.string s] w fun e w' => e = .returned (.string ⟨(s.data.toList.map low).toArray⟩) ∧ Below w.heap.size w w' := by
 have hsz := size_string s
 generalize hl : s.data.toList = l at hsz
 have HL := hide hl
 have hsl : l.length ≤ 1000000 := by omega
 have hm : l.length ≤ maxLen := by unfold maxLen; omega
 clear hsz hl
 go_enter Tryz.func91, Tryz.ntmps91
 go_wp2_with (with_reducible refine wpList_str_bts _ rfl (.tmp 5) 9 28 5 rfl Tryz.underlying9 Tryz.underlying28 Tryz.underlying5 s rfl l HL.out hm ?_; intro g c w1 hg1 hg2 hb1 hby hc1 hc2)
 go_loopw [9] (fun i wr => ∃ k : Nat, k ≤ l.length ∧ i = .int .i64 k ∧ BytesAt wr 5 g (lowTo l k) ∧ Below w.heap.size w wr) (fun i _ => l.length - (intOf i).toNat)
 case atStart => exact ⟨0, Nat.zero_le _, rfl, by simpa [lowTo] using hby, hb1⟩
 case round =>
  obtain ⟨k, hk, rfl, hby, hb⟩ := hrel
  by_cases hlt : k < l.length
  ·have hlt' : k < (lowTo l k).length := by rw [lowTo_len]; exact hlt
   have hcell := hby.cell hlt'
   rw [lowTo_at l k hlt] at hcell
   have hfree := hby.free hlt'
   have hbb := byte_lt l[k]
   obtain ⟨b, hbk⟩ : ∃ b, b = l[k] := ⟨_, rfl⟩
   rw [← hbk] at hcell hbb
   have HB := hide hbk
   clear hbk
   by_cases hup : 65 ≤ (b.toNat : Int) ∧ (b.toNat : Int) ≤ 90
   ·have hlow := low_toNat b hup
    have hset := hby.set_ hlt' (low b)
    rw [hlow] at hset
    have HSET := hide (show BytesAt _ _ g (lowTo l (k + 1)) by rw [HB.out, lowTo_set l k hlt, ← HB.out] at hset; exact hset)
    have HBB := hide (Below.setCell hb (p := ⟨g, k, none⟩) hg1 (.int .u8 ((b.toNat : Int) + 32)))
    have HX := hide hlow
    obtain ⟨hu1, hu2⟩ := hup
    clear hset hlow
    go_wp2
    go_roundw
    case rel => exact ⟨k + 1, by omega, by go_num, HSET.out, HBB.out⟩
    case measure => simp [intOf]; omega
   ·have HS2 := hide (lowTo_skip l k hlt (by rw [← HB.out]; exact low_same b hup))
    have hb2 : (b.toNat : Int) < 65 ∨ 90 < (b.toNat : Int) := by omega
    clear hup
    rcases hb2 with hb2 | hb2
    all_goals
     go_wp2
     go_roundw
     case rel => exact ⟨k + 1, by omega, by go_num, HS2.out ▸ hby, hb⟩
     case measure => simp [intOf]; omega
  ·have hkl : k = l.length := by omega
   subst hkl
   have hfin := hby.sl (c := c) (by rw [lowTo_len]; omega) hc2
   rw [lowTo_len] at hfin
   have hconv := run_bts_str (P := Tryz.prog) wr 28 9 5 Tryz.underlying28 Tryz.underlying5 Tryz.underlying9 _ _ _ hfin
   clear hfin
   go_wp2
   go_ret
   refine ⟨ret_str (by simp [lowTo]), hb⟩
end Go.Proofs.YtmgnihmjjijdoaaGreatDoor
namespace Go.Proofs.YtmgnihmjjijdoaaGreatDoor
open Go.RowKit
def foldG : List UInt8 → Bool → List UInt8 → List UInt8
 | out, _, [] => out
 | out, gap, c :: r => if c = 32 then foldG out (!out.isEmpty) r else foldG (out ++ ((if gap then [32] else []) ++ [low c])) false r
theorem byte_eq32 (c : UInt8) : ((c.toNat : Int) == 32) = (c == 32) := byte_beq c 32
set_option maxHeartbeats 2000000 in
theorem Fold_any (s : ByteArray) (hs : s.size ≤ 1000000) (w : World) :
  Calls Tryz.prog 228 #[.string s] w fun e w' => e = .returned (.string ⟨(foldG [] false s.data.toList).toArray⟩) ∧ Below w.heap.size w w' := by
 have hsz := size_string s
 generalize hl : s.data.toList = l at hsz
 have HL := hide hl
 have hsl : l.length ≤ 1000000 := by omega
 have hm : l.length ≤ maxLen := by unfold maxLen; omega
 clear hsz hl
 obtain ⟨r, hr⟩ : ∃ r, r = foldG [] false l := ⟨_, rfl⟩
 rw [← hr]
 have HR := hide hr
 clear hr
 go_enter Tryz.func228, Tryz.ntmps228
 go_wp2_with (with_reducible refine wpList_str_bts _ rfl (.tmp 7) 9 28 5 rfl Tryz.underlying9 Tryz.underlying28 Tryz.underlying5 s rfl l HL.out hm ?_; intro g c w1 hg1 hg2 hb1 hby hc1 hc2)
 go_loopw [3, 4, 10] (fun v gp i wr => ∃ (k : Nat) (out : List UInt8) (gap : Bool), k ≤ l.length ∧ out.length ≤ 2 * k ∧ i = .int .i64 k ∧ gp = .bool gap ∧ Own RByte 1 5 wr (g + 1) No v out ∧ Below (g + 1) w1 wr ∧ Hid (r = foldG out gap (l.drop k))) (fun _ _ i _ => l.length - (intOf i).toNat)
 case atStart => exact ⟨0, [], false, Nat.zero_le _, by simp, rfl, rfl, Own.nil _ _ _ _ _ _, Below.refl _ _, HR⟩
 case round =>
  obtain ⟨k, out, gap, hk, hol, rfl, rfl, hown, hb, H⟩ := hrel
  have hgs : g + 1 ≤ wr.heap.size := by have := hb.size; omega
  by_cases hlt : k < l.length
  ·have hcell := (hby.keep (hb.block g (by omega))).cell hlt
   have hbb := byte_lt l[k]
   have hdr := List.drop_eq_getElem_cons hlt
   obtain ⟨b, hbk⟩ : ∃ b, b = l[k] := ⟨_, rfl⟩
   rw [← hbk] at hcell hbb hdr
   have HD := hide hdr
   clear hbk hdr
   obtain ⟨A, cp, hv⟩ := (hown.sl RByte.ok).shape
   subst hv
   by_cases h32 : b = 32
   ·have H32 := hide h32
    have ht : ((b.toNat : Int) == 32) = true := by rw [byte_eq32]; simp [h32]
    clear h32
    go_wp2
    go_roundw
    case rel =>
     refine ⟨k + 1, out, !out.isEmpty, by omega, by omega, by go_num, ?_, hown, hb, hide (by rw [H.out, HD.out, foldG, if_pos H32.out])⟩
     cases out <;> simp
    case measure => simp [intOf]; omega
   ·have H32 := hide h32
    have ht : ((b.toNat : Int) == 32) = false := by rw [byte_eq32]; simp [h32]
    clear h32
    by_cases hup : 65 ≤ (b.toNat : Int) ∧ (b.toNat : Int) ≤ 90
    ·have HLOW := hide (low_toNat b hup)
     obtain ⟨hu1, hu2⟩ := hup
     cases gap
     ·go_wp2_with (first
       | (at_builtin; refine wpList_app RByte.ok _ rfl (.tmp 31) (.tmp 33) 28 rfl (g + 1) 5 (.int .u8 0) 1 Tryz.underlying28 info_u8 rfl (by decide) No _ out rfl (hown.alloc RByte.ok (no_lt _) _) ⟨_, 0, none⟩ 1 1 [low b] rfl rfl (news_bytes _ _ _ _ [low b] (by simp [HLOW.out])) (no_lt _) (by simp; omega) (by simp [maxLen]; omega) (by simp; omega) ?_; intro v2 w2 hown2 hg2 hb2 hat2; have hsz2 := hb2.size; simp at hsz2))
      go_roundw
      case rel => exact ⟨k + 1, out ++ [low b], false, by omega, by simp; omega, by go_num, rfl, hown2, (hb.alloc (by omega) _).trans hb2, hide (by rw [H.out, HD.out, foldG, if_neg H32.out]; rfl)⟩
      case measure => simp [intOf]; omega
     ·go_wp2_with (first
       | (at_builtin; refine wpList_app RByte.ok _ rfl (.tmp 20) (.tmp 21) 28 rfl (g + 1) 5 (.int .u8 0) 1 Tryz.underlying28 info_u8 rfl (by decide) No _ out rfl (hown.alloc RByte.ok (no_lt _) _) ⟨_, 0, none⟩ 1 1 [32] rfl rfl (news_bytes _ _ _ _ [32] rfl) (no_lt _) (by simp; omega) (by simp [maxLen]; omega) (by simp; omega) ?_; intro v2 w2 hown2 hg2 hb2 hat2; have hsz2 := hb2.size; simp at hsz2)
       | (at_builtin; refine wpList_app RByte.ok _ rfl (.tmp 31) (.tmp 33) 28 rfl (g + 1) 5 (.int .u8 0) 1 Tryz.underlying28 info_u8 rfl (by decide) No v2 (out ++ [32]) rfl (hown2.alloc RByte.ok (no_lt _) _) ⟨_, 0, none⟩ 1 1 [low b] rfl rfl (news_bytes _ _ _ _ [low b] (by simp [HLOW.out])) (no_lt _) (by simp; omega) (by simp [maxLen]; omega) (by simp; omega) ?_; intro v3 w3 hown3 hg3 hb3 hat3; have hsz3 := hb3.size; simp at hsz3))
      go_roundw
      case rel => exact ⟨k + 1, out ++ [32] ++ [low b], false, by omega, by simp; omega, by go_num, rfl, hown3, (((hb.alloc (by omega) _).trans hb2).alloc (by omega) _).trans hb3, hide (by rw [H.out, HD.out, foldG, if_neg H32.out, List.append_assoc]; rfl)⟩
      case measure => simp [intOf]; omega
    ·have HLOW := hide (low_same b hup)
     have hb2 : (b.toNat : Int) < 65 ∨ 90 < (b.toNat : Int) := by omega
     clear hup
     rcases hb2 with hu2 | hu2
     all_goals
      cases gap
      ·go_wp2_with (first
        | (at_builtin; refine wpList_app RByte.ok _ rfl (.tmp 31) (.tmp 33) 28 rfl (g + 1) 5 (.int .u8 0) 1 Tryz.underlying28 info_u8 rfl (by decide) No _ out rfl (hown.alloc RByte.ok (no_lt _) _) ⟨_, 0, none⟩ 1 1 [low b] rfl rfl (news_bytes _ _ _ _ [low b] (by simp [HLOW.out])) (no_lt _) (by simp; omega) (by simp [maxLen]; omega) (by simp; omega) ?_; intro v2 w2 hown2 hg2 hb2 hat2; have hsz2 := hb2.size; simp at hsz2))
       go_roundw
       case rel => exact ⟨k + 1, out ++ [low b], false, by omega, by simp; omega, by go_num, rfl, hown2, (hb.alloc (by omega) _).trans hb2, hide (by rw [H.out, HD.out, foldG, if_neg H32.out]; rfl)⟩
       case measure => simp [intOf]; omega
      ·go_wp2_with (first
        | (at_builtin; refine wpList_app RByte.ok _ rfl (.tmp 20) (.tmp 21) 28 rfl (g + 1) 5 (.int .u8 0) 1 Tryz.underlying28 info_u8 rfl (by decide) No _ out rfl (hown.alloc RByte.ok (no_lt _) _) ⟨_, 0, none⟩ 1 1 [32] rfl rfl (news_bytes _ _ _ _ [32] rfl) (no_lt _) (by simp; omega) (by simp [maxLen]; omega) (by simp; omega) ?_; intro v2 w2 hown2 hg2 hb2 hat2; have hsz2 := hb2.size; simp at hsz2)
        | (at_builtin; refine wpList_app RByte.ok _ rfl (.tmp 31) (.tmp 33) 28 rfl (g + 1) 5 (.int .u8 0) 1 Tryz.underlying28 info_u8 rfl (by decide) No v2 (out ++ [32]) rfl (hown2.alloc RByte.ok (no_lt _) _) ⟨_, 0, none⟩ 1 1 [low b] rfl rfl (news_bytes _ _ _ _ [low b] (by simp [HLOW.out])) (no_lt _) (by simp; omega) (by simp [maxLen]; omega) (by simp; omega) ?_; intro v3 w3 hown3 hg3 hb3 hat3; have hsz3 := hb3.size; simp at hsz3))
       go_roundw
       case rel => exact ⟨k + 1, out ++ [32] ++ [low b], false, by omega, by simp; omega, by go_num, rfl, hown3, (((hb.alloc (by omega) _).trans hb2).alloc (by omega) _).trans hb3, hide (by rw [H.out, HD.out, foldG, if_neg H32.out, List.append_assoc]; rfl)⟩
       case measure => simp [intOf]; omega
  ·have hkl : k = l.length := by omega
   have HE := hide (show l.drop k = [] by rw [hkl]; simp)
   clear hkl
   have hconv := run_bts_str (P := Tryz.prog) wr 28 9 5 Tryz.underlying28 Tryz.underlying5 Tryz.underlying9 _ _ _ (hown.sl RByte.ok)
   obtain ⟨A, cp, hv⟩ := (hown.sl RByte.ok).shape
   subst hv
   go_wp2
   go_ret
   exact ⟨ret_str (by rw [H.out, HE.out]; rfl), hb1.trans (hb.mono (by omega))⟩
end Go.Proofs.YtmgnihmjjijdoaaGreatDoor
namespace Go.Proofs.YtmgnihmjjijdoaaGreatDoor
open Go.RowKit
def rfoldG : List UInt8 → List UInt8 → List UInt8
 | out, [] => if out.getLast? = some 32 then out.dropLast else out
 | out, c :: r => if c ≠ 32 ∨ (out ≠ [] ∧ out.getLast? ≠ some 32) then rfoldG (out ++ [c]) r else rfoldG out r
theorem list_snoc {α : Type} (l : List α) : l = [] ∨ ∃ o x, l = o ++ [x] := by
 rcases List.eq_nil_or_concat l with h | ⟨o, x, h⟩
 ·exact .inl h
 ·exact .inr ⟨o, x, by simpa using h⟩
set_option maxHeartbeats 2000000 in
theorem rFold_any (s : ByteArray) (hs : s.size ≤ 1000000) (w : World) :
  Calls Tryz.prog 218 #[.string s] w fun e w' => e = .returned (.string ⟨(rfoldG [] (s.data.toList.map low)).toArray⟩) ∧ Below w.heap.size w w' := by
 have hsz := size_string s
 obtain ⟨l, hl⟩ : ∃ l, l = s.data.toList.map low := ⟨_, rfl⟩
 have hsl : l.length ≤ 1000000 := by rw [hl, List.length_map]; omega
 rw [← hl]
 have HL := hide hl.symm
 clear hsz hl
 obtain ⟨r, hr⟩ : ∃ r, r = rfoldG [] l := ⟨_, rfl⟩
 rw [← hr]
 have HR := hide hr
 clear hr
 go_enter Tryz.func218, Tryz.ntmps218
 go_wp2_with fail
 refine (Lower_any s hs _).mono ?_
 rintro e w1 ⟨rfl, hb1⟩
 rw [HL.out]
 obtain ⟨t, ht⟩ : ∃ t : ByteArray, t = ⟨l.toArray⟩ := ⟨_, rfl⟩
 rw [← ht]
 have htl : t.data.toList = l := by rw [ht]
 have hts : t.size = l.length := by rw [← size_string, htl]
 have HT := hide htl
 have hts' : t.size ≤ 1000000 := by omega
 clear hts ht htl
 obtain ⟨base, hbase⟩ : ∃ base, base = w1.heap.size := ⟨_, rfl⟩
 have HBASE := hide hbase
 clear hbase
 go_wp2_with fail
 go_loopw [3, 4] (fun v i wr => ∃ (k : Nat) (out : List UInt8), k ≤ t.size ∧ out.length ≤ k ∧ i = .int .i64 k ∧ Own RByte 1 5 wr base No v out ∧ Below base w1 wr ∧ Hid (r = rfoldG out (t.data.toList.drop k))) (fun _ i _ => t.size - (intOf i).toNat)
 case atStart => exact ⟨0, [], Nat.zero_le _, by simp, rfl, Own.nil _ _ _ _ _ _, Below.refl _ _, by rw [HT.out]; exact HR⟩
 case round =>
  obtain ⟨k, out, hk, hol, rfl, hown, hb, H⟩ := hrel
  have hgs : base ≤ wr.heap.size := by have := hb.size; have := HBASE.out; omega
  by_cases hlt : k < t.size
  ·have HD := hide (drop_string t k hlt)
   have hbb := byte_lt t[k]
   by_cases h32 : t[k] = 32
   ·have ht : ((t[k].toNat : Int) == 32) = true := by rw [byte_eq32]; simp [h32]
    have htn : ((t[k].toNat : Int) != 32) = false := by rw [bne, ht]; rfl
    have H32 := hide h32
    have hval : (t[k].toNat : Int) = 32 := by rw [h32]; rfl
    have HVAL := hide hval
    clear h32 hval
    rcases list_snoc out with rfl | ⟨o, x, rfl⟩
    ·obtain ⟨A, cp, hv⟩ := (hown.sl RByte.ok).shape
     subst hv
     go_wp2_with fail
     go_roundw
     case rel => exact ⟨k + 1, [], by omega, by simp, by go_num, hown, hb, hide (by rw [H.out, HD.out, rfoldG, if_neg (by simp [H32.out])])⟩
     case measure => simp [intOf]; omega
    ·obtain ⟨g', cap, rfl, hcap, hcm, hcell⟩ := hown.last
     have hxx := byte_lt x
     simp only [List.length_append, List.length_cons, List.length_nil] at hol
     unfold maxLen at hcm
     by_cases hx : x = 32
     ·have hx1 : ((x.toNat : Int) != 32) = false := by rw [bne, byte_eq32]; simp [hx]
      have HX := hide hx
      clear hx
      go_wp2_with fail
      go_roundw
      case rel => exact ⟨k + 1, o ++ [x], by omega, by simp; omega, by go_num, hown, hb, hide (by rw [H.out, HD.out, rfoldG, if_neg (by simp [H32.out, HX.out])])⟩
      case measure => simp [intOf]; omega
     ·have hx1 : ((x.toNat : Int) != 32) = true := by rw [bne, byte_eq32]; simp [hx]
      have HX := hide hx
      clear hx
      go_wp2_with (first
       | (at_builtin; refine wpList_app RByte.ok _ rfl (.tmp 31) (.tmp 35) 28 rfl base 5 (.int .u8 0) 1 Tryz.underlying28 info_u8 rfl (by decide) No _ (o ++ [x]) rfl (hown.alloc RByte.ok (no_lt _) _) ⟨_, 0, none⟩ 1 1 [t[k]] rfl rfl (news_bytes _ _ _ _ [t[k]] rfl) (no_lt _) (by simp; omega) (by simp [maxLen]; omega) (by simp; omega) ?_; intro v2 w2 hown2 hg2 hb2 hat2; have hsz2 := hb2.size; simp at hsz2))
      go_roundw
      case rel => exact ⟨k + 1, o ++ [x] ++ [t[k]], by omega, by simp; omega, by go_num, hown2, (hb.alloc (by omega) _).trans hb2, hide (by rw [H.out, HD.out, rfoldG, if_pos (by simp [HX.out])])⟩
      case measure => simp [intOf]; omega
   ·have ht : ((t[k].toNat : Int) == 32) = false := by rw [byte_eq32]; simp [h32]
    have htn : ((t[k].toNat : Int) != 32) = true := by rw [bne, ht]; rfl
    have H32 := hide h32
    clear h32
    go_wp2_with (first
     | (at_builtin; refine wpList_app RByte.ok _ rfl (.tmp 31) (.tmp 35) 28 rfl base 5 (.int .u8 0) 1 Tryz.underlying28 info_u8 rfl (by decide) No _ out rfl (hown.alloc RByte.ok (no_lt _) _) ⟨_, 0, none⟩ 1 1 [t[k]] rfl rfl (news_bytes _ _ _ _ [t[k]] rfl) (no_lt _) (by simp; omega) (by simp [maxLen]; omega) (by simp; omega) ?_; intro v2 w2 hown2 hg2 hb2 hat2; have hsz2 := hb2.size; simp at hsz2))
    go_roundw
    case rel => exact ⟨k + 1, out ++ [t[k]], by omega, by simp; omega, by go_num, hown2, (hb.alloc (by omega) _).trans hb2, hide (by rw [H.out, HD.out, rfoldG, if_pos (by simp [H32.out])])⟩
    case measure => simp [intOf]; omega
  ·have HE := hide (drop_string_end t k (by omega))
   have hbw : Below w.heap.size w wr := hb1.trans (hb.mono (by rw [HBASE.out]; exact hb1.size))
   rcases list_snoc out with rfl | ⟨o, x, rfl⟩
   ·have hconv := run_bts_str (P := Tryz.prog) wr 28 9 5 Tryz.underlying28 Tryz.underlying5 Tryz.underlying9 _ _ _ (hown.sl RByte.ok)
    obtain ⟨A, cp, hv⟩ := (hown.sl RByte.ok).shape
    subst hv
    simp only [List.length_nil] at hconv
    go_wp2_with fail
    go_ret
    exact ⟨ret_str (by rw [H.out, HE.out]; rfl), hbw⟩
   ·have hsl2 := hown.sl RByte.ok
    have hconv := run_bts_str (P := Tryz.prog) wr 28 9 5 Tryz.underlying28 Tryz.underlying5 Tryz.underlying9 _ _ _ hsl2
    obtain ⟨g', cap, rfl, hcap, hcm, hcell⟩ := hown.last
    have hconv2 := run_bts_str (P := Tryz.prog) wr 28 9 5 Tryz.underlying28 Tryz.underlying5 Tryz.underlying9 _ _ _ hsl2.take_
    clear hsl2
    have hxx := byte_lt x
    simp only [List.length_append, List.length_cons, List.length_nil] at hol
    unfold maxLen at hcm
    by_cases hx : x = 32
    ·have hx1 : ((x.toNat : Int) == 32) = true := by rw [byte_eq32]; simp [hx]
     have HX := hide hx
     clear hx
     go_wp2_with fail
     go_ret
     exact ⟨ret_str (by rw [H.out, HE.out, HX.out]; simp [rfoldG]), hbw⟩
    ·have hx1 : ((x.toNat : Int) == 32) = false := by rw [byte_eq32]; simp [hx]
     have HX := hide hx
     clear hx
     go_wp2_with fail
     go_ret
     exact ⟨ret_str (by rw [H.out, HE.out]; simp [rfoldG, HX.out]), hbw⟩
set_option maxHeartbeats 400000 in
theorem Match_any (a b : ByteArray) (ha : a.size ≤ 1000000) (hb : b.size ≤ 1000000) (w : World) :
  Calls Tryz.prog 220 #[.string a, .string b] w fun e w' => e = .returned (.bool (foldG [] false a.data.toList == foldG [] false b.data.toList)) ∧ Below w.heap.size w w' := by
 go_enter Tryz.func220, Tryz.ntmps220
 go_wp2_with fail
 refine (Fold_any a ha _).mono ?_
 rintro e w1 ⟨rfl, hb1⟩
 go_wp2_with fail
 refine (Fold_any b hb _).mono ?_
 rintro e w2 ⟨rfl, hb2⟩
 go_wp2_with fail
 go_ret
 exact ⟨ret_bool (by simp), hb1.trans (hb2.mono hb1.size)⟩
set_option maxHeartbeats 400000 in
theorem rMatch_any (a b : ByteArray) (ha : a.size ≤ 1000000) (hb : b.size ≤ 1000000) (w : World) :
  Calls Tryz.prog 201 #[.string a, .string b] w fun e w' => e = .returned (.bool (rfoldG [] (a.data.toList.map low) == rfoldG [] (b.data.toList.map low))) ∧ Below w.heap.size w w' := by
 go_enter Tryz.func201, Tryz.ntmps201
 go_wp2_with fail
 refine (rFold_any a ha _).mono ?_
 rintro e w1 ⟨rfl, hb1⟩
 go_wp2_with fail
 refine (rFold_any b hb _).mono ?_
 rintro e w2 ⟨rfl, hb2⟩
 go_wp2_with fail
 go_ret
 exact ⟨ret_bool (by simp), hb1.trans (hb2.mono hb1.size)⟩
end Go.Proofs.YtmgnihmjjijdoaaGreatDoor
namespace Go.Proofs.YtmgnihmjjijdoaaGreatDoor
open Go.RowKit
def digs : List UInt8 := [48, 49, 50, 51, 52, 53, 54, 55, 56, 57, 97, 98, 99, 100, 101, 102]
def hexd (n : Nat) : UInt8 := digs.getD n 0
def escB (c : UInt8) : List UInt8 := if isPlain c then [c] else [92, hexd (c.toNat / 16), hexd (c.toNat % 16)]
theorem hexd_at (n : Nat) (h : n < 16) : ((⟨#[48, 49, 50, 51, 52, 53, 54, 55, 56, 57, 97, 98, 99, 100, 101, 102]⟩ : ByteArray)[n]'h) = hexd n := by
 have : ∀ n : Fin 16, ((⟨#[48, 49, 50, 51, 52, 53, 54, 55, 56, 57, 97, 98, 99, 100, 101, 102]⟩ : ByteArray)[n.1]'n.2) = hexd n.1 := by decide
 exact this ⟨n, h⟩
theorem nibbles (b : UInt8) : ∃ x y : Nat, (x : Int) < 16 ∧ (y : Int) < 16 ∧ (0 : Int) ≤ (x : Int) ∧ (0 : Int) ≤ (y : Int) ∧ (b.toNat : Int) / 16 = (x : Int) ∧ bits .and .u8 (b.toNat : Int) 15 = (y : Int) ∧
  (∀ h : x < 16, ((⟨#[48, 49, 50, 51, 52, 53, 54, 55, 56, 57, 97, 98, 99, 100, 101, 102]⟩ : ByteArray)[x]'h) = hexd x) ∧ (∀ h : y < 16, ((⟨#[48, 49, 50, 51, 52, 53, 54, 55, 56, 57, 97, 98, 99, 100, 101, 102]⟩ : ByteArray)[y]'h) = hexd y) ∧
  Hid (b.toNat / 16 = x ∧ b.toNat % 16 = y) := by
 have hb := b.toNat_lt
 refine ⟨b.toNat / 16, b.toNat % 16, by omega, by omega, by omega, by omega, by omega, ?_, hexd_at _, hexd_at _, ⟨rfl, rfl⟩⟩
 have h := u8_and15 (x := (b.toNat : Int)) (by omega) (by omega)
 exact h.trans (by omega)
set_option maxHeartbeats 2000000 in
theorem Escape_any (s : ByteArray) (hs : s.size ≤ 1000000) (w : World) :
  Calls Tryz.prog 29 #[.string s] w fun e w' => e = .returned (.string ⟨(s.data.toList.flatMap escB).toArray⟩) ∧ Below w.heap.size w w' := by
 have hsz := size_string s
 generalize hl : s.data.toList = l at hsz
 have HL := hide hl
 have hsl : l.length ≤ 1000000 := by omega
 have hm : l.length ≤ maxLen := by unfold maxLen; omega
 clear hsz hl
 obtain ⟨r, hr⟩ : ∃ r, r = l.flatMap escB := ⟨_, rfl⟩
 rw [← hr]
 have HR := hide hr
 clear hr
 go_enter Tryz.func29, Tryz.ntmps29
 go_wp2_with (with_reducible refine wpList_str_bts _ rfl (.tmp 6) 9 28 5 rfl Tryz.underlying9 Tryz.underlying28 Tryz.underlying5 s rfl l HL.out hm ?_; intro g c w1 hg1 hg2 hb1 hby hc1 hc2)
 obtain ⟨base, hgb, hbase⟩ : ∃ base, g < base ∧ base ≤ w1.heap.size := ⟨g + 1, by omega, by omega⟩
 go_loopw [3, 9] (fun v i wr => ∃ (k : Nat) (out : List UInt8), k ≤ l.length ∧ out.length ≤ 3 * k ∧ i = .int .i64 k ∧ Own RByte 1 5 wr base No v out ∧ Below base w1 wr ∧ Hid (r = out ++ (l.drop k).flatMap escB)) (fun _ i _ => l.length - (intOf i).toNat)
 case atStart => exact ⟨0, [], Nat.zero_le _, by simp, rfl, Own.nil _ _ _ _ _ _, Below.refl _ _, HR⟩
 case round =>
  obtain ⟨k, out, hk, hol, rfl, hown, hb, H⟩ := hrel
  have hgs : base ≤ wr.heap.size := by have := hb.size; omega
  by_cases hlt : k < l.length
  ·have hcell := (hby.keep (hb.block g (by omega))).cell hlt
   have hbb := byte_lt l[k]
   have hdr := List.drop_eq_getElem_cons hlt
   obtain ⟨b, hbk⟩ : ∃ b, b = l[k] := ⟨_, rfl⟩
   rw [← hbk] at hcell hbb hdr
   have HD := hide hdr
   clear hbk hdr
   obtain ⟨A, cp, hv⟩ := (hown.sl RByte.ok).shape
   subst hv
   go_wp2_with fail
   refine (plain_any b _).mono ?_
   rintro e w2 ⟨rfl, rfl⟩
   by_cases hp : isPlain b = true
   ·have HP := hide hp
    rw [hp]
    clear hp
    go_wp2_with (first
     | (at_builtin; refine wpList_app RByte.ok _ rfl (.tmp 15) (.tmp 17) 28 rfl base 5 (.int .u8 0) 1 Tryz.underlying28 info_u8 rfl (by decide) No _ out rfl (hown.alloc RByte.ok (no_lt _) _) ⟨_, 0, none⟩ [b].length [b].length [b] rfl rfl (news_bytes _ _ _ _ [b] rfl) (no_lt _) (by simp; omega) (by simp [maxLen]; omega) (by simp; omega) ?_; intro v2 w2 hown2 hg2 hb2 hat2; have hsz2 := hb2.size; simp at hsz2))
    go_roundw
    case rel => exact ⟨k + 1, out ++ [b], by omega, by simp; omega, by go_num, hown2, (hb.alloc (by omega) _).trans hb2, hide (by rw [H.out, HD.out, List.flatMap_cons, escB, if_pos HP.out, List.append_assoc])⟩
    case measure => simp [intOf]; omega
   ·have hp' : isPlain b = false := by simpa using hp
    have HP := hide hp'
    rw [hp']
    clear hp hp'
    go_wp2_with fail
    obtain ⟨x, y, hx16, hy16, hx0, hy0, hq, hr, hex, hey, hxy⟩ := nibbles b
    have HE := hide (show r = (out ++ [92, hexd x, hexd y]) ++ (l.drop (k + 1)).flatMap escB by rw [H.out, HD.out, List.flatMap_cons, escB, HP.out, hxy.out.1, hxy.out.2, List.append_assoc]; rfl)
    clear hxy
    go_region_held3 (fun _ => True) (exact trivial) ((refine step_app RByte.ok _ ?_ (.tmp 19) (.tmp 26) 28 ?_ base 5 (.int .u8 0) 1 Tryz.underlying28 info_u8 rfl (by decide) No (.slice A out.length cp) out ?_ ?_ ⟨wr.heap.size, 0, none⟩ [92, hexd x, hexd y].length [92, hexd x, hexd y].length [92, hexd x, hexd y] ?_ rfl ?_ (no_lt _) ?_ ?_ ?_ ?_; rfl; rfl; rfl; exact ((hown.alloc RByte.ok (no_lt _) _).drew RByte.ok); rfl; refine news_bytes_drew _ _ _ _ [92, hexd x, hexd y] ?_; ((try simp) <;> simp [hex, hey]); (simp; omega); (simp [maxLen]; omega); (simp; omega); intro v2 w2 hown2 hg2 hb2 hat2; have hsz2 := hb2.size; simp at hsz2))
    all_goals
     go_wp2
     go_roundw
     case rel => exact ⟨k + 1, out ++ [92, hexd x, hexd y], by omega, by simp; omega, by go_num, hown2, ((hb.alloc (by omega) _).drew).trans hb2, HE⟩
     case measure => simp [intOf]; omega
  ·have hkl : k = l.length := by omega
   have HE := hide (show l.drop k = [] by rw [hkl]; simp)
   clear hkl
   have hconv := run_bts_str (P := Tryz.prog) wr 28 9 5 Tryz.underlying28 Tryz.underlying5 Tryz.underlying9 _ _ _ (hown.sl RByte.ok)
   obtain ⟨A, cp, hv⟩ := (hown.sl RByte.ok).shape
   subst hv
   go_wp2
   go_ret
   exact ⟨ret_str (by rw [H.out, HE.out]; simp), hb1.trans (hb.mono (by omega))⟩
end Go.Proofs.YtmgnihmjjijdoaaGreatDoor
namespace Go.Proofs.YtmgnihmjjijdoaaGreatDoor
open Go.RowKit
def hexB (c : UInt8) : List UInt8 := [hexd (c.toNat / 16), hexd (c.toNat % 16)]
theorem Own.made {α : Type} (R : Rep α) {size : Nat} {e : TypeId} {w : World} {base : Nat} {v : Value} (S : Nat → Prop) (h : w.ownsRow base e size v 0 []) (hS : ∀ g, v.ownBlock = some g → ¬ S g) : Own R size e w base S v ([] : List α) :=
 ⟨[], h, hS, fun i x h => by simp at h⟩
theorem info_u8' : ∃ i, Tryz.prog.info? 5 = some i ∧ i.zero = some (.int .u8 0) ∧ i.size = 1 ∧ i.bytes = 1 := info_parts info_u8
set_option maxHeartbeats 4000000 in
theorem Hex_any (s : ByteArray) (hs : s.size ≤ 1000000) (w : World) :
  Calls Tryz.prog 33 #[.string s] w fun e w' => e = .returned (.string ⟨(s.data.toList.flatMap hexB).toArray⟩) ∧ Below w.heap.size w w' := by
 obtain ⟨r, hr⟩ : ∃ r, r = s.data.toList.flatMap hexB := ⟨_, rfl⟩
 rw [← hr]
 have HR := hide hr
 clear hr
 obtain ⟨i0, hi0, hz0, hz1, hz2⟩ := info_u8'
 obtain ⟨base, hbase, HBASE⟩ : ∃ base, base ≤ w.heap.size ∧ Hid (base = w.heap.size) := ⟨_, Nat.le_refl _, rfl⟩
 go_enter Tryz.func33, Tryz.ntmps33
 go_wp2_with (at_make; refine wpList_make_own _ rfl (.const (.int .i64 0)) (.tmp 7) 28 rfl base 5 i0 (.int .u8 0) 1 Tryz.underlying28 hi0 hz0 hz1 .i64 .i64 _ (2 * s.size) rfl rfl (by omega) (by rw [hz2]; omega) (by unfold maxLen; omega) hbase ?_; intro w1 hown1 hg1)
 have hb1 : Below base w w1 := (Below.refl _ _).grown hg1 hbase (fun k h => by cases h)
 have hown := Own.made RByte No hown1 (fun _ _ h => h)
 clear hown1 hg1 hi0 hz0 hz1 hz2
 go_loopw [3, 4] (fun v i wr => ∃ (k : Nat) (out : List UInt8), k ≤ s.size ∧ out.length ≤ 2 * k ∧ i = .int .i64 k ∧ Own RByte 1 5 wr base No v out ∧ Below base w wr ∧ Hid (r = out ++ (s.data.toList.drop k).flatMap hexB)) (fun _ i _ => s.size - (intOf i).toNat)
 case atStart => exact ⟨0, [], Nat.zero_le _, by simp, rfl, hown, hb1, HR⟩
 case round =>
  clear hown hb1
  obtain ⟨k, out, hk, hol, rfl, hown, hb, H⟩ := hrel
  have hgs : base ≤ wr.heap.size := by have := hb.size; omega
  obtain ⟨A, cp, hv⟩ := (hown.sl RByte.ok).shape
  subst hv
  by_cases hlt : k < s.size
  ·have HD := hide (drop_string s k hlt)
   have hbb := byte_lt s[k]
   obtain ⟨b, hbk⟩ : ∃ b, s[k] = b := ⟨_, rfl⟩
   rw [hbk] at hbb
   have hk0 : (0 : Int) ≤ (k : Int) := by omega
   have hk1 : (k : Int) < (s.size : Int) := by omega
   obtain ⟨x, y, hx16, hy16, hx0, hy0, hq, _, hex, hey, hxy⟩ := nibbles b
   have hq2 : (b.toNat : Int) % 16 = (y : Int) := by have := hxy.out.2; omega
   have hq3 : (b.toNat : Int).tdiv 16 = (x : Int) := by rw [Int.tdiv_eq_ediv_of_nonneg (by omega)]; exact hq
   have hq4 : (b.toNat : Int).tmod 16 = (y : Int) := by rw [Int.tmod_eq_emod_of_nonneg (by omega)]; exact hq2
   have hwx : IntKind.u8.wrap (x : Int) = (x : Int) := by rw [IntKind.wrap_u8]; omega
   have hwy : IntKind.u8.wrap (y : Int) = (y : Int) := by rw [IntKind.wrap_u8]; omega
   have HE := hide (show r = (out ++ [hexd x, hexd y]) ++ (s.data.toList.drop (k + 1)).flatMap hexB by rw [H.out, HD.out, List.flatMap_cons, hexB, hbk, hxy.out.1, hxy.out.2, List.append_assoc])
   clear hxy H
   go_wp2_with fail
   go_region_held3 (fun _ => True) (exact trivial) ((refine step_app RByte.ok _ ?_ (.tmp 15) (.tmp 26) 28 ?_ base 5 (.int .u8 0) 1 Tryz.underlying28 info_u8 rfl (by decide) No (.slice A out.length cp) out ?_ ?_ ⟨wr.heap.size, 0, none⟩ [hexd x, hexd y].length [hexd x, hexd y].length [hexd x, hexd y] ?_ rfl ?_ (no_lt _) ?_ ?_ ?_ ?_; rfl; rfl; rfl; exact ((hown.alloc RByte.ok (no_lt _) _).drew RByte.ok); rfl; refine news_bytes_drew _ _ _ _ [hexd x, hexd y] ?_; simp; (simp; omega); (simp [maxLen]; omega); (simp; omega); intro v2 w2 hown2 hg2 hb2 hat2; have hsz2 := hb2.size; simp at hsz2))
   all_goals
    go_wp2
    go_roundw
    case rel => exact ⟨k + 1, out ++ [hexd x, hexd y], by omega, by simp; omega, by go_num, hown2, ((hb.alloc (by omega) _).drew).trans hb2, HE⟩
    case measure => simp [intOf]; omega
  ·have HE := hide (drop_string_end s k (by omega))
   have hconv := run_bts_str (P := Tryz.prog) wr 28 9 5 Tryz.underlying28 Tryz.underlying5 Tryz.underlying9 _ _ _ (hown.sl RByte.ok)
   go_wp2
   go_ret
   exact ⟨ret_str (by rw [H.out, HE.out]; simp), HBASE.out ▸ hb⟩
end Go.Proofs.YtmgnihmjjijdoaaGreatDoor
namespace Go.Proofs.YtmgnihmjjijdoaaGreatDoor
open Go.RowKit
def nibI (c : UInt8) : Int := if 48 ≤ (c.toNat : Int) ∧ (c.toNat : Int) ≤ 57 then c.toNat - 48 else if 97 ≤ (c.toNat : Int) ∧ (c.toNat : Int) ≤ 102 then c.toNat - 87 else -1
theorem nibI_bd (c : UInt8) : -1 ≤ nibI c ∧ nibI c ≤ 15 := by unfold nibI; split <;> (try split) <;> omega
set_option maxHeartbeats 400000 in
theorem nibble_any (c : UInt8) (w : World) :
  Calls Tryz.prog 78 #[.int .u8 (c.toNat : Int)] w fun e w' => e = .returned (.int .i64 (nibI c)) ∧ w = w' := by
 have hb := byte_lt c
 unfold nibI
 generalize (c.toNat : Int) = c at hb
 by_cases h1 : 48 ≤ c ∧ c ≤ 57
 ·rw [if_pos h1]
  obtain ⟨h2, h3⟩ := h1
  go_enter Tryz.func78, Tryz.ntmps78
  go_wp2
  go_ret
  exact ⟨rfl, rfl⟩
 ·rw [if_neg h1]
  by_cases h4 : 97 ≤ c ∧ c ≤ 102
  ·rw [if_pos h4]
   obtain ⟨h2, h3⟩ := h4
   clear h1
   go_enter Tryz.func78, Tryz.ntmps78
   go_wp2
   go_ret
   exact ⟨ret_int (by omega), rfl⟩
  ·rw [if_neg h4]
   have h5 : c < 48 ∨ (57 < c ∧ c < 97) ∨ 102 < c := by omega
   clear h1 h4
   rcases h5 with h5 | ⟨h5, h6⟩ | h5
   all_goals
    go_enter Tryz.func78, Tryz.ntmps78
    go_wp2
    go_ret
    exact ⟨rfl, rfl⟩
def unhexL : List UInt8 → Option (List UInt8)
 | [] => some []
 | [_] => none
 | a :: b :: r => if nibI a < 0 ∨ nibI b < 0 then none else (unhexL r).map fun l => UInt8.ofNat (16 * nibI a + nibI b).toNat :: l
def optR (o : Option (List UInt8)) : Value := .tuple #[.string ⟨(o.getD []).toArray⟩, .bool o.isSome]
theorem byte_of (n : Int) (h0 : 0 ≤ n) (h1 : n < 256) : ((UInt8.ofNat n.toNat).toNat : Int) = n := by
 rw [UInt8.toNat_ofNat']
 omega
theorem unhexL_odd : ∀ (n : Nat) (l : List UInt8), l.length ≤ n → l.length % 2 = 1 → unhexL l = none
  | 0, l, h, h1 => by omega
  | n + 1, [], h, h1 => by simp at h1
  | n + 1, [a], h, h1 => rfl
  | n + 1, a :: b :: r, h, h1 => by
    unfold unhexL
    split
    · rfl
    · rw [unhexL_odd n r (by simp at h; omega) (by simp at h1; omega)]; rfl
set_option maxHeartbeats 4000000 in
theorem Unhex_any (s : ByteArray) (hs : s.size ≤ 1000000) (w : World) :
  Calls Tryz.prog 42 #[.string s] w fun e w' => e = .returned (optR (unhexL s.data.toList)) ∧ Below w.heap.size w w' := by
 have hsz := size_string s
 by_cases hodd : s.size % 2 = 1
 ·have H := hide (unhexL_odd _ s.data.toList (Nat.le_refl _) (by rw [hsz]; exact hodd))
  have ht : ((s.size : Int) % 2 != 0) = true := by rw [bne_iff_ne]; omega
  clear hodd hsz
  rw [H.out]
  go_enter Tryz.func42, Tryz.ntmps42
  go_wp2
  go_ret2
  exact ⟨rfl, Below.refl _ _⟩
 ·have ht : ((s.size : Int) % 2 != 0) = false := by simp; omega
  have HODD := hide hodd
  clear hodd hsz
  obtain ⟨r, hr⟩ : ∃ r, r = unhexL s.data.toList := ⟨_, rfl⟩
  rw [← hr]
  have HR := hide hr
  clear hr
  obtain ⟨base, hbase, HBASE⟩ : ∃ base, base ≤ w.heap.size ∧ Hid (base = w.heap.size) := ⟨_, Nat.le_refl _, rfl⟩
  go_enter Tryz.func42, Tryz.ntmps42
  go_wp2
  clear ht
  go_loopw [4, 5] (fun v i wr => ∃ (k : Nat) (out : List UInt8), k ≤ s.size ∧ out.length ≤ k ∧ Hid (k % 2 = 0) ∧ i = .int .i64 k ∧ Own RByte 1 5 wr base No v out ∧ Below base w wr ∧ Hid (r = (unhexL (s.data.toList.drop k)).map (out ++ ·))) (fun _ i _ => s.size - (intOf i).toNat)
  case atStart => exact ⟨0, [], Nat.zero_le _, by simp, rfl, rfl, Own.nil _ _ _ _ _ _, Below.refl _ _, hide (by rw [HR.out]; simp)⟩
  case round =>
   obtain ⟨k, out, hk, hol, HEV, rfl, hown, hb, H⟩ := hrel
   have hgs : base ≤ wr.heap.size := by have := hb.size; omega
   obtain ⟨A, cp, hv⟩ := (hown.sl RByte.ok).shape
   subst hv
   by_cases hlt : k < s.size
   ·have hlt2 : k + 1 < s.size := by have h1 := HEV.out; have h2 := HODD.out; omega
    have HD := hide (drop_string s k hlt)
    have HD2 := hide (drop_string s (k + 1) hlt2)
    have hk0 : (0 : Int) ≤ (k : Int) := by omega
    have hk1 : (k : Int) < (s.size : Int) := by omega
    have hk2 : (0 : Int) ≤ (k : Int) + 1 := by omega
    have hk3 : (k : Int) + 1 < (s.size : Int) := by omega
    have hwk : IntKind.i64.wrap ((k : Int) + 1) = (k : Int) + 1 := IntWalk.i64_in _ (by omega)
    have htn : ((k : Int) + 1).toNat = k + 1 := by omega
    have hownD := fun n => hown.drewN RByte.ok n
    have hbD := fun n => below_drewN hb n
    obtain ⟨a, ha⟩ : ∃ a, s[k] = a := ⟨_, rfl⟩
    obtain ⟨b, hbv⟩ : ∃ b, s[k + 1] = b := ⟨_, rfl⟩
    have HD3 := hide (show s.data.toList.drop k = a :: b :: s.data.toList.drop (k + 2) by rw [HD.out, HD2.out, ha, hbv])
    clear HD HD2
    go_wp2_with fail
    go_quiet ((go_at_call 78; exact quiet_left (nibble_any _ _)))
    have hna := nibI_bd a
    have hnb := nibI_bd b
    obtain ⟨na, hna'⟩ : ∃ na, nibI a = na := ⟨_, rfl⟩
    obtain ⟨nb, hnb'⟩ : ∃ nb, nibI b = nb := ⟨_, rfl⟩
    rw [hna'] at hna ⊢
    rw [hnb'] at hnb ⊢
    have HN := hide (And.intro hna' hnb')
    clear hna' hnb' hwk htn ha hbv
    by_cases h1 : na < 0
    ·have HX := hide (show unhexL (a :: b :: s.data.toList.drop (k + 2)) = none by rw [unhexL, if_pos (.inl (by rw [HN.out.1]; exact h1))])
     go_wp2
     go_ret2
     exact ⟨by rw [H.out, HD3.out, HX.out]; rfl, HBASE.out ▸ hbD _⟩
    ·by_cases h2 : nb < 0
     ·have HX := hide (show unhexL (a :: b :: s.data.toList.drop (k + 2)) = none by rw [unhexL, if_pos (.inr (by rw [HN.out.2]; exact h2))])
      go_wp2
      go_ret2
      exact ⟨by rw [H.out, HD3.out, HX.out]; rfl, HBASE.out ▸ hbD _⟩
     ·have HX := hide (show unhexL (a :: b :: s.data.toList.drop (k + 2)) = (unhexL (s.data.toList.drop (k + 2))).map fun l => UInt8.ofNat (16 * na + nb).toNat :: l by
       rw [unhexL, if_neg (by rw [HN.out.1, HN.out.2]; omega), HN.out.1, HN.out.2])
      have HBY := hide (byte_of (16 * na + nb) (by omega) (by omega))
      go_wp2_with (first
       | (at_builtin; refine wpList_app RByte.ok _ rfl (.tmp 33) (.tmp 39) 28 rfl base 5 (.int .u8 0) 1 Tryz.underlying28 info_u8 rfl (by decide) No _ out rfl ((hownD _).alloc RByte.ok (no_lt _) _) ⟨_, 0, none⟩ [UInt8.ofNat (16 * na + nb).toNat].length [UInt8.ofNat (16 * na + nb).toNat].length [UInt8.ofNat (16 * na + nb).toNat] rfl rfl (news_bytes _ _ _ _ [UInt8.ofNat (16 * na + nb).toNat] (by simp only [List.map_cons, List.map_nil, HBY.out])) (no_lt _) (by simp; omega) (by simp [maxLen]; omega) (by simp; omega) ?_; intro v2 w2 hown2 hg2 hb2 hat2; have hsz2 := hb2.size; simp at hsz2))
      go_roundw
      case rel => exact ⟨k + 2, out ++ [UInt8.ofNat (16 * na + nb).toNat], by omega, by simp; omega, by have := HEV.out; unfold Hid; omega, by go_num, hown2, (below_alloc (hbD _) (by simp; omega) _).trans hb2, hide (by rw [H.out, HD3.out, HX.out, Option.map_map]; congr 1; funext z; simp)⟩
      case measure => simp [intOf]; omega
   ·have HE := hide (drop_string_end s k (by omega))
    have hconv := run_bts_str (P := Tryz.prog) wr 28 9 5 Tryz.underlying28 Tryz.underlying5 Tryz.underlying9 _ _ _ (hown.sl RByte.ok)
    go_wp2
    go_ret2
    exact ⟨by rw [H.out, HE.out]; simp [optR, unhexL], HBASE.out ▸ hb⟩
end Go.Proofs.YtmgnihmjjijdoaaGreatDoor
namespace Go.Proofs.YtmgnihmjjijdoaaGreatDoor
open Go.RowKit
set_option maxHeartbeats 2000000 in
theorem rEscape_any (s : ByteArray) (hs : s.size ≤ 1000000) (w : World) :
  Calls Tryz.prog 32 #[.string s] w fun e w' => e = .returned (.string ⟨(s.data.toList.flatMap escB).toArray⟩) ∧ Below w.heap.size w w' := by
 obtain ⟨r, hr⟩ : ∃ r, r = s.data.toList.flatMap escB := ⟨_, rfl⟩
 rw [← hr]
 have HR := hide hr
 clear hr
 obtain ⟨base, hbase, HBASE⟩ : ∃ base, base ≤ w.heap.size ∧ Hid (base = w.heap.size) := ⟨_, Nat.le_refl _, rfl⟩
 go_enter Tryz.func32, Tryz.ntmps32
 go_wp2_with fail
 go_loopw [3, 4] (fun v i wr => ∃ (k : Nat) (o : ByteArray), k ≤ s.size ∧ o.size ≤ 3 * k ∧ v = .string o ∧ i = .int .i64 k ∧ Below base w wr ∧ Hid (r = o.data.toList ++ (s.data.toList.drop k).flatMap escB)) (fun _ i _ => s.size - (intOf i).toNat)
 case atStart => exact ⟨0, _, Nat.zero_le _, by decide, rfl, rfl, Below.refl _ _, HR⟩
 case round =>
  obtain ⟨k, o, hk, hol, rfl, rfl, hb, H⟩ := hrel
  have hgs : base ≤ wr.heap.size := by have := hb.size; omega
  by_cases hlt : k < s.size
  ·have HD := hide (drop_string s k hlt)
   have HO := hide (ba_one s k hlt)
   have hes := ba_size_ex s k (k + 1) hlt
   have hes' : (s.extract k (k + 1)).size ≤ 1 := by omega
   clear hes
   have hsl := slice_str (P := Tryz.prog) 9 Tryz.underlying9 s k (k + 1) (k : Int) ((k : Int) + 1) rfl (by omega) (by omega) hlt
   obtain ⟨p, hp⟩ : ∃ p, isPlain s[k] = p := ⟨_, rfl⟩
   have HP := hide hp
   go_wp2_with fail
   refine (rplain_any _ _).mono ?_
   rintro e w2 ⟨rfl, rfl⟩
   rw [hp]
   clear hp
   cases p
   ·go_wp2_with fail
    refine (Hex_any _ (by omega) _).mono ?_
    rintro e w2 ⟨rfl, hb2⟩
    obtain ⟨h2, hh2⟩ : ∃ h2 : ByteArray, h2 = ⟨((s.extract k (k + 1)).data.toList.flatMap hexB).toArray⟩ := ⟨_, rfl⟩
    rw [← hh2]
    have hh2l : h2.data.toList = hexB s[k] := by rw [hh2, HO.out]; simp
    have hh2s : h2.size = 2 := by rw [← size_string, hh2l]; rfl
    have hh2s' : h2.size ≤ 2 := by omega
    have HH := hide hh2l
    have HS2 := hide hh2s
    clear hh2 hh2l hh2s
    go_wp2_with fail
    go_roundw
    case rel =>
     refine ⟨k + 1, _, by omega, ?_, rfl, by go_num, hb.trans (hb2.mono hgs), hide ?_⟩
     ·rw [ba_size, ba_size, HS2.out]
      have : (⟨#[92]⟩ : ByteArray).size = 1 := rfl
      omega
     ·rw [H.out, HD.out, List.flatMap_cons, escB, HP.out, ba_append, ba_append, HH.out, List.append_assoc]; rfl
    case measure => simp [intOf]; omega
   ·go_wp2_with fail
    go_roundw
    case rel => exact ⟨k + 1, o ++ s.extract k (k + 1), by omega, by rw [ba_size]; omega, rfl, by go_num, hb, hide (by rw [H.out, HD.out, List.flatMap_cons, escB, HP.out, ba_append, HO.out, List.append_assoc]; rfl)⟩
    case measure => simp [intOf]; omega
  ·have HE := hide (drop_string_end s k (by omega))
   go_wp2_with fail
   go_ret
   exact ⟨ret_ba (by rw [H.out, HE.out]; simp), HBASE.out ▸ hb⟩
def runescL : Nat → List UInt8 → Option (List UInt8)
  | 0, _ => none
  | _ + 1, [] => some []
  | n + 1, c :: r => if c ≠ 92 then (runescL n r).map (c :: ·) else
      if r.length < 2 then none else
      (unhexL (r.take 2)).bind fun x => (runescL n (r.drop 2)).map (x ++ ·)
def runescE : Option (List UInt8) → List UInt8 → Option (List UInt8)
 | none, _ => none
 | some o, l => if o.flatMap escB = l then some o else none
def runesc (l : List UInt8) : Option (List UInt8) := runescE (runescL (l.length + 1) l) l
theorem byte_eq92 (c : UInt8) : ((c.toNat : Int) == 92) = (c == 92) := byte_beq c 92
theorem unhexL_two (a b : UInt8) (x : List UInt8) (h : unhexL [a, b] = some x) : x.length = 1 := by
 unfold unhexL at h
 split at h
 ·cases h
 ·simp [unhexL] at h; subst h; rfl
theorem ret_opt {o : ByteArray} {r : Option (List UInt8)} (h : r = some o.data.toList) : Ending.returned (.tuple #[.string o, .bool true]) = Ending.returned (optR r) := by subst h; rfl
theorem ret_none {r : Option (List UInt8)} (h : r = none) : Ending.returned (.tuple #[.string ⟨#[]⟩, .bool false]) = Ending.returned (optR r) := by subst h; rfl
set_option maxHeartbeats 2000000 in
theorem rUnescape_any (s : ByteArray) (hs : s.size ≤ 1000000) (w : World) :
    Calls Tryz.prog 41 #[.string s] w fun e w' => e = .returned (optR (runesc s.data.toList)) ∧ Below w.heap.size w w' := by
  obtain ⟨r, hr⟩ : ∃ r, r = runescL (s.data.toList.length + 1) s.data.toList := ⟨_, rfl⟩
  obtain ⟨q, hq⟩ : ∃ q, q = runesc s.data.toList := ⟨_, rfl⟩
  rw [← hq]
  have HQ := hide (show q = runescE r s.data.toList by rw [hq, runesc, hr])
  rw [size_string] at hr
  have HR := hide hr
  clear hr hq
  obtain ⟨base, hbase, HBASE⟩ : ∃ base, base ≤ w.heap.size ∧ Hid (base = w.heap.size) := ⟨_, Nat.le_refl _, rfl⟩
  go_enter Tryz.func41, Tryz.ntmps41
  go_wp2_with fail
  go_loopw [4, 5] (fun v i wr => ∃ (k n : Nat) (o : ByteArray), k ≤ s.size ∧ s.size < k + n ∧ o.size ≤ k ∧ v = .string o ∧ i = .int .i64 k ∧ Below base w wr ∧ Hid (r = (runescL n (s.data.toList.drop k)).map (o.data.toList ++ ·))) (fun _ i _ => s.size - (intOf i).toNat)
  case atStart => exact ⟨0, s.size + 1, _, Nat.zero_le _, by omega, by decide, rfl, rfl, Below.refl _ _, hide (by rw [HR.out]; simp)⟩
  case round =>
    obtain ⟨k, n, o, hk, hn, hol, rfl, rfl, hb, H⟩ := hrel
    obtain ⟨n, rfl⟩ : ∃ m, n = m + 1 := ⟨n - 1, by omega⟩
    have hgs : base ≤ wr.heap.size := by have := hb.size; omega
    by_cases hlt : k < s.size
    · have HD := hide (drop_string s k hlt)
      by_cases h92 : s[k] = 92
      · have ht : ((s[k].toNat : Int) != 92) = false := by rw [bne, byte_eq92]; simp [h92]
        have HC := hide h92
        clear h92
        by_cases h3 : s.size < k + 3
        · have HX := hide (show runescL (n + 1) (s.data.toList.drop k) = none by
            rw [HD.out, runescL, if_neg (by simp [HC.out]), if_pos (by rw [List.length_drop, size_string]; omega)])
          go_wp2_with fail
          go_ret2
          exact ⟨ret_none (by rw [HQ.out, H.out, HX.out]; rfl), HBASE.out ▸ hb⟩
        · have HD1 := hide (drop_string s (k + 1) (by omega))
          have HD2 := hide (drop_string s (k + 2) (by omega))
          have HTK := hide (show (s.extract (k + 1) (k + 3)).data.toList = [s[k + 1]'(by omega), s[k + 2]'(by omega)] by
            rw [Lib.extract_data, HD1.out, HD2.out]; simp)
          have hes := ba_size_ex s (k + 1) (k + 3) (by omega)
          have hes' : (s.extract (k + 1) (k + 3)).size ≤ 2 := by omega
          clear hes
          have hsl := slice_str (P := Tryz.prog) 9 Tryz.underlying9 s (k + 1) (k + 3) ((k : Int) + 1) ((k : Int) + 3) (by omega) (by omega) (by omega) (by omega)
          go_wp2_with fail
          refine (Unhex_any _ (by omega) _).mono ?_
          rintro e w2 ⟨rfl, hb2⟩
          rw [HTK.out]
          obtain ⟨u, hu⟩ : ∃ u, unhexL [s[k + 1]'(by omega), s[k + 2]'(by omega)] = u := ⟨_, rfl⟩
          have HX := hide (show runescL (n + 1) (s.data.toList.drop k) = u.bind fun x => (runescL n (s.data.toList.drop (k + 3))).map (x ++ ·) by
            rw [HD.out, runescL, if_neg (by simp [HC.out]), if_neg (by rw [List.length_drop, size_string]; omega), HD1.out, HD2.out]
            simp [hu])
          rw [hu]
          have HU := hide hu
          clear hu
          cases u with
          | none =>
            unfold optR
            go_wp2_with fail
            go_ret2
            exact ⟨ret_none (by rw [HQ.out, H.out, HX.out]; rfl), HBASE.out ▸ hb.trans (hb2.mono hgs)⟩
          | some x =>
            have hx1 := unhexL_two _ _ _ HU.out
            have hx2 : (⟨x.toArray⟩ : ByteArray).size = 1 := hx1
            have HX1 := hide hx1
            obtain ⟨y, hy⟩ : ∃ y : ByteArray, y = ⟨x.toArray⟩ := ⟨_, rfl⟩
            unfold optR
            simp only [Option.getD_some, Option.isSome_some]
            rw [← hy]
            rw [← hy] at hx2
            have hys : y.size ≤ 1 := by omega
            have HY := hide (show y.data.toList = x by rw [hy])
            clear hx1 hx2 hy
            go_wp2_with fail
            go_roundw
            case rel => exact ⟨k + 3, n, o ++ y, by omega, by omega, by rw [ba_size]; omega, rfl, by go_num, hb.trans (hb2.mono hgs), hide (by rw [H.out, HX.out, Option.bind_some, Option.map_map, ba_append, HY.out]; congr 1; funext z; simp)⟩
            case measure => simp [intOf]; omega
      · have ht : ((s[k].toNat : Int) != 92) = true := by rw [bne, byte_eq92]; simp [h92]
        have HC := hide h92
        clear h92
        have HO := hide (ba_one s k hlt)
        have hes := ba_size_ex s k (k + 1) hlt
        have hes' : (s.extract k (k + 1)).size ≤ 1 := by omega
        clear hes
        have hsl := slice_str (P := Tryz.prog) 9 Tryz.underlying9 s k (k + 1) (k : Int) ((k : Int) + 1) rfl (by omega) (by omega) hlt
        go_wp2_with fail
        go_roundw
        case rel => exact ⟨k + 1, n, o ++ s.extract k (k + 1), by omega, by omega, by rw [ba_size]; omega, rfl, by go_num, hb, hide (by rw [H.out, HD.out, runescL, if_pos HC.out, Option.map_map, ba_append, HO.out]; congr 1; funext z; simp)⟩
        case measure => simp [intOf]; omega
    · have HE := hide (drop_string_end s k (by omega))
      have HX := hide (show r = some o.data.toList by rw [H.out, HE.out]; simp [runescL])
      go_wp2_with fail
      refine (rEscape_any o (by omega) _).mono ?_
      rintro e w2 ⟨rfl, hb2⟩
      have HBW : Below w.heap.size w w2 := by have h := HBASE.out; subst h; exact hb.trans (hb2.mono hgs)
      by_cases heq : o.data.toList.flatMap escB = s.data.toList
      · have ht : ((o.data.toList.flatMap escB == s.toList) = true) := by rw [ByteArray.toList_eq]; simp [heq]
        have HEQ := hide heq
        clear heq
        go_wp2_with fail
        go_ret2
        exact ⟨ret_opt (by rw [HQ.out, HX.out]; simp [runescE, HEQ.out]), HBW⟩
      · have ht : ((o.data.toList.flatMap escB == s.toList) = false) := by rw [ByteArray.toList_eq]; simp [heq]
        have HEQ := hide heq
        clear heq
        go_wp2_with fail
        go_ret2
        exact ⟨ret_none (by rw [HQ.out, HX.out]; simp [runescE, HEQ.out]), HBW⟩
end Go.Proofs.YtmgnihmjjijdoaaGreatDoor
namespace Go.Proofs.YtmgnihmjjijdoaaGreatDoor
open Go.RowKit
theorem idx_nib (c : UInt8) : Lib.indexByte digs c = nibI c := by
 have h : ∀ n : Fin 256, Lib.indexByte digs (UInt8.ofNat n.1) = nibI (UInt8.ofNat n.1) := by decide +kernel
 have := h ⟨c.toNat, c.toNat_lt⟩
 simpa using this
theorem idx_any (c : UInt8) (w : World) : Calls Tryz.prog 76 #[.string ⟨#[48, 49, 50, 51, 52, 53, 54, 55, 56, 57, 97, 98, 99, 100, 101, 102]⟩, .int .u8 (c.toNat : Int)] w fun e w' => e = .returned (.int .i64 (nibI c)) ∧ w = w' :=
 (Tryz.strings_IndexByte _ _ w).mono fun e w' ⟨he, hw⟩ => ⟨by rw [he, toUInt8_byte, ← idx_nib]; rfl, hw.symm⟩
theorem or_i64 (x y : Int) (h1 : 0 ≤ x) (h2 : x ≤ 15) (h3 : 0 ≤ y) (h4 : y ≤ 15) : bits .or .i64 (x * 16) y = x * 16 + y := by
 have h : ∀ a b : Fin 16, bits .or .i64 (((a.1 : Nat) : Int) * 16) ((b.1 : Nat) : Int) = ((a.1 : Nat) : Int) * 16 + ((b.1 : Nat) : Int) := by decide +kernel
 have := h ⟨x.toNat, by omega⟩ ⟨y.toNat, by omega⟩
 simpa [Int.toNat_of_nonneg h1, Int.toNat_of_nonneg h3] using this
def unescL : Nat → List UInt8 → Option (List UInt8)
  | 0, _ => none
  | _ + 1, [] => some []
  | n + 1, c :: r => if isPlain c then (unescL n r).map (c :: ·) else
      if c ≠ 92 ∨ r.length < 2 then none else
      if nibI (r.getD 0 0) < 0 ∨ nibI (r.getD 1 0) < 0 ∨ isPlain (UInt8.ofNat (nibI (r.getD 0 0) * 16 + nibI (r.getD 1 0)).toNat) then none else
      (unescL n (r.drop 2)).map (UInt8.ofNat (nibI (r.getD 0 0) * 16 + nibI (r.getD 1 0)).toNat :: ·)
def unesc (l : List UInt8) : Option (List UInt8) := unescL (l.length + 1) l
set_option maxHeartbeats 4000000 in
theorem Unescape_any (s : ByteArray) (hs : s.size ≤ 1000000) (w : World) :
  Calls Tryz.prog 39 #[.string s] w fun e w' => e = .returned (optR (unesc s.data.toList)) ∧ Below w.heap.size w w' := by
 obtain ⟨r, hr⟩ : ∃ r, r = unesc s.data.toList := ⟨_, rfl⟩
 rw [← hr]
 unfold unesc at hr
 rw [size_string] at hr
 have HR := hide hr
 clear hr
 obtain ⟨base, hbase, HBASE⟩ : ∃ base, base ≤ w.heap.size ∧ Hid (base = w.heap.size) := ⟨_, Nat.le_refl _, rfl⟩
 go_enter Tryz.func39, Tryz.ntmps39
 go_wp2_with fail
 go_loopw [4, 5] (fun v i wr => ∃ (k n : Nat) (out : List UInt8), k ≤ s.size ∧ s.size < k + n ∧ out.length ≤ k ∧ i = .int .i64 k ∧ Own RByte 1 5 wr base No v out ∧ Below base w wr ∧ Hid (r = (unescL n (s.data.toList.drop k)).map (out ++ ·))) (fun _ i _ => s.size - (intOf i).toNat)
 case atStart => exact ⟨0, s.size + 1, [], Nat.zero_le _, by omega, by simp, rfl, Own.nil _ _ _ _ _ _, Below.refl _ _, hide (by rw [HR.out]; simp)⟩
 case round =>
  obtain ⟨k, n, out, hk, hn, hol, rfl, hown, hb, H⟩ := hrel
  obtain ⟨n, rfl⟩ : ∃ m, n = m + 1 := ⟨n - 1, by omega⟩
  have hgs : base ≤ wr.heap.size := by have := hb.size; omega
  obtain ⟨A, cp, hv⟩ := (hown.sl RByte.ok).shape
  subst hv
  by_cases hlt : k < s.size
  ·have HD := hide (drop_string s k hlt)
   obtain ⟨p, hp⟩ : ∃ p, isPlain s[k] = p := ⟨_, rfl⟩
   have HP := hide hp
   go_wp2_with fail
   refine (plain_any _ _).mono ?_
   rintro e w2 ⟨rfl, rfl⟩
   rw [hp]
   clear hp
   cases p
   ·by_cases h92 : s[k] = 92
    ·have ht : ((s[k].toNat : Int) != 92) = false := by rw [bne, byte_eq92]; simp [h92]
     have HC := hide h92
     clear h92
     by_cases h3 : s.size < k + 3
     ·have HX := hide (show unescL (n + 1) (s.data.toList.drop k) = none by
       rw [HD.out, unescL, if_neg (by simp [HP.out]), if_pos (.inr (by rw [List.length_drop, size_string]; omega))])
      go_wp2_with fail
      go_ret2
      exact ⟨ret_none (by rw [H.out, HX.out]; rfl), HBASE.out ▸ hb⟩
     ·have HD1 := drop_string s (k + 1) (by omega)
      have HD2 := drop_string s (k + 2) (by omega)
      have hk0 : (0 : Int) ≤ (k : Int) := by omega
      have hk1 : (k : Int) < (s.size : Int) := by omega
      have hk2 : (0 : Int) ≤ (k : Int) + 1 := by omega
      have hk3 : (k : Int) + 1 < (s.size : Int) := by omega
      have hk4 : (0 : Int) ≤ (k : Int) + 2 := by omega
      have hk5 : (k : Int) + 2 < (s.size : Int) := by omega
      obtain ⟨a, ha⟩ : ∃ a, s[k + 1]'(by omega) = a := ⟨_, rfl⟩
      obtain ⟨b, hbv⟩ : ∃ b, s[k + 2]'(by omega) = b := ⟨_, rfl⟩
      rw [ha] at HD1
      rw [hbv] at HD2
      have hna := nibI_bd a
      have hnb := nibI_bd b
      obtain ⟨na, hna'⟩ : ∃ na, nibI a = na := ⟨_, rfl⟩
      obtain ⟨nb, hnb'⟩ : ∃ nb, nibI b = nb := ⟨_, rfl⟩
      have HX := hide (show unescL (n + 1) (s.data.toList.drop k) = if na < 0 ∨ nb < 0 ∨ isPlain (UInt8.ofNat (na * 16 + nb).toNat) then none else (unescL n (s.data.toList.drop (k + 3))).map (UInt8.ofNat (na * 16 + nb).toNat :: ·) by
       have hr0 : ∀ t : List UInt8, (a :: b :: t).getD 0 0 = a := fun _ => rfl
       have hr1 : ∀ t : List UInt8, (a :: b :: t).getD 1 0 = b := fun _ => rfl
       rw [HD.out, unescL, if_neg (by simp [HP.out]), if_neg (by rw [List.length_drop, size_string, HC.out]; simp; omega), HD1, HD2, hr0, hr1, hna', hnb']
       rfl)
      rw [hna'] at hna
      rw [hnb'] at hnb
      have hwk : IntKind.i64.wrap ((k : Int) + 1) = (k : Int) + 1 := IntWalk.i64_in _ (by omega)
      have hwk2 : IntKind.i64.wrap ((k : Int) + 2) = (k : Int) + 2 := IntWalk.i64_in _ (by omega)
      have htn : ((k : Int) + 1).toNat = k + 1 := by omega
      have htn2 : ((k : Int) + 2).toNat = k + 2 := by omega
      have hownD := fun n => hown.drewN RByte.ok n
      have hbD := fun n => below_drewN hb n
      clear HD1 HD2 hown hb
      go_wp2_with fail
      go_quiet ((go_at_call 76; exact quiet_left (idx_any _ _)))
      rw [hna', hnb']
      clear hwk hwk2 htn htn2 ha hbv hna' hnb'
      by_cases h1 : na < 0
      ·have HY := hide (HX.out.trans (if_pos (.inl h1)))
       go_wp2_with fail
       go_ret2
       exact ⟨ret_none (by rw [H.out, HY.out]; rfl), HBASE.out ▸ hbD _⟩
      ·by_cases h2 : nb < 0
       ·have HY := hide (HX.out.trans (if_pos (.inr (.inl h2))))
        go_wp2_with fail
        go_ret2
        exact ⟨ret_none (by rw [H.out, HY.out]; rfl), HBASE.out ▸ hbD _⟩
       ·have hor := or_i64 na nb (by omega) (by omega) (by omega) (by omega)
        obtain ⟨c, hc⟩ : ∃ c, c = UInt8.ofNat (na * 16 + nb).toNat := ⟨_, rfl⟩
        have hby := byte_of (na * 16 + nb) (by omega) (by omega)
        rw [← hc] at hby
        have hby' := hby.symm
        have HC2 := hide hc
        have hcl := byte_lt c
        clear hby hc
        obtain ⟨p, hp⟩ : ∃ p, isPlain c = p := ⟨_, rfl⟩
        have HP2 := hide hp
        go_wp2_with fail
        refine (plain_any c _).mono ?_
        rintro e w2 ⟨rfl, rfl⟩
        rw [hp]
        clear hp
        cases p
        ·have HY := hide (HX.out.trans (if_neg (by rw [← HC2.out, HP2.out]; simp; omega)))
         go_wp2_with (first
          | (at_builtin; refine wpList_app RByte.ok _ rfl (.tmp 59) (.tmp 65) 28 rfl base 5 (.int .u8 0) 1 Tryz.underlying28 info_u8 rfl (by decide) No _ out rfl ((hownD _).alloc RByte.ok (no_lt _) _) ⟨_, 0, none⟩ [c].length [c].length [c] rfl rfl (news_bytes _ _ _ _ [c] rfl) (no_lt _) (by simp; omega) (by simp [maxLen]; omega) (by simp; omega) ?_; intro v2 w2 hown2 hg2 hb2 hat2; have hsz2 := hb2.size; simp at hsz2))
         go_roundw
         case rel => exact ⟨k + 3, n, out ++ [c], by omega, by omega, by simp; omega, by go_num, hown2, (below_alloc (hbD _) (by simp; omega) _).trans hb2, hide (by rw [H.out, HY.out, Option.map_map, ← HC2.out]; congr 1; funext z; simp)⟩
         case measure => simp [intOf]; omega
        ·have HY := hide (HX.out.trans (if_pos (.inr (.inr (by rw [← HC2.out, HP2.out])))))
         go_wp2_with fail
         go_ret2
         exact ⟨ret_none (by rw [H.out, HY.out]; rfl), HBASE.out ▸ hbD _⟩
    ·have ht : ((s[k].toNat : Int) != 92) = true := by rw [bne, byte_eq92]; simp [h92]
     have HX := hide (show unescL (n + 1) (s.data.toList.drop k) = none by
      rw [HD.out, unescL, if_neg (by simp [HP.out]), if_pos (.inl h92)])
     clear h92
     go_wp2_with fail
     go_ret2
     exact ⟨ret_none (by rw [H.out, HX.out]; rfl), HBASE.out ▸ hb⟩
   ·obtain ⟨b, hbk⟩ : ∃ b, b = s[k] := ⟨_, rfl⟩
    have hbk' := hbk.symm
    have HX := hide (show unescL (n + 1) (s.data.toList.drop k) = (unescL n (s.data.toList.drop (k + 1))).map (b :: ·) by
     rw [HD.out, unescL, if_pos HP.out, hbk])
    clear hbk
    go_wp2_with (first
     | (at_builtin; refine wpList_app RByte.ok _ rfl (.tmp 18) (.tmp 22) 28 rfl base 5 (.int .u8 0) 1 Tryz.underlying28 info_u8 rfl (by decide) No _ out rfl (hown.alloc RByte.ok (no_lt _) _) ⟨_, 0, none⟩ [b].length [b].length [b] rfl rfl (news_bytes _ _ _ _ [b] rfl) (no_lt _) (by simp; omega) (by simp [maxLen]; omega) (by simp; omega) ?_; intro v2 w2 hown2 hg2 hb2 hat2; have hsz2 := hb2.size; simp at hsz2))
    go_roundw
    case rel => exact ⟨k + 1, n, out ++ [b], by omega, by omega, by simp; omega, by go_num, hown2, (hb.alloc (by omega) _).trans hb2, hide (by rw [H.out, HX.out, Option.map_map]; congr 1; funext z; simp)⟩
    case measure => simp [intOf]; omega
  ·have HE := hide (drop_string_end s k (by omega))
   have hconv := run_bts_str (P := Tryz.prog) wr 28 9 5 Tryz.underlying28 Tryz.underlying5 Tryz.underlying9 _ _ _ (hown.sl RByte.ok)
   go_wp2_with fail
   go_ret2
   exact ⟨by rw [H.out, HE.out]; simp [optR, unescL], HBASE.out ▸ hb⟩
end Go.Proofs.YtmgnihmjjijdoaaGreatDoor
