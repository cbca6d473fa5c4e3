/- The functions of package text and its reference: what each computes, by walking its code. First part: single bytes, Valid of the kinds of bytes. -/
import Derived.Test.YtahamclodagihaaGreatDoorTLib
import Derived.Test.YtahamclodagihaaGreatDoorTShelf
import Derived.Lib.IndexAny
import Derived.Deep.RegionHeld3
import Derived.Deep.QuietTactic
import Derived.BigQuiet
namespace Go.Proofs.YtahamclodagihaaGreatDoor
open Go.RowKit
def letterB (c : Int) : Bool := decide (97 ≤ c) && decide (c ≤ 122) || decide (65 ≤ c) && decide (c ≤ 90) || decide (48 ≤ c) && decide (c ≤ 57)
def alnum (c : UInt8) : Bool := letterB (c.toNat : Int)
def printSet : List UInt8 := [32, 39, 40, 41, 43, 44, 45, 46, 47, 58, 61, 63]
def isPrint (c : UInt8) : Bool := alnum c || printSet.contains c
def isIA5 (c : UInt8) : Bool := decide (32 ≤ (c.toNat : Int)) && decide ((c.toNat : Int) ≤ 126)
set_option maxHeartbeats 400000 in
theorem letter_any (c : UInt8) (w : World) :
  Calls Tryz.prog 168 #[.int .u8 (c.toNat : Int)] w fun e w' => e = .returned (.bool (alnum c)) ∧ w = w' := by
 unfold alnum
 generalize (c.toNat : Int) = c
 go_enter Tryz.func168, Tryz.ntmps168
 go_wp2
 all_goals go_ret
 all_goals (refine ⟨ret_bool ?_, rfl⟩; unfold letterB; rw [Bool.eq_iff_iff]; simp; omega)
theorem byte_beq (a b : UInt8) : ((a.toNat : Int) == (b.toNat : Int)) = (a == b) := by
 rw [Bool.eq_iff_iff]
 simp only [beq_iff_eq]
 constructor
 ·intro h
  exact UInt8.toNat_inj.1 (by omega)
 ·rintro rfl; rfl
theorem indexByte_ge0 (l : List UInt8) (c : UInt8) : decide (0 ≤ Lib.indexByte l (c.toNat : Int).toNat.toUInt8) = l.contains c := by
 rw [toUInt8_byte, ← Lib.contains_iff_indexByte]
set_option maxHeartbeats 400000 in
theorem Print_any (c : UInt8) (w : World) :
  Calls Tryz.prog 167 #[.int .u8 (c.toNat : Int)] w fun e w' => e = .returned (.bool (isPrint c)) ∧ w = w' := by
 have hi := indexByte_ge0 printSet c
 unfold printSet at hi
 have H := hide hi
 clear hi
 have hb := byte_lt c
 by_cases hl : alnum c = true
 ·have H2 := hide hl
  go_enter Tryz.func167, Tryz.ntmps167
  go_wp2_with fail
  refine (letter_any c _).mono ?_
  rintro e w' ⟨rfl, rfl⟩
  go_wp2_with fail
  go_ret
  exact ⟨ret_bool (by simp [isPrint, H2.out]), rfl⟩
 ·have H2 := hide hl
  go_enter Tryz.func167, Tryz.ntmps167
  go_wp2_with fail
  refine (letter_any c _).mono ?_
  rintro e w' ⟨rfl, rfl⟩
  go_wp2_with fail
  refine (Tryz.strings_IndexByte _ _ _).mono ?_
  rintro e w' ⟨rfl, rfl⟩
  go_wp2_with fail
  go_ret
  refine ⟨ret_bool ?_, rfl⟩
  unfold isPrint printSet
  rw [← H.out]
  simp [H2.out]
set_option maxHeartbeats 400000 in
theorem IA5_any (c : UInt8) (w : World) :
  Calls Tryz.prog 169 #[.int .u8 (c.toNat : Int)] w fun e w' => e = .returned (.bool (isIA5 c)) ∧ w = w' := by
 unfold isIA5
 generalize (c.toNat : Int) = c
 go_enter Tryz.func169, Tryz.ntmps169
 go_wp2
 all_goals go_ret
 all_goals (refine ⟨ret_bool ?_, rfl⟩; rw [Bool.eq_iff_iff]; simp; omega)
end Go.Proofs.YtahamclodagihaaGreatDoor
namespace Go.Proofs.YtahamclodagihaaGreatDoor
open Go.RowKit
theorem info_u8 : (Tryz.prog.info? 5).map (fun i => (i.zero, i.size, i.bytes)) = some (some (.int .u8 0), 1, 1) := by kernel_rfl
set_option maxHeartbeats 400000 in
theorem all_any (p : UInt8 → Bool) (f : Nat) (hcf : ∀ (x : Value) (W : World), (callFunc f #[x]).run Tryz.prog W = .ok (.enter f #[x]) W)
  (hp : ∀ (c : UInt8) (W : World), Calls Tryz.prog f #[.int .u8 (c.toNat : Int)] W fun e w' => e = .returned (.bool (p c)) ∧ W = w')
  (s : ByteArray) (hs : s.size ≤ maxLen) (w : World) :
  Calls Tryz.prog 166 #[.string s, .func (.func f) #[] #[]] w fun e w' => e = .returned (.bool (s.data.toList.all p)) ∧ w = w' := by
 unfold maxLen at hs
 obtain ⟨r, hr⟩ : ∃ r, r = s.data.toList.all p := ⟨_, rfl⟩
 rw [← hr]
 have HR := hide hr
 have HP := hide hp
 clear hr hp
 go_enter Tryz.func166, Tryz.ntmps166
 go_wp2
 go_loop [5] (fun i => ∃ k : Nat, k ≤ s.size ∧ i = .int .i64 k ∧ Hid (r = (s.data.toList.drop k).all p)) (fun i => s.size - (intOf i).toNat)
 case atStart => exact ⟨0, Nat.zero_le _, rfl, HR⟩
 case round =>
  obtain ⟨k, hk, rfl, H⟩ := hrel
  by_cases hlt : k < s.size
  ·have H2 := hide (drop_string s k hlt)
   by_cases hc : p s[k] = true
   ·have H3 := hide hc
    clear hc
    go_wp2_with fail
    refine (HP.out _ _).mono ?_
    rintro e w' ⟨rfl, rfl⟩
    rw [H3.out]
    go_wp2_with fail
    go_round
    case rel => exact ⟨k + 1, by omega, by go_num, hide (by rw [H.out, H2.out]; simp [H3.out])⟩
    case measure => simp [intOf]; omega
   ·have H3 := hide (show p s[k] = false by simpa using hc)
    clear hc
    go_wp2_with fail
    refine (HP.out _ _).mono ?_
    rintro e w' ⟨rfl, rfl⟩
    rw [H3.out]
    go_wp2_with fail
    go_ret
    exact ⟨ret_bool (by rw [H.out, H2.out]; simp [H3.out]), rfl⟩
  ·have H2 := hide (drop_string_end s k (by omega))
   go_wp2_with fail
   go_ret
   exact ⟨ret_bool (by rw [H.out, H2.out]; rfl), rfl⟩
def low (c : UInt8) : UInt8 := if 65 ≤ (c.toNat : Int) ∧ (c.toNat : Int) ≤ 90 then c + 32 else c
theorem low_toNat (c : UInt8) (h : 65 ≤ (c.toNat : Int) ∧ (c.toNat : Int) ≤ 90) : ((low c).toNat : Int) = (c.toNat : Int) + 32 := by
 unfold low
 rw [if_pos h, UInt8.toNat_add]
 have : (32 : UInt8).toNat = 32 := rfl
 omega
theorem low_same (c : UInt8) (h : ¬ (65 ≤ (c.toNat : Int) ∧ (c.toNat : Int) ≤ 90)) : low c = c := by
 unfold low
 rw [if_neg h]
def lowTo (l : List UInt8) (k : Nat) : List UInt8 := (l.take k).map low ++ l.drop k
theorem lowTo_len (l : List UInt8) (k : Nat) : (lowTo l k).length = l.length := by simp [lowTo]; omega
theorem lowTo_at (l : List UInt8) (k : Nat) (h : k < l.length) : (lowTo l k)[k]'(by rw [lowTo_len]; exact h) = l[k] := by
 unfold lowTo
 rw [List.getElem_append_right (by simp; omega)]
 simp [Nat.min_eq_left (Nat.le_of_lt h)]
theorem lowTo_set (l : List UInt8) (k : Nat) (h : k < l.length) : (lowTo l k).set k (low l[k]) = lowTo l (k + 1) := by
 unfold lowTo
 rw [List.set_append_right _ _ (by simp; omega)]
 simp only [List.length_map, List.length_take, Nat.min_eq_left (Nat.le_of_lt h), Nat.sub_self]
 rw [List.drop_eq_getElem_cons h, List.set_cons_zero, List.take_succ_eq_append_getElem h, List.map_append, List.append_assoc]
 rfl
theorem lowTo_skip (l : List UInt8) (k : Nat) (h : k < l.length) (hl : low l[k] = l[k]) : lowTo l k = lowTo l (k + 1) := by
 rw [← lowTo_set l k h, hl, ← lowTo_at l k h, List.set_getElem_self]
end Go.Proofs.YtahamclodagihaaGreatDoor
namespace Go.Proofs.YtahamclodagihaaGreatDoor
open Go.RowKit
def foldG : List UInt8 → Bool → List UInt8 → List UInt8
 | out, _, [] => out
 | out, gap, c :: r => if c = 32 then foldG out (!out.isEmpty) r else foldG (out ++ ((if gap then [32] else []) ++ [low c])) false r
theorem byte_eq32 (c : UInt8) : ((c.toNat : Int) == 32) = (c == 32) := byte_beq c 32
set_option maxHeartbeats 2000000 in
theorem Fold_any (s : ByteArray) (hs : s.size ≤ 1000000) (w : World) :
  Calls Tryz.prog 74 #[.string s] w fun e w' => e = .returned (.string ⟨(foldG [] false s.data.toList).toArray⟩) ∧ Below w.heap.size w w' := by
 have hsz := size_string s
 generalize hl : s.data.toList = l at hsz
 have HL := hide hl
 have hsl : l.length ≤ 1000000 := by omega
 have hm : l.length ≤ maxLen := by unfold maxLen; omega
 clear hsz hl
 obtain ⟨r, hr⟩ : ∃ r, r = foldG [] false l := ⟨_, rfl⟩
 rw [← hr]
 have HR := hide hr
 clear hr
 go_enter Tryz.func74, Tryz.ntmps74
 go_wp2_with (with_reducible refine wpList_str_bts _ rfl (.tmp 7) 9 63 5 rfl Tryz.underlying9 Tryz.underlying63 Tryz.underlying5 s rfl l HL.out hm ?_; intro g c w1 hg1 hg2 hb1 hby hc1 hc2)
 go_loopw [3, 4, 10] (fun v gp i wr => ∃ (k : Nat) (out : List UInt8) (gap : Bool), k ≤ l.length ∧ out.length ≤ 2 * k ∧ i = .int .i64 k ∧ gp = .bool gap ∧ Own RByte 1 5 wr (g + 1) No v out ∧ Below (g + 1) w1 wr ∧ Hid (r = foldG out gap (l.drop k))) (fun _ _ i _ => l.length - (intOf i).toNat)
 case atStart => exact ⟨0, [], false, Nat.zero_le _, by simp, rfl, rfl, Own.nil _ _ _ _ _ _, Below.refl _ _, HR⟩
 case round =>
  obtain ⟨k, out, gap, hk, hol, rfl, rfl, hown, hb, H⟩ := hrel
  have hgs : g + 1 ≤ wr.heap.size := by have := hb.size; omega
  by_cases hlt : k < l.length
  ·have hcell := (hby.keep (hb.block g (by omega))).cell hlt
   have hbb := byte_lt l[k]
   have hdr := List.drop_eq_getElem_cons hlt
   obtain ⟨b, hbk⟩ : ∃ b, b = l[k] := ⟨_, rfl⟩
   rw [← hbk] at hcell hbb hdr
   have HD := hide hdr
   clear hbk hdr
   obtain ⟨A, cp, hv⟩ := (hown.sl RByte.ok).shape
   subst hv
   by_cases h32 : b = 32
   ·have H32 := hide h32
    have ht : ((b.toNat : Int) == 32) = true := by rw [byte_eq32]; simp [h32]
    clear h32
    go_wp2
    go_roundw
    case rel =>
     refine ⟨k + 1, out, !out.isEmpty, by omega, by omega, by go_num, ?_, hown, hb, hide (by rw [H.out, HD.out, foldG, if_pos H32.out])⟩
     cases out <;> simp
    case measure => simp [intOf]; omega
   ·have H32 := hide h32
    have ht : ((b.toNat : Int) == 32) = false := by rw [byte_eq32]; simp [h32]
    clear h32
    by_cases hup : 65 ≤ (b.toNat : Int) ∧ (b.toNat : Int) ≤ 90
    ·have HLOW := hide (low_toNat b hup)
     obtain ⟨hu1, hu2⟩ := hup
     cases gap
     ·go_wp2_with (first
       | (at_builtin; refine wpList_app RByte.ok _ rfl (.tmp 31) (.tmp 33) 63 rfl (g + 1) 5 (.int .u8 0) 1 Tryz.underlying63 info_u8 rfl (by decide) No _ out rfl (hown.alloc RByte.ok (no_lt _) _) ⟨_, 0, none⟩ 1 1 [low b] rfl rfl (news_bytes _ _ _ _ [low b] (by simp [HLOW.out])) (no_lt _) (by simp; omega) (by simp [maxLen]; omega) (by simp; omega) ?_; intro v2 w2 hown2 hg2 hb2 hat2; have hsz2 := hb2.size; simp at hsz2))
      go_roundw
      case rel => exact ⟨k + 1, out ++ [low b], false, by omega, by simp; omega, by go_num, rfl, hown2, (hb.alloc (by omega) _).trans hb2, hide (by rw [H.out, HD.out, foldG, if_neg H32.out]; rfl)⟩
      case measure => simp [intOf]; omega
     ·go_wp2_with (first
       | (at_builtin; refine wpList_app RByte.ok _ rfl (.tmp 20) (.tmp 21) 63 rfl (g + 1) 5 (.int .u8 0) 1 Tryz.underlying63 info_u8 rfl (by decide) No _ out rfl (hown.alloc RByte.ok (no_lt _) _) ⟨_, 0, none⟩ 1 1 [32] rfl rfl (news_bytes _ _ _ _ [32] rfl) (no_lt _) (by simp; omega) (by simp [maxLen]; omega) (by simp; omega) ?_; intro v2 w2 hown2 hg2 hb2 hat2; have hsz2 := hb2.size; simp at hsz2)
       | (at_builtin; refine wpList_app RByte.ok _ rfl (.tmp 31) (.tmp 33) 63 rfl (g + 1) 5 (.int .u8 0) 1 Tryz.underlying63 info_u8 rfl (by decide) No v2 (out ++ [32]) rfl (hown2.alloc RByte.ok (no_lt _) _) ⟨_, 0, none⟩ 1 1 [low b] rfl rfl (news_bytes _ _ _ _ [low b] (by simp [HLOW.out])) (no_lt _) (by simp; omega) (by simp [maxLen]; omega) (by simp; omega) ?_; intro v3 w3 hown3 hg3 hb3 hat3; have hsz3 := hb3.size; simp at hsz3))
      go_roundw
      case rel => exact ⟨k + 1, out ++ [32] ++ [low b], false, by omega, by simp; omega, by go_num, rfl, hown3, (((hb.alloc (by omega) _).trans hb2).alloc (by omega) _).trans hb3, hide (by rw [H.out, HD.out, foldG, if_neg H32.out, List.append_assoc]; rfl)⟩
      case measure => simp [intOf]; omega
    ·have HLOW := hide (low_same b hup)
     have hb2 : (b.toNat : Int) < 65 ∨ 90 < (b.toNat : Int) := by omega
     clear hup
     rcases hb2 with hu2 | hu2
     all_goals
      cases gap
      ·go_wp2_with (first
        | (at_builtin; refine wpList_app RByte.ok _ rfl (.tmp 31) (.tmp 33) 63 rfl (g + 1) 5 (.int .u8 0) 1 Tryz.underlying63 info_u8 rfl (by decide) No _ out rfl (hown.alloc RByte.ok (no_lt _) _) ⟨_, 0, none⟩ 1 1 [low b] rfl rfl (news_bytes _ _ _ _ [low b] (by simp [HLOW.out])) (no_lt _) (by simp; omega) (by simp [maxLen]; omega) (by simp; omega) ?_; intro v2 w2 hown2 hg2 hb2 hat2; have hsz2 := hb2.size; simp at hsz2))
       go_roundw
       case rel => exact ⟨k + 1, out ++ [low b], false, by omega, by simp; omega, by go_num, rfl, hown2, (hb.alloc (by omega) _).trans hb2, hide (by rw [H.out, HD.out, foldG, if_neg H32.out]; rfl)⟩
       case measure => simp [intOf]; omega
      ·go_wp2_with (first
        | (at_builtin; refine wpList_app RByte.ok _ rfl (.tmp 20) (.tmp 21) 63 rfl (g + 1) 5 (.int .u8 0) 1 Tryz.underlying63 info_u8 rfl (by decide) No _ out rfl (hown.alloc RByte.ok (no_lt _) _) ⟨_, 0, none⟩ 1 1 [32] rfl rfl (news_bytes _ _ _ _ [32] rfl) (no_lt _) (by simp; omega) (by simp [maxLen]; omega) (by simp; omega) ?_; intro v2 w2 hown2 hg2 hb2 hat2; have hsz2 := hb2.size; simp at hsz2)
        | (at_builtin; refine wpList_app RByte.ok _ rfl (.tmp 31) (.tmp 33) 63 rfl (g + 1) 5 (.int .u8 0) 1 Tryz.underlying63 info_u8 rfl (by decide) No v2 (out ++ [32]) rfl (hown2.alloc RByte.ok (no_lt _) _) ⟨_, 0, none⟩ 1 1 [low b] rfl rfl (news_bytes _ _ _ _ [low b] (by simp [HLOW.out])) (no_lt _) (by simp; omega) (by simp [maxLen]; omega) (by simp; omega) ?_; intro v3 w3 hown3 hg3 hb3 hat3; have hsz3 := hb3.size; simp at hsz3))
       go_roundw
       case rel => exact ⟨k + 1, out ++ [32] ++ [low b], false, by omega, by simp; omega, by go_num, rfl, hown3, (((hb.alloc (by omega) _).trans hb2).alloc (by omega) _).trans hb3, hide (by rw [H.out, HD.out, foldG, if_neg H32.out, List.append_assoc]; rfl)⟩
       case measure => simp [intOf]; omega
  ·have hkl : k = l.length := by omega
   have HE := hide (show l.drop k = [] by rw [hkl]; simp)
   clear hkl
   have hconv := run_bts_str (P := Tryz.prog) wr 63 9 5 Tryz.underlying63 Tryz.underlying5 Tryz.underlying9 _ _ _ (hown.sl RByte.ok)
   obtain ⟨A, cp, hv⟩ := (hown.sl RByte.ok).shape
   subst hv
   go_wp2
   go_ret
   exact ⟨ret_str (by rw [H.out, HE.out]; rfl), hb1.trans (hb.mono (by omega))⟩
end Go.Proofs.YtahamclodagihaaGreatDoor
namespace Go.Proofs.YtahamclodagihaaGreatDoor
open Go.RowKit
set_option maxHeartbeats 400000 in
theorem Match_any (a b : ByteArray) (ha : a.size ≤ 1000000) (hb : b.size ≤ 1000000) (w : World) :
  Calls Tryz.prog 263 #[.string a, .string b] w fun e w' => e = .returned (.bool (foldG [] false a.data.toList == foldG [] false b.data.toList)) ∧ Below w.heap.size w w' := by
 go_enter Tryz.func263, Tryz.ntmps263
 go_wp2_with fail
 refine (Fold_any a ha _).mono ?_
 rintro e w1 ⟨rfl, hb1⟩
 go_wp2_with fail
 refine (Fold_any b hb _).mono ?_
 rintro e w2 ⟨rfl, hb2⟩
 go_wp2_with fail
 go_ret
 exact ⟨ret_bool (by simp), hb1.trans (hb2.mono hb1.size)⟩
end Go.Proofs.YtahamclodagihaaGreatDoor
namespace Go.Proofs.YtahamclodagihaaGreatDoor
open Go.RowKit
end Go.Proofs.YtahamclodagihaaGreatDoor
namespace Go.Proofs.YtahamclodagihaaGreatDoor
open Go.RowKit
end Go.Proofs.YtahamclodagihaaGreatDoor
namespace Go.Proofs.YtahamclodagihaaGreatDoor
open Go.RowKit
end Go.Proofs.YtahamclodagihaaGreatDoor
namespace Go.Proofs.YtahamclodagihaaGreatDoor
open Go.RowKit
end Go.Proofs.YtahamclodagihaaGreatDoor
namespace Go.Proofs.YtahamclodagihaaGreatDoor
open Go.RowKit
end Go.Proofs.YtahamclodagihaaGreatDoor
