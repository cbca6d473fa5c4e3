/- The functions of package text and its reference, tenth part: well-formed UTF-8, Valid. -/
import Derived.Test.YtmgnihmjjijdoaaGreatDoorGTxtA
import Derived.Lib.TrimUEq
namespace Go.Proofs.YtmgnihmjjijdoaaGreatDoor
open Go.RowKit
def utfL : Nat → List UInt8 → Bool
  | 0, _ => true
  | _ + 1, [] => true
  | f + 1, c :: r =>
    if (Lib.decodeL (c :: r)).1 < 32 ∨ (Lib.decodeL (c :: r)).1 = 127 then false else
    if (Lib.decodeL (c :: r)).1 = 65533 ∧ Lib.hasPrefix (c :: r) [239, 191, 189] = false then false else
    utfL f ((c :: r).drop (Lib.decodeL (c :: r)).2)
set_option maxHeartbeats 2000000 in
theorem utf_any (s : ByteArray) (_hs : s.size ≤ 1000000) (w : World) :
  Calls Tryz.prog 169 #[.string s] w fun e w' => e = .returned (.bool (utfL (s.size + 1) s.data.toList)) ∧ Below w.heap.size w w' := by
 obtain ⟨r, hr⟩ : ∃ r, r = utfL (s.size + 1) s.data.toList := ⟨_, rfl⟩
 rw [← hr]
 have HR := hide hr
 clear hr
 have hbw : ∀ p, Below w.heap.size w (w.iter s p) := fun p => (Below.refl _ _).alloc (Nat.le_refl _) _
 go_enter Tryz.func169, Tryz.ntmps169
 go_wp2_with fail
 go_loopw [3, 4] (fun _ _ wr => ∃ (k n : Nat), s.size < k + n ∧ wr = w.iter s k ∧ Hid (r = utfL n (s.data.toList.drop k))) (fun _ _ wr => s.size - wr.iterPos w.heap.size)
 case atStart => exact ⟨0, s.size + 1, by omega, rfl, HR⟩
 case round =>
  obtain ⟨k, n, hn, rfl, H⟩ := hrel
  by_cases hlt : k < s.size
  ·obtain ⟨n, rfl⟩ : ∃ m, n = m + 1 := ⟨n - 1, by omega⟩
   have hd := drop_string s k hlt
   have hdec := Lib.decodeL_drop s k
   have hnext := fun ty => run_next_any (P := Tryz.prog) w s k ty hlt
   have hpos := Lib.width_pos s k
   have hle := Lib.rune_le s k
   obtain ⟨x, hx⟩ : ∃ x, (Utf8.decode s k).1 = x := ⟨_, rfl⟩
   obtain ⟨m, hm⟩ : ∃ m, (Utf8.decode s k).2 = m := ⟨_, rfl⟩
   rw [hx] at hle
   rw [hm] at hpos
   have HX := hide (show r = if x < 32 ∨ x = 127 then false else if x = 65533 ∧ Lib.hasPrefix (s.data.toList.drop k) [239, 191, 189] = false then false else utfL n (s.data.toList.drop (k + m)) by
    rw [H.out]
    rw [hd] at hdec ⊢
    rw [utfL, hdec, hx, hm, ← hd, List.drop_drop])
   have HE := hide (Lib.extract_to_end s k)
   rw [hx, hm] at hnext
   clear hd hdec hx hm H
   by_cases h1 : x < 32
   ·have HY := hide (HX.out.trans (if_pos (.inl h1)))
    go_wp2_with fail
    go_ret
    exact ⟨ret_bool HY.out.symm, hbw _⟩
   ·by_cases h2 : x = 127
    ·subst h2
     have HY := hide (HX.out.trans (if_pos (.inr rfl)))
     go_wp2_with fail
     go_ret
     exact ⟨ret_bool HY.out.symm, hbw _⟩
    ·have h2' : ((x : Int) == 127) = false := by simp; omega
     have HY := hide (HX.out.trans (if_neg (by omega)))
     by_cases h3 : x = 65533
     ·subst h3
      clear h1 h2 h2' HX
      obtain ⟨p, hp⟩ : ∃ p, Lib.hasPrefix (s.data.toList.drop k) [239, 191, 189] = p := ⟨_, rfl⟩
      have HP := hide hp
      clear hp
      go_wp2_with fail
      refine (Tryz.strings_HasPrefix _ _ _).mono ?_
      rintro e w' ⟨rfl, rfl⟩
      have hpp : Lib.hasPrefix (s.extract k s.size).data.toList (⟨#[239, 191, 189]⟩ : ByteArray).data.toList = p := by rw [HE.out, ← HP.out]
      rw [hpp]
      clear hpp
      cases p
      ·go_wp2_with fail
       go_ret
       exact ⟨ret_bool (by rw [HY.out]; simp [HP.out]), hbw _⟩
      ·go_wp2_with fail
       go_roundw
       case rel => exact ⟨k + m, n, by omega, rfl, hide (by rw [HY.out]; simp [HP.out])⟩
       case measure => simp; omega
     ·have h3' : ((x : Int) == 65533) = false := by simp; omega
      have HZ := hide (HY.out.trans (if_neg (by omega)))
      clear HY HX h2 h3
      go_wp2_with fail
      go_roundw
      case rel => exact ⟨k + m, n, by omega, rfl, HZ⟩
      case measure => simp; omega
  ·have hnext := fun ty => run_next_end (P := Tryz.prog) w s k ty hlt
   have HE := hide (drop_string_end s k (by omega))
   go_wp2_with fail
   go_ret
   exact ⟨ret_bool (by rw [H.out, HE.out]; cases n <;> rfl), hbw _⟩
def tailV : Nat → Nat → List UInt8 → Option Nat
 | 0, v, _ => some v
 | _ + 1, _, [] => none
 | n + 1, v, c :: r => if c.toNat / 64 = 2 then tailV n (64 * v + c.toNat % 64) r else none
def goodV (least : Nat) (v : Nat) : Bool := !(decide (v < least) || decide (v > 1114111) || (decide (55296 ≤ v) && decide (v < 57344)))
def utf8Step (n v least : Nat) (r : List UInt8) (k : List UInt8 → Bool) : Bool :=
 if r.length < n then false else match tailV n v r with
  | none => false
  | some x => goodV least x && k (r.drop n)
def utf8L : Nat → List UInt8 → Bool
  | 0, _ => true
  | _ + 1, [] => true
  | f + 1, c :: r =>
    if c.toNat < 32 ∨ c.toNat = 127 then false else
    if c.toNat < 128 then utf8L f r else
    if c.toNat < 192 then false else
    if c.toNat < 224 then utf8Step 1 (c.toNat % 32) 128 r (utf8L f) else
    if c.toNat < 240 then utf8Step 2 (c.toNat % 16) 2048 r (utf8L f) else
    if c.toNat < 248 then utf8Step 3 (c.toNat % 8) 65536 r (utf8L f) else false
theorem tail_bd {v j : Nat} (h : v < 32 * 64 ^ j) (hj : j ≤ 3) : v ≤ 8388608 := by
 have := Nat.pow_le_pow_right (n := 64) (by omega) hj
 omega
theorem and_mask (c : UInt8) : bits .and .i64 (c.toNat : Int) 31 = (c.toNat : Int) % 32 ∧ bits .and .i64 (c.toNat : Int) 15 = (c.toNat : Int) % 16 ∧ bits .and .i64 (c.toNat : Int) 7 = (c.toNat : Int) % 8 := by
 have h : ∀ n : Fin 256, bits .and .i64 ((n.1 : Nat) : Int) 31 = ((n.1 : Nat) : Int) % 32 ∧ bits .and .i64 ((n.1 : Nat) : Int) 15 = ((n.1 : Nat) : Int) % 16 ∧ bits .and .i64 ((n.1 : Nat) : Int) 7 = ((n.1 : Nat) : Int) % 8 := by decide +kernel
 exact h ⟨c.toNat, c.toNat_lt⟩
theorem tailV_step (n v : Nat) (c : UInt8) (r : List UInt8) (h : c.toNat / 64 = 2) : tailV (n + 1) v (c :: r) = tailV n (64 * v + c.toNat % 64) r := by rw [tailV, if_pos h]
theorem tailV_stop (n v : Nat) (c : UInt8) (r : List UInt8) (h : ¬ c.toNat / 64 = 2) : tailV (n + 1) v (c :: r) = none := by rw [tailV, if_neg h]
set_option maxRecDepth 100000 in
set_option maxHeartbeats 8000000 in
theorem utf8_any (s : ByteArray) (hs : s.size ≤ 1000000) (w : World) :
  Calls Tryz.prog 128 #[.string s] w fun e w' => e = .returned (.bool (utf8L (s.size + 1) s.data.toList)) ∧ w = w' := by
 obtain ⟨r, hr⟩ : ∃ r, r = utf8L (s.size + 1) s.data.toList := ⟨_, rfl⟩
 rw [← hr]
 have HR := hide hr
 clear hr
 go_enter Tryz.func128, Tryz.ntmps128
 go_wp2_with fail
 go_loop [3] (fun i => ∃ (k f : Nat), k ≤ s.size ∧ s.size < k + f ∧ i = .int .i64 k ∧ Hid (r = utf8L f (s.data.toList.drop k))) (fun i => s.size - (intOf i).toNat)
 case atStart => exact ⟨0, s.size + 1, by omega, by omega, rfl, HR⟩
 case round =>
  obtain ⟨k, f, hk, hf, rfl, H⟩ := hrel
  by_cases hlt : k < s.size
  ·obtain ⟨f, rfl⟩ : ∃ m, f = m + 1 := ⟨f - 1, by omega⟩
   have hd := drop_string s k hlt
   obtain ⟨c, hc⟩ : ∃ c, s[k] = c := ⟨_, rfl⟩
   rw [hc] at hd
   have hcb := byte_lt c
   have HX := hide (H.out.trans (congrArg (utf8L (f + 1)) hd))
   clear hd H
   by_cases h1 : c.toNat < 32 ∨ c.toNat = 127
   ·have HY := hide (show r = false by rw [HX.out, utf8L, if_pos h1])
    rcases h1 with h1 | h1
    ·go_wp2_with fail
     go_ret
     exact ⟨ret_bool HY.out.symm, rfl⟩
    ·have hb1 : ((c.toNat : Int) == 127) = true := by simp; omega
     go_wp2_with fail
     go_ret
     exact ⟨ret_bool HY.out.symm, rfl⟩
   ·have hb1 : ((c.toNat : Int) == 127) = false := by simp; omega
    have hge : 32 ≤ (c.toNat : Int) := by omega
    have HY := hide (show r = _ by rw [HX.out, utf8L, if_neg h1])
    clear h1 HX
    by_cases h2 : c.toNat < 128
    ·have HZ := hide (HY.out.trans (if_pos h2))
     go_wp2_with fail
     go_round
     case rel => exact ⟨k + 1, f, by omega, by omega, by go_num, HZ⟩
     case measure => simp [intOf]; omega
    ·have HY := hide (HY.out.trans (if_neg h2))
     by_cases h3 : c.toNat < 192
     ·have HZ := hide (HY.out.trans (if_pos h3))
      go_wp2_with fail
      go_ret
      exact ⟨ret_bool HZ.out.symm, rfl⟩
     ·have HY := hide (HY.out.trans (if_neg h3))
      by_cases h4 : c.toNat < 224
      ·have HY := hide (HY.out.trans (if_pos h4))
       have hlen : s.data.toList.length = s.size := size_string s
       by_cases hsh : s.size < k + 1 + 1
       ·have HZ := hide (show r = false by rw [HY.out, utf8Step, if_pos (by rw [List.length_drop, hlen]; omega)])
        clear hlen
        go_wp2_with fail
        go_ret
        exact ⟨ret_bool HZ.out.symm, rfl⟩
       ·have HZ := hide (show r = match tailV 1 (c.toNat % 32) (s.data.toList.drop (k + 1)) with | none => false | some x => goodV 128 x && utf8L f (s.data.toList.drop (k + 1 + 1)) by rw [HY.out, utf8Step, if_neg (by rw [List.length_drop, hlen]; omega), List.drop_drop])
        obtain ⟨tv, htv⟩ : ∃ tv, tailV 1 (c.toNat % 32) (s.data.toList.drop (k + 1)) = tv := ⟨_, rfl⟩
        rw [htv] at HZ
        have HT := hide htv
        have hm1 : bits .and .i64 (c.toNat : Int) 31 = (c.toNat : Int) % 32 := (and_mask c).1
        have hm2 : bits .and .i64 (c.toNat : Int) 15 = (c.toNat : Int) % 16 := (and_mask c).2.1
        have hm3 : bits .and .i64 (c.toNat : Int) 7 = (c.toNat : Int) % 8 := (and_mask c).2.2
        clear hlen htv HY
        go_wp2_with fail
        go_loop [7, 8] (fun a b => ∃ (j v : Nat), j ≤ 1 ∧ v ≤ 8388608 ∧ b = .int .i64 ((j : Int) + 1) ∧ a = .int .i64 v ∧ Hid (v < 32 * 64 ^ j) ∧ Hid (tv = tailV (1 - j) v (s.data.toList.drop (k + 1 + j)))) (fun _ b => 1 - (intOf b - 1).toNat)
        case atStart => exact ⟨0, (c.toNat % 32), by omega, by omega, rfl, by go_num, hide (by omega), hide HT.out.symm⟩
        case round =>
         obtain ⟨j, v, hj, hv, rfl, rfl, HV, HT2⟩ := hrel
         clear hm1 hm2 hm3
         by_cases hjn : j < 1
         ·have hlt2 : k + (j + 1) < s.size := by omega
          have HD2 := drop_string s (k + (j + 1)) hlt2
          obtain ⟨d, hd⟩ : ∃ d, s[k + (j + 1)]'hlt2 = d := ⟨_, rfl⟩
          rw [hd, show k + (j + 1) = k + 1 + j from by omega] at HD2
          have hdb := byte_lt d
          have HT3 := hide (show tv = tailV (1 - (j + 1) + 1) v (d :: s.data.toList.drop (k + 1 + (j + 1))) by rw [HT2.out, HD2, show 1 - j = 1 - (j + 1) + 1 from by omega]; rfl)
          clear HD2
          by_cases hq : d.toNat / 64 = 2
          ·have hqb : ((d.toNat : Int) / 64 != 2) = false := by simp; omega
           have HT4 := hide (HT3.out.trans (tailV_step _ _ _ _ hq))
           have HV2 := hide (show 64 * v + d.toNat % 64 < 32 * 64 ^ (j + 1) by have := HV.out; rw [Nat.pow_succ]; omega)
           have hv2 := tail_bd HV2.out (by omega)
           clear hq
           go_wp2_with fail
           go_round
           case rel => exact ⟨j + 1, 64 * v + d.toNat % 64, by omega, hv2, by go_num, by go_num, HV2, HT4⟩
           case measure => simp [intOf]; omega
          ·have hqb : ((d.toNat : Int) / 64 != 2) = true := by rw [bne_iff_ne]; omega
           have HT4 := hide (show r = false by rw [HZ.out, HT3.out.trans (tailV_stop _ _ _ _ hq)])
           clear hq
           go_wp2_with fail
           go_ret
           exact ⟨ret_bool HT4.out.symm, rfl⟩
         ·have hjn' : j = 1 := by omega
          subst hjn'
          have HT3 := hide (show r = (goodV 128 v && utf8L f (s.data.toList.drop (k + 1 + 1))) by rw [HZ.out, HT2.out]; rfl)
          by_cases hg : v < 128 ∨ 1114111 < v ∨ (55296 ≤ v ∧ v < 57344)
          ·have HT4 := hide (show r = false by
            rw [HT3.out]
            have : goodV 128 v = false := by simp [goodV]; omega
            rw [this]; rfl)
           rcases hg with hg | hg | ⟨hg, hg2⟩
           all_goals
            go_wp2_with fail
            all_goals
             go_ret
             exact ⟨ret_bool HT4.out.symm, rfl⟩
          ·have HT4 := hide (show r = utf8L f (s.data.toList.drop (k + 1 + 1)) by
            rw [HT3.out]
            have : goodV 128 v = true := by simp [goodV]; omega
            rw [this]; rfl)
           have hg' : (128 ≤ v ∧ v < 55296) ∨ (128 ≤ v ∧ 57344 ≤ v ∧ v ≤ 1114111) := by omega
           clear hg
           rcases hg' with ⟨hg, hg2⟩ | ⟨hg, hg2, hg3⟩
           all_goals try (exfalso; omega)
           all_goals
            go_wp2_with fail
            go_round
            case rel => exact ⟨k + 1 + 1, f, by omega, by omega, by go_num, HT4⟩
            case measure => simp [intOf]; omega
      ·have HY := hide (HY.out.trans (if_neg h4))
       by_cases h5 : c.toNat < 240
       ·have HY := hide (HY.out.trans (if_pos h5))
        have hlen : s.data.toList.length = s.size := size_string s
        by_cases hsh : s.size < k + 1 + 2
        ·have HZ := hide (show r = false by rw [HY.out, utf8Step, if_pos (by rw [List.length_drop, hlen]; omega)])
         clear hlen
         go_wp2_with fail
         go_ret
         exact ⟨ret_bool HZ.out.symm, rfl⟩
        ·have HZ := hide (show r = match tailV 2 (c.toNat % 16) (s.data.toList.drop (k + 1)) with | none => false | some x => goodV 2048 x && utf8L f (s.data.toList.drop (k + 1 + 2)) by rw [HY.out, utf8Step, if_neg (by rw [List.length_drop, hlen]; omega), List.drop_drop])
         obtain ⟨tv, htv⟩ : ∃ tv, tailV 2 (c.toNat % 16) (s.data.toList.drop (k + 1)) = tv := ⟨_, rfl⟩
         rw [htv] at HZ
         have HT := hide htv
         have hm1 : bits .and .i64 (c.toNat : Int) 31 = (c.toNat : Int) % 32 := (and_mask c).1
         have hm2 : bits .and .i64 (c.toNat : Int) 15 = (c.toNat : Int) % 16 := (and_mask c).2.1
         have hm3 : bits .and .i64 (c.toNat : Int) 7 = (c.toNat : Int) % 8 := (and_mask c).2.2
         clear hlen htv HY
         go_wp2_with fail
         go_loop [7, 8] (fun a b => ∃ (j v : Nat), j ≤ 2 ∧ v ≤ 8388608 ∧ b = .int .i64 ((j : Int) + 1) ∧ a = .int .i64 v ∧ Hid (v < 32 * 64 ^ j) ∧ Hid (tv = tailV (2 - j) v (s.data.toList.drop (k + 1 + j)))) (fun _ b => 2 - (intOf b - 1).toNat)
         case atStart => exact ⟨0, (c.toNat % 16), by omega, by omega, rfl, by go_num, hide (by omega), hide HT.out.symm⟩
         case round =>
          obtain ⟨j, v, hj, hv, rfl, rfl, HV, HT2⟩ := hrel
          clear hm1 hm2 hm3
          by_cases hjn : j < 2
          ·have hlt2 : k + (j + 1) < s.size := by omega
           have HD2 := drop_string s (k + (j + 1)) hlt2
           obtain ⟨d, hd⟩ : ∃ d, s[k + (j + 1)]'hlt2 = d := ⟨_, rfl⟩
           rw [hd, show k + (j + 1) = k + 1 + j from by omega] at HD2
           have hdb := byte_lt d
           have HT3 := hide (show tv = tailV (2 - (j + 1) + 1) v (d :: s.data.toList.drop (k + 1 + (j + 1))) by rw [HT2.out, HD2, show 2 - j = 2 - (j + 1) + 1 from by omega]; rfl)
           clear HD2
           by_cases hq : d.toNat / 64 = 2
           ·have hqb : ((d.toNat : Int) / 64 != 2) = false := by simp; omega
            have HT4 := hide (HT3.out.trans (tailV_step _ _ _ _ hq))
            have HV2 := hide (show 64 * v + d.toNat % 64 < 32 * 64 ^ (j + 1) by have := HV.out; rw [Nat.pow_succ]; omega)
            have hv2 := tail_bd HV2.out (by omega)
            clear hq
            go_wp2_with fail
            go_round
            case rel => exact ⟨j + 1, 64 * v + d.toNat % 64, by omega, hv2, by go_num, by go_num, HV2, HT4⟩
            case measure => simp [intOf]; omega
           ·have hqb : ((d.toNat : Int) / 64 != 2) = true := by rw [bne_iff_ne]; omega
            have HT4 := hide (show r = false by rw [HZ.out, HT3.out.trans (tailV_stop _ _ _ _ hq)])
            clear hq
            go_wp2_with fail
            go_ret
            exact ⟨ret_bool HT4.out.symm, rfl⟩
          ·have hjn' : j = 2 := by omega
           subst hjn'
           have HT3 := hide (show r = (goodV 2048 v && utf8L f (s.data.toList.drop (k + 1 + 2))) by rw [HZ.out, HT2.out]; rfl)
           by_cases hg : v < 2048 ∨ 1114111 < v ∨ (55296 ≤ v ∧ v < 57344)
           ·have HT4 := hide (show r = false by
             rw [HT3.out]
             have : goodV 2048 v = false := by simp [goodV]; omega
             rw [this]; rfl)
            rcases hg with hg | hg | ⟨hg, hg2⟩
            all_goals
             go_wp2_with fail
             all_goals
              go_ret
              exact ⟨ret_bool HT4.out.symm, rfl⟩
           ·have HT4 := hide (show r = utf8L f (s.data.toList.drop (k + 1 + 2)) by
             rw [HT3.out]
             have : goodV 2048 v = true := by simp [goodV]; omega
             rw [this]; rfl)
            have hg' : (2048 ≤ v ∧ v < 55296) ∨ (2048 ≤ v ∧ 57344 ≤ v ∧ v ≤ 1114111) := by omega
            clear hg
            rcases hg' with ⟨hg, hg2⟩ | ⟨hg, hg2, hg3⟩
            all_goals try (exfalso; omega)
            all_goals
             go_wp2_with fail
             go_round
             case rel => exact ⟨k + 1 + 2, f, by omega, by omega, by go_num, HT4⟩
             case measure => simp [intOf]; omega
       ·have HY := hide (HY.out.trans (if_neg h5))
        by_cases h6 : c.toNat < 248
        ·have HY := hide (HY.out.trans (if_pos h6))
         have hlen : s.data.toList.length = s.size := size_string s
         by_cases hsh : s.size < k + 1 + 3
         ·have HZ := hide (show r = false by rw [HY.out, utf8Step, if_pos (by rw [List.length_drop, hlen]; omega)])
          clear hlen
          go_wp2_with fail
          go_ret
          exact ⟨ret_bool HZ.out.symm, rfl⟩
         ·have HZ := hide (show r = match tailV 3 (c.toNat % 8) (s.data.toList.drop (k + 1)) with | none => false | some x => goodV 65536 x && utf8L f (s.data.toList.drop (k + 1 + 3)) by rw [HY.out, utf8Step, if_neg (by rw [List.length_drop, hlen]; omega), List.drop_drop])
          obtain ⟨tv, htv⟩ : ∃ tv, tailV 3 (c.toNat % 8) (s.data.toList.drop (k + 1)) = tv := ⟨_, rfl⟩
          rw [htv] at HZ
          have HT := hide htv
          have hm1 : bits .and .i64 (c.toNat : Int) 31 = (c.toNat : Int) % 32 := (and_mask c).1
          have hm2 : bits .and .i64 (c.toNat : Int) 15 = (c.toNat : Int) % 16 := (and_mask c).2.1
          have hm3 : bits .and .i64 (c.toNat : Int) 7 = (c.toNat : Int) % 8 := (and_mask c).2.2
          clear hlen htv HY
          go_wp2_with fail
          go_loop [7, 8] (fun a b => ∃ (j v : Nat), j ≤ 3 ∧ v ≤ 8388608 ∧ b = .int .i64 ((j : Int) + 1) ∧ a = .int .i64 v ∧ Hid (v < 32 * 64 ^ j) ∧ Hid (tv = tailV (3 - j) v (s.data.toList.drop (k + 1 + j)))) (fun _ b => 3 - (intOf b - 1).toNat)
          case atStart => exact ⟨0, (c.toNat % 8), by omega, by omega, rfl, by go_num, hide (by omega), hide HT.out.symm⟩
          case round =>
           obtain ⟨j, v, hj, hv, rfl, rfl, HV, HT2⟩ := hrel
           clear hm1 hm2 hm3
           by_cases hjn : j < 3
           ·have hlt2 : k + (j + 1) < s.size := by omega
            have HD2 := drop_string s (k + (j + 1)) hlt2
            obtain ⟨d, hd⟩ : ∃ d, s[k + (j + 1)]'hlt2 = d := ⟨_, rfl⟩
            rw [hd, show k + (j + 1) = k + 1 + j from by omega] at HD2
            have hdb := byte_lt d
            have HT3 := hide (show tv = tailV (3 - (j + 1) + 1) v (d :: s.data.toList.drop (k + 1 + (j + 1))) by rw [HT2.out, HD2, show 3 - j = 3 - (j + 1) + 1 from by omega]; rfl)
            clear HD2
            by_cases hq : d.toNat / 64 = 2
            ·have hqb : ((d.toNat : Int) / 64 != 2) = false := by simp; omega
             have HT4 := hide (HT3.out.trans (tailV_step _ _ _ _ hq))
             have HV2 := hide (show 64 * v + d.toNat % 64 < 32 * 64 ^ (j + 1) by have := HV.out; rw [Nat.pow_succ]; omega)
             have hv2 := tail_bd HV2.out (by omega)
             clear hq
             go_wp2_with fail
             go_round
             case rel => exact ⟨j + 1, 64 * v + d.toNat % 64, by omega, hv2, by go_num, by go_num, HV2, HT4⟩
             case measure => simp [intOf]; omega
            ·have hqb : ((d.toNat : Int) / 64 != 2) = true := by rw [bne_iff_ne]; omega
             have HT4 := hide (show r = false by rw [HZ.out, HT3.out.trans (tailV_stop _ _ _ _ hq)])
             clear hq
             go_wp2_with fail
             go_ret
             exact ⟨ret_bool HT4.out.symm, rfl⟩
           ·have hjn' : j = 3 := by omega
            subst hjn'
            have HT3 := hide (show r = (goodV 65536 v && utf8L f (s.data.toList.drop (k + 1 + 3))) by rw [HZ.out, HT2.out]; rfl)
            by_cases hg : v < 65536 ∨ 1114111 < v ∨ (55296 ≤ v ∧ v < 57344)
            ·have HT4 := hide (show r = false by
              rw [HT3.out]
              have : goodV 65536 v = false := by simp [goodV]; omega
              rw [this]; rfl)
             rcases hg with hg | hg | ⟨hg, hg2⟩
             all_goals
              go_wp2_with fail
              all_goals
               go_ret
               exact ⟨ret_bool HT4.out.symm, rfl⟩
            ·have HT4 := hide (show r = utf8L f (s.data.toList.drop (k + 1 + 3)) by
              rw [HT3.out]
              have : goodV 65536 v = true := by simp [goodV]; omega
              rw [this]; rfl)
             have hg' : (65536 ≤ v ∧ v < 55296) ∨ (65536 ≤ v ∧ 57344 ≤ v ∧ v ≤ 1114111) := by omega
             clear hg
             rcases hg' with ⟨hg, hg2⟩ | ⟨hg, hg2, hg3⟩
             all_goals try (exfalso; omega)
             all_goals
              go_wp2_with fail
              go_round
              case rel => exact ⟨k + 1 + 3, f, by omega, by omega, by go_num, HT4⟩
              case measure => simp [intOf]; omega
        ·have HZ := hide (HY.out.trans (if_neg h6))
         go_wp2_with fail
         go_ret
         exact ⟨ret_bool HZ.out.symm, rfl⟩
  ·have HE := hide (drop_string_end s k (by omega))
   go_wp2_with fail
   go_ret
   exact ⟨ret_bool (by rw [H.out, HE.out]; cases f <;> rfl), rfl⟩
end Go.Proofs.YtmgnihmjjijdoaaGreatDoor
namespace Go.Proofs.YtmgnihmjjijdoaaGreatDoor
open Go.RowKit
def validT (kind : Int) (l : List UInt8) : Bool :=
 if kind = 12 then utfL (l.length + 1) l else if kind = 19 then l.all isPrint else if kind = 22 then l.all isIA5 else false
def rvalidT (kind : Int) (l : List UInt8) : Bool :=
 if kind = 12 then utf8L (l.length + 1) l else if kind = 19 then l.all isPrint else if kind = 22 then l.all isIA5 else false
theorem all_print (s : ByteArray) (hs : s.size ≤ maxLen) (w : World) :
  Calls Tryz.prog 170 #[.string s, .func (.func 171) #[] #[]] w fun e w' => e = .returned (.bool (s.data.toList.all isPrint)) ∧ w = w' :=
 all_any isPrint 171 (fun x W => by kernel_rfl) Print_any s hs w
theorem all_ia5 (s : ByteArray) (hs : s.size ≤ maxLen) (w : World) :
  Calls Tryz.prog 170 #[.string s, .func (.func 172) #[] #[]] w fun e w' => e = .returned (.bool (s.data.toList.all isIA5)) ∧ w = w' :=
 all_any isIA5 172 (fun x W => by kernel_rfl) IA5_any s hs w
set_option maxHeartbeats 1000000 in
theorem Valid_any (kind : Int) (s : ByteArray) (hs : s.size ≤ 1000000) (w : World) :
  Calls Tryz.prog 121 #[.int .i64 kind, .string s] w fun e w' => e = .returned (.bool (validT kind s.data.toList)) ∧ Below w.heap.size w w' := by
 have hm : s.size ≤ maxLen := by unfold maxLen; omega
 unfold validT
 rw [size_string]
 by_cases h1 : kind = 12
 ·subst h1
  rw [if_pos rfl]
  go_enter Tryz.func121, Tryz.ntmps121
  go_wp2_with fail
  refine (utf_any s hs _).mono ?_
  rintro e w1 ⟨rfl, hb⟩
  go_wp2_with fail
  go_ret
  exact ⟨rfl, hb⟩
 ·have h1' : (kind == 12) = false := by simpa using h1
  rw [if_neg h1]
  by_cases h2 : kind = 19
  ·subst h2
   rw [if_pos rfl]
   clear h1
   go_enter Tryz.func121, Tryz.ntmps121
   go_wp2_with fail
   refine (all_print s hm _).mono ?_
   rintro e w1 ⟨rfl, rfl⟩
   generalize hb : s.data.toList.all isPrint = b
   have HB := hide hb
   clear hb
   go_wp2_with fail
   go_ret
   exact ⟨ret_bool HB.out.symm, Below.refl _ _⟩
  ·have h2' : (kind == 19) = false := by simpa using h2
   rw [if_neg h2]
   by_cases h3 : kind = 22
   ·subst h3
    rw [if_pos rfl]
    clear h1 h2
    go_enter Tryz.func121, Tryz.ntmps121
    go_wp2_with fail
    refine (all_ia5 s hm _).mono ?_
    rintro e w1 ⟨rfl, rfl⟩
    generalize hb : s.data.toList.all isIA5 = b
    have HB := hide hb
    clear hb
    go_wp2_with fail
    go_ret
    exact ⟨ret_bool HB.out.symm, Below.refl _ _⟩
   ·have h3' : (kind == 22) = false := by simpa using h3
    rw [if_neg h3]
    clear h1 h2 h3
    go_enter Tryz.func121, Tryz.ntmps121
    go_wp2_with fail
    go_ret
    exact ⟨rfl, Below.refl _ _⟩
set_option maxHeartbeats 4000000 in
theorem rValid_any (kind : Int) (s : ByteArray) (hs : s.size ≤ 1000000) (w : World) :
  Calls Tryz.prog 81 #[.int .i64 kind, .string s] w fun e w' => e = .returned (.bool (rvalidT kind s.data.toList)) ∧ w = w' := by
 have hm : s.size ≤ maxLen := by unfold maxLen; omega
 unfold rvalidT
 rw [size_string]
 by_cases h1 : kind = 12
 ·subst h1
  rw [if_pos rfl]
  go_enter Tryz.func81, Tryz.ntmps81
  go_wp2_with fail
  refine (utf8_any s hs _).mono ?_
  rintro e w1 ⟨rfl, rfl⟩
  go_wp2_with fail
  go_ret
  exact ⟨rfl, rfl⟩
 ·have h1' : (kind == 12) = false := by simpa using h1
  rw [if_neg h1]
  by_cases h2 : kind = 19
  ·subst h2
   rw [if_pos rfl]
   clear h1 h1'
   obtain ⟨r, hr⟩ : ∃ r, r = s.data.toList.all isPrint := ⟨_, rfl⟩
   rw [← hr]
   have HR := hide hr
   clear hr
   go_enter Tryz.func81, Tryz.ntmps81
   go_wp2_with fail
   go_loop [5] (fun i => ∃ k : Nat, k ≤ s.size ∧ i = .int .i64 k ∧ Hid (r = (s.data.toList.drop k).all isPrint)) (fun i => s.size - (intOf i).toNat)
   case atStart => exact ⟨0, Nat.zero_le _, rfl, HR⟩
   case round =>
    obtain ⟨k, hk, rfl, H⟩ := hrel
    by_cases hlt : k < s.size
    ·have HD := drop_string s k hlt
     obtain ⟨c, hc⟩ : ∃ c, s[k] = c := ⟨_, rfl⟩
     rw [hc] at HD
     have HX := hide (show r = (isPrint c && (s.data.toList.drop (k + 1)).all isPrint) by rw [H.out, HD, List.all_cons])
     clear HD
     obtain ⟨p, hp⟩ : ∃ p, alnum c = p := ⟨_, rfl⟩
     have HP := hide hp
     go_wp2_with fail
     refine (Alnum_any c _).mono ?_
     rintro e w1 ⟨rfl, rfl⟩
     rw [hp]
     clear hp
     cases p
     ·obtain ⟨q, hq⟩ : ∃ q, printSet.contains c = q := ⟨_, rfl⟩
      have HQ := hide hq
      unfold printSet at hq
      go_wp2_with fail
      refine (Among_any c _ (by decide) _).mono ?_
      rintro e w1 ⟨rfl, rfl⟩
      rw [hq]
      clear hq
      cases q
      ·go_wp2_with fail
       go_ret
       exact ⟨ret_bool (by rw [HX.out, isPrint, HP.out, HQ.out]; rfl), rfl⟩
      ·go_wp2_with fail
       go_round
       case rel => exact ⟨k + 1, by omega, by go_num, hide (by rw [HX.out, isPrint, HP.out, HQ.out]; rfl)⟩
       case measure => simp [intOf]; omega
     ·go_wp2_with fail
      go_round
      case rel => exact ⟨k + 1, by omega, by go_num, hide (by rw [HX.out, isPrint, HP.out]; rfl)⟩
      case measure => simp [intOf]; omega
    ·have HE := hide (drop_string_end s k (by omega))
     go_wp2_with fail
     go_ret
     exact ⟨ret_bool (by rw [H.out, HE.out]; rfl), rfl⟩
  ·have h2' : (kind == 19) = false := by simpa using h2
   rw [if_neg h2]
   by_cases h3 : kind = 22
   ·subst h3
    rw [if_pos rfl]
    clear h1 h2 h1' h2'
    obtain ⟨r, hr⟩ : ∃ r, r = s.data.toList.all isIA5 := ⟨_, rfl⟩
    rw [← hr]
    have HR := hide hr
    clear hr
    go_enter Tryz.func81, Tryz.ntmps81
    go_wp2_with fail
    go_loop [5] (fun i => ∃ k : Nat, k ≤ s.size ∧ i = .int .i64 k ∧ Hid (r = (s.data.toList.drop k).all isIA5)) (fun i => s.size - (intOf i).toNat)
    case atStart => exact ⟨0, Nat.zero_le _, rfl, HR⟩
    case round =>
     obtain ⟨k, hk, rfl, H⟩ := hrel
     by_cases hlt : k < s.size
     ·have HD := drop_string s k hlt
      obtain ⟨c, hc⟩ : ∃ c, s[k] = c := ⟨_, rfl⟩
      rw [hc] at HD
      have hcb := byte_lt c
      have HX := hide (show r = (isIA5 c && (s.data.toList.drop (k + 1)).all isIA5) by rw [H.out, HD, List.all_cons])
      clear HD
      by_cases h4 : (c.toNat : Int) < 32
      ·go_wp2_with fail
       go_ret
       exact ⟨ret_bool (by rw [HX.out]; simp [isIA5]; omega), rfl⟩
      ·by_cases h5 : 126 < (c.toNat : Int)
       ·go_wp2_with fail
        go_ret
        exact ⟨ret_bool (by rw [HX.out]; simp [isIA5]; omega), rfl⟩
       ·go_wp2_with fail
        go_round
        case rel => exact ⟨k + 1, by omega, by go_num, hide (by rw [HX.out]; simp [isIA5]; omega)⟩
        case measure => simp [intOf]; omega
     ·have HE := hide (drop_string_end s k (by omega))
      go_wp2_with fail
      go_ret
      exact ⟨ret_bool (by rw [H.out, HE.out]; rfl), rfl⟩
   ·have h3' : (kind == 22) = false := by simpa using h3
    rw [if_neg h3]
    clear h1 h2 h3
    go_enter Tryz.func81, Tryz.ntmps81
    go_wp2_with fail
    go_ret
    exact ⟨rfl, rfl⟩
end Go.Proofs.YtmgnihmjjijdoaaGreatDoor
namespace Go.Proofs.YtmgnihmjjijdoaaGreatDoor
open Go.RowKit
theorem low_32 (c : UInt8) : low c = 32 ↔ c = 32 := by
 have h : ∀ n : Fin 256, low (UInt8.ofNat n.1) = 32 ↔ UInt8.ofNat n.1 = 32 := by decide +kernel
 have := h ⟨c.toNat, c.toNat_lt⟩
 simpa using this
theorem fold_rfold : ∀ (l out : List UInt8), (out.getLast? ≠ some 32) →
    foldG out false l = rfoldG out (l.map low) ∧ (out ≠ [] → foldG out true l = rfoldG (out ++ [32]) (l.map low))
  | [], out, h1 => by
    refine ⟨?_, fun _ => ?_⟩
    · simp [foldG, rfoldG, h1]
    · simp [foldG, rfoldG]
  | c :: r, out, h1 => by
    by_cases hc : c = 32
    · have hl : low c = 32 := (low_32 c).2 hc
      obtain ⟨i1, i2⟩ := fold_rfold r out h1
      refine ⟨?_, fun ho => ?_⟩
      · rw [foldG, List.map_cons, rfoldG, if_pos hc, hl]
        by_cases ho : out = []
        · subst ho
          rw [if_neg (by simp)]
          exact i1
        · rw [if_pos (.inr ⟨ho, h1⟩)]
          have : (!out.isEmpty) = true := by simp [ho]
          rw [this]
          exact i2 ho
      · rw [foldG, List.map_cons, rfoldG, if_pos hc, hl, if_neg (by simp)]
        have : (!out.isEmpty) = true := by simp [ho]
        rw [this]
        exact i2 ho
    · have hl : low c ≠ 32 := fun h => hc ((low_32 c).1 h)
      refine ⟨?_, fun ho => ?_⟩
      · rw [foldG, List.map_cons, rfoldG, if_neg hc]
        simp only [Bool.false_eq_true, if_false, List.nil_append]
        rw [if_pos (Or.inl hl)]
        exact (fold_rfold r (out ++ [low c]) (by simp [hl])).1
      · rw [foldG, List.map_cons, rfoldG, if_neg hc]
        simp only [if_true]
        rw [if_pos (Or.inl hl), ← List.append_assoc]
        exact (fold_rfold r (out ++ [32] ++ [low c]) (by simp [hl])).1
theorem fold_eq (l : List UInt8) : foldG [] false l = rfoldG [] (l.map low) := by
 exact (fold_rfold l [] (by simp)).1
theorem prefix_239 (c : UInt8) (r : List UInt8) : Lib.hasPrefix (c :: r) [239, 191, 189] = true ↔ c.toNat = 239 ∧ 2 ≤ r.length ∧ (r.getD 0 0).toNat = 191 ∧ (r.getD 1 0).toNat = 189 := by
  have e : ∀ (x : UInt8) (n : UInt8), (n == x) = true ↔ x.toNat = n.toNat := fun x n => by
    rw [beq_iff_eq, ← UInt8.toNat_inj]; omega
  unfold Lib.hasPrefix
  match r with
  | [] => simp [List.isPrefixOf]
  | [a] => simp [List.isPrefixOf]
  | a :: b :: t =>
    simp only [List.isPrefixOf, Bool.and_eq_true, e, List.length_cons, List.getD_cons_zero, List.getD_cons_succ]
    constructor
    · rintro ⟨h1, h2, h3, _⟩; exact ⟨h1, by omega, h2, h3⟩
    · rintro ⟨h1, _, h2, h3⟩; exact ⟨h1, h2, h3, trivial⟩
theorem utf_bad (f : Nat) (c : UInt8) (r : List UInt8) (hd : Lib.decodeL (c :: r) = (65533, 1)) (hp : ¬ Lib.hasPrefix (c :: r) [239, 191, 189] = true) : utfL (f + 1) (c :: r) = false := by
 rw [utfL, hd, if_neg (by decide), if_pos ⟨rfl, by simpa using hp⟩]
theorem utf_good (f : Nat) (c : UInt8) (r : List UInt8) (x m : Nat) (hd : Lib.decodeL (c :: r) = (x, m + 1)) (hx : 128 ≤ x) (hp : x = 65533 → Lib.hasPrefix (c :: r) [239, 191, 189] = true) : utfL (f + 1) (c :: r) = utfL f (r.drop m) := by
 rw [utfL, hd, if_neg (by simp only; omega), if_neg (by rintro ⟨h1, h2⟩; rw [hp h1] at h2; cases h2)]
 rfl
theorem utf_eq : ∀ (f : Nat) (l : List UInt8), utfL f l = utf8L f l
  | 0, _ => rfl
  | f + 1, [] => rfl
  | f + 1, c :: r => by
    have hc := c.toNat_lt
    have hN := Lib.decodeL_N (c :: r)
    simp only [List.length_cons, List.getD_cons_zero, List.getD_cons_succ] at hN
    have hpre := prefix_239 c r
    have h1 := (r.getD 0 0).toNat_lt
    have h2 := (r.getD 1 0).toNat_lt
    have h3 := (r.getD 2 0).toNat_lt
    by_cases c1 : c.toNat < 128
    · -- one byte
      have hd : Lib.decodeL (c :: r) = (c.toNat, 1) := by rw [hN, Lib.decodeN, if_pos c1]
      rw [utfL, hd, utf8L]
      simp only
      by_cases c2 : c.toNat < 32 ∨ c.toNat = 127
      · rw [if_pos c2, if_pos c2]
      · rw [if_neg c2, if_neg c2, if_neg (by omega), if_pos c1]
        exact utf_eq f r
    rw [utf8L, if_neg (by omega), if_neg c1]
    by_cases c2 : c.toNat < 192
    · rw [if_pos c2]
      exact utf_bad f c r (by rw [hN, Lib.decodeN, if_neg c1, if_neg (by omega), if_neg (by omega), if_neg (by omega)]) (by rw [hpre]; omega)
    rw [if_neg c2]
    by_cases c3 : c.toNat < 224
    · -- two bytes
      rw [if_pos c3, utf8Step]
      by_cases hl : r.length < 1
      · rw [if_pos hl]
        exact utf_bad f c r (by rw [hN, Lib.decodeN, if_neg c1, if_neg (by omega), if_neg (by omega), if_neg (by omega)]) (by rw [hpre]; omega)
      rw [if_neg hl]
      match r, hl with
      | a :: t, _ =>
        simp only [List.length_cons, List.getD_cons_zero, List.getD_cons_succ] at hN hpre h1 h2 h3
        by_cases ha : a.toNat / 64 = 2
        · rw [tailV, if_pos ha, tailV]
          by_cases hv : c.toNat % 32 * 64 + a.toNat % 64 ≥ 128
          · have hg : goodV 128 (64 * (c.toNat % 32) + a.toNat % 64) = true := by simp [goodV]; omega
            simp only [hg, Bool.true_and]
            have := utf_good f c (a :: t) _ 1 (by rw [hN, Lib.decodeN, if_neg c1, if_pos ⟨by omega, by omega, ha⟩, if_pos hv]) (by omega) (by omega)
            rw [this, utf_eq f]
          · have hg : goodV 128 (64 * (c.toNat % 32) + a.toNat % 64) = false := by simp [goodV]; omega
            simp only [hg, Bool.false_and]
            exact utf_bad f c (a :: t) (by rw [hN, Lib.decodeN, if_neg c1, if_pos ⟨by omega, by omega, ha⟩, if_neg hv]) (by rw [hpre]; omega)
        · rw [tailV, if_neg ha]
          exact utf_bad f c (a :: t) (by rw [hN, Lib.decodeN, if_neg c1, if_neg (by omega), if_neg (by omega), if_neg (by omega)]) (by rw [hpre]; omega)
    rw [if_neg c3]
    by_cases c4 : c.toNat < 240
    · -- three bytes
      rw [if_pos c4, utf8Step]
      by_cases hl : r.length < 2
      · rw [if_pos hl]
        exact utf_bad f c r (by rw [hN, Lib.decodeN, if_neg c1, if_neg (by omega), if_neg (by omega), if_neg (by omega)]) (by rw [hpre]; omega)
      rw [if_neg hl]
      match r, hl with
      | [_], hl => simp at hl
      | a :: b :: t, _ =>
        simp only [List.length_cons, List.getD_cons_zero, List.getD_cons_succ] at hN hpre h1 h2 h3
        by_cases ha : a.toNat / 64 = 2
        · rw [tailV, if_pos ha]
          by_cases hb : b.toNat / 64 = 2
          · rw [tailV, if_pos hb, tailV]
            by_cases hv : c.toNat % 16 * 4096 + a.toNat % 64 * 64 + b.toNat % 64 ≥ 2048 ∧ (c.toNat % 16 * 4096 + a.toNat % 64 * 64 + b.toNat % 64 < 55296 ∨ (57344 ≤ c.toNat % 16 * 4096 + a.toNat % 64 * 64 + b.toNat % 64 ∧ c.toNat % 16 * 4096 + a.toNat % 64 * 64 + b.toNat % 64 ≤ 1114111))
            · have hg : goodV 2048 (64 * (64 * (c.toNat % 16) + a.toNat % 64) + b.toNat % 64) = true := by simp [goodV]; omega
              simp only [hg, Bool.true_and]
              have := utf_good f c (a :: b :: t) _ 2 (by rw [hN, Lib.decodeN, if_neg c1, if_neg (by omega), if_pos ⟨by omega, ⟨by omega, ha⟩, by omega, hb⟩, if_pos hv]) (by omega) (by rw [hpre]; omega)
              rw [this, utf_eq f]
            · have hg : goodV 2048 (64 * (64 * (c.toNat % 16) + a.toNat % 64) + b.toNat % 64) = false := by simp [goodV]; omega
              simp only [hg, Bool.false_and]
              exact utf_bad f c (a :: b :: t) (by rw [hN, Lib.decodeN, if_neg c1, if_neg (by omega), if_pos ⟨by omega, ⟨by omega, ha⟩, by omega, hb⟩, if_neg hv]) (by rw [hpre]; omega)
          · rw [tailV, if_neg hb]
            exact utf_bad f c (a :: b :: t) (by rw [hN, Lib.decodeN, if_neg c1, if_neg (by omega), if_neg (by omega), if_neg (by omega)]) (by rw [hpre]; omega)
        · rw [tailV, if_neg ha]
          exact utf_bad f c (a :: b :: t) (by rw [hN, Lib.decodeN, if_neg c1, if_neg (by omega), if_neg (by omega), if_neg (by omega)]) (by rw [hpre]; omega)
    rw [if_neg c4]
    by_cases c5 : c.toNat < 248
    · -- four bytes
      rw [if_pos c5, utf8Step]
      by_cases hl : r.length < 3
      · rw [if_pos hl]
        exact utf_bad f c r (by rw [hN, Lib.decodeN, if_neg c1, if_neg (by omega), if_neg (by omega), if_neg (by omega)]) (by rw [hpre]; omega)
      rw [if_neg hl]
      match r, hl with
      | [_], hl => simp at hl
      | [_, _], hl => simp at hl
      | a :: b :: d :: t, _ =>
        simp only [List.length_cons, List.getD_cons_zero, List.getD_cons_succ] at hN hpre h1 h2 h3
        by_cases ha : a.toNat / 64 = 2
        · rw [tailV, if_pos ha]
          by_cases hb : b.toNat / 64 = 2
          · rw [tailV, if_pos hb]
            by_cases he : d.toNat / 64 = 2
            · rw [tailV, if_pos he, tailV]
              by_cases hv : c.toNat % 8 * 262144 + a.toNat % 64 * 4096 + b.toNat % 64 * 64 + d.toNat % 64 ≥ 65536 ∧ (c.toNat % 8 * 262144 + a.toNat % 64 * 4096 + b.toNat % 64 * 64 + d.toNat % 64 < 55296 ∨ (57344 ≤ c.toNat % 8 * 262144 + a.toNat % 64 * 4096 + b.toNat % 64 * 64 + d.toNat % 64 ∧ c.toNat % 8 * 262144 + a.toNat % 64 * 4096 + b.toNat % 64 * 64 + d.toNat % 64 ≤ 1114111))
              · have hg : goodV 65536 (64 * (64 * (64 * (c.toNat % 8) + a.toNat % 64) + b.toNat % 64) + d.toNat % 64) = true := by simp [goodV]; omega
                simp only [hg, Bool.true_and]
                have := utf_good f c (a :: b :: d :: t) _ 3 (by rw [hN, Lib.decodeN, if_neg c1, if_neg (by omega), if_neg (by omega), if_pos ⟨by omega, ⟨by omega, ha⟩, ⟨by omega, hb⟩, by omega, he⟩, if_pos hv]) (by omega) (by rw [hpre]; omega)
                rw [this, utf_eq f]
              · have hg : goodV 65536 (64 * (64 * (64 * (c.toNat % 8) + a.toNat % 64) + b.toNat % 64) + d.toNat % 64) = false := by simp [goodV]; omega
                simp only [hg, Bool.false_and]
                exact utf_bad f c (a :: b :: d :: t) (by rw [hN, Lib.decodeN, if_neg c1, if_neg (by omega), if_neg (by omega), if_pos ⟨by omega, ⟨by omega, ha⟩, ⟨by omega, hb⟩, by omega, he⟩, if_neg hv]) (by rw [hpre]; omega)
            · rw [tailV, if_neg he]
              exact utf_bad f c (a :: b :: d :: t) (by rw [hN, Lib.decodeN, if_neg c1, if_neg (by omega), if_neg (by omega), if_neg (by omega)]) (by rw [hpre]; omega)
          · rw [tailV, if_neg hb]
            exact utf_bad f c (a :: b :: d :: t) (by rw [hN, Lib.decodeN, if_neg c1, if_neg (by omega), if_neg (by omega), if_neg (by omega)]) (by rw [hpre]; omega)
        · rw [tailV, if_neg ha]
          exact utf_bad f c (a :: b :: d :: t) (by rw [hN, Lib.decodeN, if_neg c1, if_neg (by omega), if_neg (by omega), if_neg (by omega)]) (by rw [hpre]; omega)
    rw [if_neg c5]
    exact utf_bad f c r (by rw [hN, Lib.decodeN, if_neg c1, if_neg (by omega), if_neg (by omega), if_neg (by omega)]) (by rw [hpre]; omega)
theorem valid_eq (kind : Int) (l : List UInt8) : validT kind l = rvalidT kind l := by
 unfold validT rvalidT
 rw [utf_eq]
theorem plain_92 (c : UInt8) (h : isPlain c = true) : c ≠ 92 := by
 rintro rfl
 revert h
 decide
theorem nib_hexd (n : Nat) (h : n < 16) : nibI (hexd n) = (n : Int) := by
 have e : ∀ n : Fin 16, nibI (hexd n.1) = (n.1 : Int) := by decide
 exact e ⟨n, h⟩
theorem hexd_nib (c : UInt8) (h : ¬ nibI c < 0) : hexd (nibI c).toNat = c := by
 have e : ∀ n : Fin 256, ¬ nibI (UInt8.ofNat n.1) < 0 → hexd (nibI (UInt8.ofNat n.1)).toNat = UInt8.ofNat n.1 := by decide +kernel
 have := e ⟨c.toNat, c.toNat_lt⟩
 simp only [UInt8.ofNat_toNat] at this
 exact this h
theorem byte_back (c : UInt8) : UInt8.ofNat (nibI (hexd (c.toNat / 16)) * 16 + nibI (hexd (c.toNat % 16))).toNat = c := by
 have hc := c.toNat_lt
 rw [nib_hexd _ (by omega), nib_hexd _ (by omega)]
 have : (((c.toNat / 16 : Nat) : Int) * 16 + ((c.toNat % 16 : Nat) : Int)).toNat = c.toNat := by omega
 rw [this, UInt8.ofNat_toNat]
theorem hex_two (a b : UInt8) (ha : ¬ nibI a < 0) (hb : ¬ nibI b < 0) :
  (UInt8.ofNat (nibI a * 16 + nibI b).toNat).toNat / 16 = (nibI a).toNat ∧ (UInt8.ofNat (nibI a * 16 + nibI b).toNat).toNat % 16 = (nibI b).toNat := by
 have h1 := nibI_bd a
 have h2 := nibI_bd b
 rw [UInt8.toNat_ofNat']
 omega
theorem unesc_escape : ∀ (n : Nat) (o : List UInt8), o.length < n → unescL n (o.flatMap escB) = some o
  | 0, _, h => by omega
  | n + 1, [], _ => rfl
  | n + 1, c :: o, h => by
    have ih := unesc_escape n o (by simp at h; omega)
    rw [List.flatMap_cons, escB]
    by_cases hp : isPlain c = true
    · rw [if_pos hp, List.singleton_append, unescL, if_pos hp, ih]
      rfl
    · have hc := c.toNat_lt
      have h92 : isPlain 92 = false := by decide
      rw [if_neg hp, List.cons_append, List.cons_append, List.cons_append, List.nil_append, unescL, if_neg (by rw [h92]; simp), if_neg (by simp)]
      have g0 : ∀ t : List UInt8, (hexd (c.toNat / 16) :: hexd (c.toNat % 16) :: t).getD 0 0 = hexd (c.toNat / 16) := fun _ => rfl
      have g1 : ∀ t : List UInt8, (hexd (c.toNat / 16) :: hexd (c.toNat % 16) :: t).getD 1 0 = hexd (c.toNat % 16) := fun _ => rfl
      have g2 : ∀ t : List UInt8, (hexd (c.toNat / 16) :: hexd (c.toNat % 16) :: t).drop 2 = t := fun _ => rfl
      rw [g0, g1, g2, byte_back, nib_hexd _ (by omega), nib_hexd _ (by omega), if_neg (by simp [hp]; omega), ih]
      rfl
theorem escape_unesc : ∀ (n : Nat) (l o : List UInt8), unescL n l = some o → o.flatMap escB = l
  | 0, _, _, h => by cases h
  | n + 1, [], o, h => by cases h; rfl
  | n + 1, c :: r, o, h => by
    rw [unescL] at h
    by_cases hp : isPlain c = true
    · rw [if_pos hp] at h
      obtain ⟨o', h1, rfl⟩ := Option.map_eq_some_iff.1 h
      rw [List.flatMap_cons, escape_unesc n r o' h1, escB, if_pos hp]
      rfl
    · rw [if_neg hp] at h
      by_cases h2 : c ≠ 92 ∨ r.length < 2
      · rw [if_pos h2] at h; cases h
      · rw [if_neg h2] at h
        have hc : c = 92 := by
          by_cases e : c = 92
          · exact e
          · exact absurd (.inl e) h2
        match r, h2 with
        | [], h2 => simp at h2
        | [_], h2 => simp at h2
        | a :: b :: t, _ =>
          have g0 : (a :: b :: t).getD 0 0 = a := rfl
          have g1 : (a :: b :: t).getD 1 0 = b := rfl
          have g2 : (a :: b :: t).drop 2 = t := rfl
          rw [g0, g1, g2] at h
          by_cases h3 : nibI a < 0 ∨ nibI b < 0 ∨ isPlain (UInt8.ofNat (nibI a * 16 + nibI b).toNat) = true
          · rw [if_pos h3] at h; cases h
          · rw [if_neg h3] at h
            obtain ⟨o', h1, rfl⟩ := Option.map_eq_some_iff.1 h
            have ha : ¬ nibI a < 0 := fun e => h3 (.inl e)
            have hb : ¬ nibI b < 0 := fun e => h3 (.inr (.inl e))
            have hq : ¬ isPlain (UInt8.ofNat (nibI a * 16 + nibI b).toNat) = true := fun e => h3 (.inr (.inr e))
            rw [List.flatMap_cons, escape_unesc n t o' h1, escB, if_neg hq, (hex_two a b ha hb).1, (hex_two a b ha hb).2, hexd_nib a ha, hexd_nib b hb, hc]
            rfl
theorem runesc_escape : ∀ (n : Nat) (o : List UInt8), o.length < n → runescL n (o.flatMap escB) = some o
  | 0, _, h => by omega
  | n + 1, [], _ => rfl
  | n + 1, c :: o, h => by
    have ih := runesc_escape n o (by simp at h; omega)
    rw [List.flatMap_cons, escB]
    by_cases hp : isPlain c = true
    · rw [if_pos hp, List.singleton_append, runescL, if_pos (plain_92 c hp), ih]
      rfl
    · have hc := c.toNat_lt
      rw [if_neg hp, List.cons_append, List.cons_append, List.cons_append, List.nil_append, runescL, if_neg (by simp), if_neg (by simp)]
      have g2 : ∀ t : List UInt8, (hexd (c.toNat / 16) :: hexd (c.toNat % 16) :: t).drop 2 = t := fun _ => rfl
      have g3 : ∀ t : List UInt8, (hexd (c.toNat / 16) :: hexd (c.toNat % 16) :: t).take 2 = [hexd (c.toNat / 16), hexd (c.toNat % 16)] := fun _ => rfl
      have hb := byte_back c
      have hx : unhexL [hexd (c.toNat / 16), hexd (c.toNat % 16)] = some [c] := by
        rw [unhexL, nib_hexd _ (by omega), nib_hexd _ (by omega), if_neg (by omega), unhexL]
        rw [nib_hexd _ (by omega), nib_hexd _ (by omega), Int.mul_comm] at hb
        rw [hb]
        rfl
      rw [g2, g3, hx, ih]
      rfl
theorem esc_len (o : List UInt8) : o.length ≤ (o.flatMap escB).length := by
  induction o with
  | nil => simp
  | cons c o ih =>
    rw [List.flatMap_cons, List.length_append, List.length_cons]
    have : 1 ≤ (escB c).length := by unfold escB; split <;> simp
    omega
theorem unesc_iff (l o : List UInt8) : unesc l = some o ↔ o.flatMap escB = l := by
 constructor
 ·exact escape_unesc _ l o
 ·rintro rfl
  exact unesc_escape _ o (by have := esc_len o; omega)
theorem runesc_iff (l o : List UInt8) : runesc l = some o ↔ o.flatMap escB = l := by
  constructor
  · intro h
    unfold runesc at h
    cases hq : runescL (l.length + 1) l with
    | none => rw [hq] at h; cases h
    | some q =>
      rw [hq, runescE] at h
      by_cases he : q.flatMap escB = l
      · rw [if_pos he] at h; cases h; exact he
      · rw [if_neg he] at h; cases h
  · rintro rfl
    rw [runesc, runesc_escape _ o (by have := esc_len o; omega), runescE, if_pos rfl]
theorem unesc_eq (l : List UInt8) : unesc l = runesc l := by
  cases h : runesc l with
  | some o => exact (unesc_iff l o).2 ((runesc_iff l o).1 h)
  | none =>
    cases h2 : unesc l with
    | none => rfl
    | some o => rw [(runesc_iff l o).2 ((unesc_iff l o).1 h2)] at h; cases h
end Go.Proofs.YtmgnihmjjijdoaaGreatDoor
