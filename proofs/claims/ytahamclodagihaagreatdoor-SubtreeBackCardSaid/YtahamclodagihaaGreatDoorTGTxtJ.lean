/- The functions of package text and its reference, tenth part: well-formed UTF-8, Valid. -/
import Derived.Test.YtahamclodagihaaGreatDoorTGTxtA
import Derived.Lib.TrimUEq
namespace Go.Proofs.YtahamclodagihaaGreatDoor
open Go.RowKit
def utfL : Nat → List UInt8 → Bool
  | 0, _ => true
  | _ + 1, [] => true
  | f + 1, c :: r =>
    if (Lib.decodeL (c :: r)).1 < 32 ∨ (Lib.decodeL (c :: r)).1 = 127 then false else
    if (Lib.decodeL (c :: r)).1 = 65533 ∧ Lib.hasPrefix (c :: r) [239, 191, 189] = false then false else
    utfL f ((c :: r).drop (Lib.decodeL (c :: r)).2)
set_option maxHeartbeats 2000000 in
theorem utf_any (s : ByteArray) (_hs : s.size ≤ 1000000) (w : World) :
  Calls Tryz.prog 165 #[.string s] w fun e w' => e = .returned (.bool (utfL (s.size + 1) s.data.toList)) ∧ Below w.heap.size w w' := by
 obtain ⟨r, hr⟩ : ∃ r, r = utfL (s.size + 1) s.data.toList := ⟨_, rfl⟩
 rw [← hr]
 have HR := hide hr
 clear hr
 have hbw : ∀ p, Below w.heap.size w (w.iter s p) := fun p => (Below.refl _ _).alloc (Nat.le_refl _) _
 go_enter Tryz.func165, Tryz.ntmps165
 go_wp2_with fail
 go_loopw [3, 4] (fun _ _ wr => ∃ (k n : Nat), s.size < k + n ∧ wr = w.iter s k ∧ Hid (r = utfL n (s.data.toList.drop k))) (fun _ _ wr => s.size - wr.iterPos w.heap.size)
 case atStart => exact ⟨0, s.size + 1, by omega, rfl, HR⟩
 case round =>
  obtain ⟨k, n, hn, rfl, H⟩ := hrel
  by_cases hlt : k < s.size
  ·obtain ⟨n, rfl⟩ : ∃ m, n = m + 1 := ⟨n - 1, by omega⟩
   have hd := drop_string s k hlt
   have hdec := Lib.decodeL_drop s k
   have hnext := fun ty => run_next_any (P := Tryz.prog) w s k ty hlt
   have hpos := Lib.width_pos s k
   have hle := Lib.rune_le s k
   obtain ⟨x, hx⟩ : ∃ x, (Utf8.decode s k).1 = x := ⟨_, rfl⟩
   obtain ⟨m, hm⟩ : ∃ m, (Utf8.decode s k).2 = m := ⟨_, rfl⟩
   rw [hx] at hle
   rw [hm] at hpos
   have HX := hide (show r = if x < 32 ∨ x = 127 then false else if x = 65533 ∧ Lib.hasPrefix (s.data.toList.drop k) [239, 191, 189] = false then false else utfL n (s.data.toList.drop (k + m)) by
    rw [H.out]
    rw [hd] at hdec ⊢
    rw [utfL, hdec, hx, hm, ← hd, List.drop_drop])
   have HE := hide (Lib.extract_to_end s k)
   rw [hx, hm] at hnext
   clear hd hdec hx hm H
   by_cases h1 : x < 32
   ·have HY := hide (HX.out.trans (if_pos (.inl h1)))
    go_wp2_with fail
    go_ret
    exact ⟨ret_bool HY.out.symm, hbw _⟩
   ·by_cases h2 : x = 127
    ·subst h2
     have HY := hide (HX.out.trans (if_pos (.inr rfl)))
     go_wp2_with fail
     go_ret
     exact ⟨ret_bool HY.out.symm, hbw _⟩
    ·have h2' : ((x : Int) == 127) = false := by simp; omega
     have HY := hide (HX.out.trans (if_neg (by omega)))
     by_cases h3 : x = 65533
     ·subst h3
      clear h1 h2 h2' HX
      obtain ⟨p, hp⟩ : ∃ p, Lib.hasPrefix (s.data.toList.drop k) [239, 191, 189] = p := ⟨_, rfl⟩
      have HP := hide hp
      clear hp
      go_wp2_with fail
      refine (Tryz.strings_HasPrefix _ _ _).mono ?_
      rintro e w' ⟨rfl, rfl⟩
      have hpp : Lib.hasPrefix (s.extract k s.size).data.toList (⟨#[239, 191, 189]⟩ : ByteArray).data.toList = p := by rw [HE.out, ← HP.out]
      rw [hpp]
      clear hpp
      cases p
      ·go_wp2_with fail
       go_ret
       exact ⟨ret_bool (by rw [HY.out]; simp [HP.out]), hbw _⟩
      ·go_wp2_with fail
       go_roundw
       case rel => exact ⟨k + m, n, by omega, rfl, hide (by rw [HY.out]; simp [HP.out])⟩
       case measure => simp; omega
     ·have h3' : ((x : Int) == 65533) = false := by simp; omega
      have HZ := hide (HY.out.trans (if_neg (by omega)))
      clear HY HX h2 h3
      go_wp2_with fail
      go_roundw
      case rel => exact ⟨k + m, n, by omega, rfl, HZ⟩
      case measure => simp; omega
  ·have hnext := fun ty => run_next_end (P := Tryz.prog) w s k ty hlt
   have HE := hide (drop_string_end s k (by omega))
   go_wp2_with fail
   go_ret
   exact ⟨ret_bool (by rw [H.out, HE.out]; cases n <;> rfl), hbw _⟩
end Go.Proofs.YtahamclodagihaaGreatDoor
namespace Go.Proofs.YtahamclodagihaaGreatDoor
open Go.RowKit
def validT (kind : Int) (l : List UInt8) : Bool :=
 if kind = 12 then utfL (l.length + 1) l else if kind = 19 then l.all isPrint else if kind = 22 then l.all isIA5 else false
theorem all_print (s : ByteArray) (hs : s.size ≤ maxLen) (w : World) :
  Calls Tryz.prog 166 #[.string s, .func (.func 167) #[] #[]] w fun e w' => e = .returned (.bool (s.data.toList.all isPrint)) ∧ w = w' :=
 all_any isPrint 167 (fun x W => by kernel_rfl) Print_any s hs w
theorem all_ia5 (s : ByteArray) (hs : s.size ≤ maxLen) (w : World) :
  Calls Tryz.prog 166 #[.string s, .func (.func 169) #[] #[]] w fun e w' => e = .returned (.bool (s.data.toList.all isIA5)) ∧ w = w' :=
 all_any isIA5 169 (fun x W => by kernel_rfl) IA5_any s hs w
set_option maxHeartbeats 1000000 in
theorem Valid_any (kind : Int) (s : ByteArray) (hs : s.size ≤ 1000000) (w : World) :
  Calls Tryz.prog 120 #[.int .i64 kind, .string s] w fun e w' => e = .returned (.bool (validT kind s.data.toList)) ∧ Below w.heap.size w w' := by
 have hm : s.size ≤ maxLen := by unfold maxLen; omega
 unfold validT
 rw [size_string]
 by_cases h1 : kind = 12
 ·subst h1
  rw [if_pos rfl]
  go_enter Tryz.func120, Tryz.ntmps120
  go_wp2_with fail
  refine (utf_any s hs _).mono ?_
  rintro e w1 ⟨rfl, hb⟩
  go_wp2_with fail
  go_ret
  exact ⟨rfl, hb⟩
 ·have h1' : (kind == 12) = false := by simpa using h1
  rw [if_neg h1]
  by_cases h2 : kind = 19
  ·subst h2
   rw [if_pos rfl]
   clear h1
   go_enter Tryz.func120, Tryz.ntmps120
   go_wp2_with fail
   refine (all_print s hm _).mono ?_
   rintro e w1 ⟨rfl, rfl⟩
   generalize hb : s.data.toList.all isPrint = b
   have HB := hide hb
   clear hb
   go_wp2_with fail
   go_ret
   exact ⟨ret_bool HB.out.symm, Below.refl _ _⟩
  ·have h2' : (kind == 19) = false := by simpa using h2
   rw [if_neg h2]
   by_cases h3 : kind = 22
   ·subst h3
    rw [if_pos rfl]
    clear h1 h2
    go_enter Tryz.func120, Tryz.ntmps120
    go_wp2_with fail
    refine (all_ia5 s hm _).mono ?_
    rintro e w1 ⟨rfl, rfl⟩
    generalize hb : s.data.toList.all isIA5 = b
    have HB := hide hb
    clear hb
    go_wp2_with fail
    go_ret
    exact ⟨ret_bool HB.out.symm, Below.refl _ _⟩
   ·have h3' : (kind == 22) = false := by simpa using h3
    rw [if_neg h3]
    clear h1 h2 h3
    go_enter Tryz.func120, Tryz.ntmps120
    go_wp2_with fail
    go_ret
    exact ⟨rfl, Below.refl _ _⟩
end Go.Proofs.YtahamclodagihaaGreatDoor
namespace Go.Proofs.YtahamclodagihaaGreatDoor
open Go.RowKit
end Go.Proofs.YtahamclodagihaaGreatDoor
