/- The functions of package text and its reference: what each computes, by walking its code. First part: single bytes, Valid of the kinds of bytes. -/
import Derived.Test.YtbhcjohkbaaeiaaLib
import Derived.Test.YtbhcjohkbaaeiaaShelf
import Derived.Lib.IndexAny
namespace Go.Proofs.Ytbhcjohkbaaeiaa
open Go.RowKit

def letterB (c : Int) : Bool := decide (97 ≤ c) && decide (c ≤ 122) || decide (65 ≤ c) && decide (c ≤ 90) || decide (48 ≤ c) && decide (c ≤ 57)
def alnum (c : UInt8) : Bool := letterB (c.toNat : Int)
def plainSet : List UInt8 := [32, 39, 40, 41, 45, 46, 47, 58, 63, 64, 95]
def printSet : List UInt8 := [32, 39, 40, 41, 43, 44, 45, 46, 47, 58, 61, 63]
def isPlain (c : UInt8) : Bool := alnum c || plainSet.contains c
def isPrint (c : UInt8) : Bool := alnum c || printSet.contains c
def isIA5 (c : UInt8) : Bool := decide (32 ≤ (c.toNat : Int)) && decide ((c.toNat : Int) ≤ 126)

set_option maxHeartbeats 400000 in
theorem letter_any (c : UInt8) (w : World) :
    Calls Try.prog 24 #[.int .u8 (c.toNat : Int)] w fun e w' => e = .returned (.bool (alnum c)) ∧ w = w' := by
  unfold alnum
  generalize (c.toNat : Int) = c
  go_enter Try.func24, Try.ntmps24
  go_wp2
  all_goals go_ret
  all_goals (refine ⟨ret_bool ?_, rfl⟩; unfold letterB; rw [Bool.eq_iff_iff]; simp; omega)

set_option maxHeartbeats 400000 in
theorem Alnum_any (c : UInt8) (w : World) :
    Calls Try.prog 28 #[.int .u8 (c.toNat : Int)] w fun e w' => e = .returned (.bool (alnum c)) ∧ w = w' := by
  unfold alnum
  generalize (c.toNat : Int) = c
  go_enter Try.func28, Try.ntmps28
  go_wp2
  all_goals go_ret
  all_goals (refine ⟨ret_bool ?_, rfl⟩; unfold letterB; rw [Bool.eq_iff_iff]; simp; omega)

theorem byte_beq (a b : UInt8) : ((a.toNat : Int) == (b.toNat : Int)) = (a == b) := by
  rw [Bool.eq_iff_iff]
  simp only [beq_iff_eq]
  constructor
  · intro h
    exact UInt8.toNat_inj.1 (by omega)
  · rintro rfl; rfl

set_option maxHeartbeats 400000 in
theorem Among_any (c : UInt8) (s : ByteArray) (hs : s.size ≤ maxLen) (w : World) :
    Calls Try.prog 29 #[.int .u8 (c.toNat : Int), .string s] w fun e w' => e = .returned (.bool (s.data.toList.contains c)) ∧ w = w' := by
  unfold maxLen at hs
  obtain ⟨r, hr⟩ : ∃ r, r = s.data.toList.contains c := ⟨_, rfl⟩
  rw [← hr]
  have HR := hide hr
  clear hr
  go_enter Try.func29, Try.ntmps29
  go_wp2
  go_loop [5] (fun i => ∃ k : Nat, k ≤ s.size ∧ i = .int .i64 k ∧ Hid (r = (s.data.toList.drop k).contains c)) (fun i => s.size - (intOf i).toNat)
  case atStart => exact ⟨0, Nat.zero_le _, rfl, HR⟩
  case round =>
    obtain ⟨k, hk, rfl, H⟩ := hrel
    by_cases hlt : k < s.size
    · have hd := drop_string s k hlt
      have hb := byte_beq s[k] c
      have H2 : Hid (r = (s.data.toList.drop k).contains c ∧ s.data.toList.drop k = s[k] :: s.data.toList.drop (k + 1)) := ⟨H, hd⟩
      clear hd H
      by_cases hc : s[k] = c
      · have hb' : ((s[k].toNat : Int) == (c.toNat : Int)) = true := by simp [hb, hc]
        have H3 := hide hc
        clear hc hb
        go_wp2
        go_ret
        refine ⟨ret_bool ?_, rfl⟩
        obtain ⟨h1, h2⟩ := H2
        rw [h1, h2, H3.out]
        simp
      · have hb' : ((s[k].toNat : Int) == (c.toNat : Int)) = false := by simp [hb, hc]
        have H3 := hide hc
        clear hc hb
        go_wp2
        go_round
        case rel =>
          refine ⟨k + 1, by omega, by go_num, ?_⟩
          obtain ⟨h1, h2⟩ := H2
          have h3 := H3.out
          show r = _
          rw [h1, h2, List.contains_cons]
          simp [Ne.symm h3]
        case measure => simp [intOf]; omega
    · have H2 := hide (drop_string_end s k (by omega))
      go_wp2
      go_ret
      refine ⟨ret_bool ?_, rfl⟩
      rw [H.out, H2.out]
      simp

theorem indexByte_ge0 (l : List UInt8) (c : UInt8) : decide (0 ≤ Lib.indexByte l (c.toNat : Int).toNat.toUInt8) = l.contains c := by
  rw [toUInt8_byte, ← Lib.contains_iff_indexByte]

set_option maxHeartbeats 400000 in
theorem Print_any (c : UInt8) (w : World) :
    Calls Try.prog 23 #[.int .u8 (c.toNat : Int)] w fun e w' => e = .returned (.bool (isPrint c)) ∧ w = w' := by
  have hi := indexByte_ge0 printSet c
  unfold printSet at hi
  have H := hide hi
  clear hi
  have hb := byte_lt c
  by_cases hl : alnum c = true
  · have H2 := hide hl
    go_enter Try.func23, Try.ntmps23
    go_wp2_with fail
    refine (letter_any c _).mono ?_
    rintro e w' ⟨rfl, rfl⟩
    go_wp2_with fail
    go_ret
    exact ⟨ret_bool (by simp [isPrint, H2.out]), rfl⟩
  · have H2 := hide hl
    go_enter Try.func23, Try.ntmps23
    go_wp2_with fail
    refine (letter_any c _).mono ?_
    rintro e w' ⟨rfl, rfl⟩
    go_wp2_with fail
    refine (Try.strings_IndexByte _ _ _).mono ?_
    rintro e w' ⟨rfl, rfl⟩
    go_wp2_with fail
    go_ret
    refine ⟨ret_bool ?_, rfl⟩
    unfold isPrint printSet
    rw [← H.out]
    simp [H2.out]

set_option maxHeartbeats 400000 in
theorem IA5_any (c : UInt8) (w : World) :
    Calls Try.prog 26 #[.int .u8 (c.toNat : Int)] w fun e w' => e = .returned (.bool (isIA5 c)) ∧ w = w' := by
  unfold isIA5
  generalize (c.toNat : Int) = c
  go_enter Try.func26, Try.ntmps26
  go_wp2
  all_goals go_ret
  all_goals (refine ⟨ret_bool ?_, rfl⟩; rw [Bool.eq_iff_iff]; simp; omega)
end Go.Proofs.Ytbhcjohkbaaeiaa
