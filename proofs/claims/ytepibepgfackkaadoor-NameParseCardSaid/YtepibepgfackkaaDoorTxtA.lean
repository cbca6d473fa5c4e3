/- The functions of package text and its reference: what each computes, by walking its code. First part: single bytes, Valid of the kinds of bytes. -/
import Derived.Test.YtepibepgfackkaaDoorLib
import Derived.Test.YtepibepgfackkaaDoorShelf
import Derived.Lib.IndexAny
namespace Go.Proofs.YtepibepgfackkaaDoor
open Go.RowKit

def letterB (c : Int) : Bool := decide (97 ≤ c) && decide (c ≤ 122) || decide (65 ≤ c) && decide (c ≤ 90) || decide (48 ≤ c) && decide (c ≤ 57)
def alnum (c : UInt8) : Bool := letterB (c.toNat : Int)
def plainSet : List UInt8 := [32, 39, 40, 41, 45, 46, 47, 58, 63, 64, 95]
def printSet : List UInt8 := [32, 39, 40, 41, 43, 44, 45, 46, 47, 58, 61, 63]
def isPlain (c : UInt8) : Bool := alnum c || plainSet.contains c
def isPrint (c : UInt8) : Bool := alnum c || printSet.contains c
def isIA5 (c : UInt8) : Bool := decide (32 ≤ (c.toNat : Int)) && decide ((c.toNat : Int) ≤ 126)

set_option maxHeartbeats 400000 in
theorem letter_any (c : UInt8) (w : World) :
    Calls Tryd.prog 76 #[.int .u8 (c.toNat : Int)] w fun e w' => e = .returned (.bool (alnum c)) ∧ w = w' := by
  unfold alnum
  generalize (c.toNat : Int) = c
  go_enter Tryd.func76, Tryd.ntmps76
  go_wp2
  all_goals go_ret
  all_goals (refine ⟨ret_bool ?_, rfl⟩; unfold letterB; rw [Bool.eq_iff_iff]; simp; omega)

set_option maxHeartbeats 400000 in
theorem Alnum_any (c : UInt8) (w : World) :
    Calls Tryd.prog 65 #[.int .u8 (c.toNat : Int)] w fun e w' => e = .returned (.bool (alnum c)) ∧ w = w' := by
  unfold alnum
  generalize (c.toNat : Int) = c
  go_enter Tryd.func65, Tryd.ntmps65
  go_wp2
  all_goals go_ret
  all_goals (refine ⟨ret_bool ?_, rfl⟩; unfold letterB; rw [Bool.eq_iff_iff]; simp; omega)

theorem byte_beq (a b : UInt8) : ((a.toNat : Int) == (b.toNat : Int)) = (a == b) := by
  rw [Bool.eq_iff_iff]
  simp only [beq_iff_eq]
  constructor
  · intro h
    exact UInt8.toNat_inj.1 (by omega)
  · rintro rfl; rfl

set_option maxHeartbeats 400000 in
theorem Among_any (c : UInt8) (s : ByteArray) (hs : s.size ≤ maxLen) (w : World) :
    Calls Tryd.prog 66 #[.int .u8 (c.toNat : Int), .string s] w fun e w' => e = .returned (.bool (s.data.toList.contains c)) ∧ w = w' := by
  unfold maxLen at hs
  obtain ⟨r, hr⟩ : ∃ r, r = s.data.toList.contains c := ⟨_, rfl⟩
  rw [← hr]
  have HR := hide hr
  clear hr
  go_enter Tryd.func66, Tryd.ntmps66
  go_wp2
  go_loop [5] (fun i => ∃ k : Nat, k ≤ s.size ∧ i = .int .i64 k ∧ Hid (r = (s.data.toList.drop k).contains c)) (fun i => s.size - (intOf i).toNat)
  case atStart => exact ⟨0, Nat.zero_le _, rfl, HR⟩
  case round =>
    obtain ⟨k, hk, rfl, H⟩ := hrel
    by_cases hlt : k < s.size
    · have hd := drop_string s k hlt
      have hb := byte_beq s[k] c
      have H2 : Hid (r = (s.data.toList.drop k).contains c ∧ s.data.toList.drop k = s[k] :: s.data.toList.drop (k + 1)) := ⟨H, hd⟩
      clear hd H
      by_cases hc : s[k] = c
      · have hb' : ((s[k].toNat : Int) == (c.toNat : Int)) = true := by simp [hc]
        have H3 := hide hc
        clear hc hb
        go_wp2
        go_ret
        refine ⟨ret_bool ?_, rfl⟩
        obtain ⟨h1, h2⟩ := H2
        rw [h1, h2, H3.out]
        simp
      · have hb' : ((s[k].toNat : Int) == (c.toNat : Int)) = false := by simp [hb, hc]
        have H3 := hide hc
        clear hc hb
        go_wp2
        go_round
        case rel =>
          refine ⟨k + 1, by omega, by go_num, ?_⟩
          obtain ⟨h1, h2⟩ := H2
          have h3 := H3.out
          show r = _
          rw [h1, h2, List.contains_cons]
          simp [Ne.symm h3]
        case measure => simp [intOf]; omega
    · have H2 := hide (drop_string_end s k (by omega))
      go_wp2
      go_ret
      refine ⟨ret_bool ?_, rfl⟩
      rw [H.out, H2.out]
      simp

theorem indexByte_ge0 (l : List UInt8) (c : UInt8) : decide (0 ≤ Lib.indexByte l (c.toNat : Int).toNat.toUInt8) = l.contains c := by
  rw [toUInt8_byte, ← Lib.contains_iff_indexByte]

set_option maxHeartbeats 400000 in
theorem Print_any (c : UInt8) (w : World) :
    Calls Tryd.prog 75 #[.int .u8 (c.toNat : Int)] w fun e w' => e = .returned (.bool (isPrint c)) ∧ w = w' := by
  have hi := indexByte_ge0 printSet c
  unfold printSet at hi
  have H := hide hi
  clear hi
  have hb := byte_lt c
  by_cases hl : alnum c = true
  · have H2 := hide hl
    go_enter Tryd.func75, Tryd.ntmps75
    go_wp2_with fail
    refine (letter_any c _).mono ?_
    rintro e w' ⟨rfl, rfl⟩
    go_wp2_with fail
    go_ret
    exact ⟨ret_bool (by simp [isPrint, H2.out]), rfl⟩
  · have H2 := hide hl
    go_enter Tryd.func75, Tryd.ntmps75
    go_wp2_with fail
    refine (letter_any c _).mono ?_
    rintro e w' ⟨rfl, rfl⟩
    go_wp2_with fail
    refine (Tryd.strings_IndexByte _ _ _).mono ?_
    rintro e w' ⟨rfl, rfl⟩
    go_wp2_with fail
    go_ret
    refine ⟨ret_bool ?_, rfl⟩
    unfold isPrint printSet
    rw [← H.out]
    simp [H2.out]

set_option maxHeartbeats 400000 in
theorem IA5_any (c : UInt8) (w : World) :
    Calls Tryd.prog 78 #[.int .u8 (c.toNat : Int)] w fun e w' => e = .returned (.bool (isIA5 c)) ∧ w = w' := by
  unfold isIA5
  generalize (c.toNat : Int) = c
  go_enter Tryd.func78, Tryd.ntmps78
  go_wp2
  all_goals go_ret
  all_goals (refine ⟨ret_bool ?_, rfl⟩; rw [Bool.eq_iff_iff]; simp; omega)
end Go.Proofs.YtepibepgfackkaaDoor
