/- Bits of a bit string: prim.spare, prim.Bits, the reference's Bits. -/
import Derived.Test.YtmgnihmjjijdoaaDoorKKeyP
import Derived.Test.YtmgnihmjjijdoaaDoorKGTlvP
namespace Go.Proofs.YtmgnihmjjijdoaaDoor
open Go.RowKit
theorem u8_and_nat (a b : Nat) (ha : a < 256) (hb : b < 256) : bits .and .u8 (a : Int) (b : Int) = ((a &&& b : Nat) : Int) := by
 have hx : a &&& b < 2 ^ 8 := Nat.and_lt_two_pow _ (by omega)
 show IntKind.u8.wrap ((BitVec.ofInt 8 (a : Int) &&& BitVec.ofInt 8 (b : Int)).toNat : Int) = _
 have e : ∀ n : Nat, n < 256 → (BitVec.ofInt 8 (n : Int)).toNat = n := fun n h => by rw [BitVec.toNat_ofInt]; omega
 rw [BitVec.toNat_and, e a ha, e b hb]
 generalize a &&& b = n at *
 simp [IntKind.wrap, IntKind.signed, IntKind.bits]
 omega
theorem u8_mask (a u : Nat) (ha : a < 256) (hu : u ≤ 7) : bits .and .u8 (a : Int) ((2 ^ u - 1 : Nat) : Int) = ((a % 2 ^ u : Nat) : Int) := by
 have h : 2 ^ u ≤ 2 ^ 7 := Nat.pow_le_pow_right (by omega) hu
 rw [u8_and_nat a _ ha (by omega), Nat.and_two_pow_sub_one_eq_mod]
def spareF (b : List UInt8) (u : Nat) : Bool := u == 0 || (!b.isEmpty && (b.getLast?.getD 0).toNat % 2 ^ u == 0)
theorem last_get (b : ByteArray) (k : Nat) (hk : k + 1 = b.size) : b.data.toList.getLast?.getD 0 = b[k] := by
 rw [List.getLast?_eq_getElem?, size_string, show b.size - 1 = k by omega]
 have := List.getElem?_eq_getElem (l := b.data.toList) (i := k) (by rw [size_string]; omega)
 rw [this]; rfl
theorem spareF_last {b : ByteArray} {k u m : Nat} (hk : k + 1 = b.size) (hu : u ≠ 0) (hm : b[k].toNat % 2 ^ u = m) : spareF b.data.toList u = (m == 0) := by
 have he : b.data.toList.isEmpty = false := by
  rw [List.isEmpty_eq_false_iff]; intro e; have := size_string b; rw [e] at this; simp at this; omega
 rw [spareF, he, last_get b k hk, hm, beq_false_of_ne hu]; rfl
theorem bitsF_cons (u : UInt8) (b : List UInt8) : bitsF (u :: b) = if 7 < u.toNat then none else if spareF b u.toNat then some (b, u.toNat) else none := by
  rw [bitsF]
  by_cases h7 : 7 < u.toNat
  · rw [if_pos h7, if_pos h7]
  · rw [if_neg h7, if_neg h7]
    by_cases h0 : u.toNat = 0
    · rw [if_pos h0, h0]; rfl
    · rw [if_neg h0, spareF, beq_false_of_ne h0]
      cases b with
      | nil => rfl
      | cons a r =>
        simp only [List.isEmpty_cons, Bool.not_false, Bool.true_and, Bool.false_or, reduceCtorEq, if_false]
        by_cases hm : ((a :: r).getLast?.getD 0).toNat % 2 ^ u.toNat = 0
        · rw [if_neg (by simpa using hm), if_pos (by simpa using hm)]
        · rw [if_pos hm, if_neg (by simpa using hm)]
set_option maxRecDepth 100000 in
set_option maxHeartbeats 4000000 in
theorem spare_any (b : ByteArray) (hb : b.size ≤ 1000000000) (u : Nat) (hu : u ≤ 7) (w : World) :
  Calls Tryd.prog 33 #[.string b, .int .i64 (u : Int)] w fun e w' => e = .returned (.bool (spareF b.data.toList u)) ∧ w = w' := by
 go_enter Tryd.func33, Tryd.ntmps33
 by_cases h0 : u = 0
 ·subst h0
  go_wp2_with fail
  go_ret
  exact ⟨rfl, rfl⟩
 ·have ht0 : ((u : Int) == 0) = false := beq_false_of_ne (by omega)
  by_cases he : b.size = 0
  ·obtain rfl : b = ⟨#[]⟩ := by
    obtain ⟨a⟩ := b
    exact congrArg ByteArray.mk (Array.eq_empty_of_size_eq_zero he)
   have HN := hide (show spareF (⟨#[]⟩ : ByteArray).data.toList u = false by rw [spareF, beq_false_of_ne h0]; rfl)
   clear he
   go_wp2_with fail
   go_ret
   exact ⟨by rw [HN.out]; rfl, rfl⟩
  ·have hp : 0 < b.size := by omega
   have hem : ¬ b.toList = [] := by rw [ByteArray.toList_eq]; intro e; have := size_string b; rw [e] at this; simp at this; omega
   have hem1 : (b.toList == []) = false := by simpa using hem
   have hem2 : b.toList.isEmpty = false := by simpa using hem
   obtain ⟨k, hk⟩ : ∃ k, k = b.size - 1 := ⟨_, rfl⟩
   have hk1 : k + 1 = b.size := by omega
   have hkn : k < b.size := by omega
   have hki : (b.size : Int) - 1 = (k : Int) := by omega
   have hkw : IntKind.i64.wrap ((b.size : Int) - 1) = (k : Int) := by rw [IntWalk.i64_in _ (by omega)]; omega
   obtain ⟨x, hx⟩ : ∃ x, b[k] = x := ⟨_, rfl⟩
   have hxb := byte_lt x
   clear hk hem he
   have hcs : u = 1 ∨ u = 2 ∨ u = 3 ∨ u = 4 ∨ u = 5 ∨ u = 6 ∨ u = 7 := by omega
   clear hu h0
   rcases hcs with rfl | rfl | rfl | rfl | rfl | rfl | rfl
   ·have hmask : bits .and .u8 (x.toNat : Int) 1 = ((x.toNat % 2 : Nat) : Int) := u8_mask x.toNat 1 x.toNat_lt (by omega)
    obtain ⟨m, hm⟩ : ∃ m, x.toNat % 2 = m := ⟨_, rfl⟩
    have HS := hide (spareF_last (u := 1) hk1 (by omega) (show b[k].toNat % 2 ^ 1 = m by rw [hx]; exact hm))
    rw [hm] at hmask
    clear hm hk1
    by_cases hm0 : m = 0
    ·have t1 : ((m : Int) == 0) = true := by rw [hm0]; rfl
     have HN := hide (show spareF b.data.toList 1 = true by rw [HS.out, hm0]; rfl)
     clear hm0
     go_wp2_with fail
     go_ret
     exact ⟨by rw [HN.out]; rfl, rfl⟩
    ·have t1 : ((m : Int) == 0) = false := beq_false_of_ne (by omega)
     have HN := hide (show spareF b.data.toList 1 = false by rw [HS.out]; exact beq_false_of_ne hm0)
     clear hm0
     go_wp2_with fail
     go_ret
     exact ⟨by rw [HN.out]; rfl, rfl⟩
   ·have hmask : bits .and .u8 (x.toNat : Int) 3 = ((x.toNat % 4 : Nat) : Int) := u8_mask x.toNat 2 x.toNat_lt (by omega)
    obtain ⟨m, hm⟩ : ∃ m, x.toNat % 4 = m := ⟨_, rfl⟩
    have HS := hide (spareF_last (u := 2) hk1 (by omega) (show b[k].toNat % 2 ^ 2 = m by rw [hx]; exact hm))
    rw [hm] at hmask
    clear hm hk1
    by_cases hm0 : m = 0
    ·have t1 : ((m : Int) == 0) = true := by rw [hm0]; rfl
     have HN := hide (show spareF b.data.toList 2 = true by rw [HS.out, hm0]; rfl)
     clear hm0
     go_wp2_with fail
     go_ret
     exact ⟨by rw [HN.out]; rfl, rfl⟩
    ·have t1 : ((m : Int) == 0) = false := beq_false_of_ne (by omega)
     have HN := hide (show spareF b.data.toList 2 = false by rw [HS.out]; exact beq_false_of_ne hm0)
     clear hm0
     go_wp2_with fail
     go_ret
     exact ⟨by rw [HN.out]; rfl, rfl⟩
   ·have hmask : bits .and .u8 (x.toNat : Int) 7 = ((x.toNat % 8 : Nat) : Int) := u8_mask x.toNat 3 x.toNat_lt (by omega)
    obtain ⟨m, hm⟩ : ∃ m, x.toNat % 8 = m := ⟨_, rfl⟩
    have HS := hide (spareF_last (u := 3) hk1 (by omega) (show b[k].toNat % 2 ^ 3 = m by rw [hx]; exact hm))
    rw [hm] at hmask
    clear hm hk1
    by_cases hm0 : m = 0
    ·have t1 : ((m : Int) == 0) = true := by rw [hm0]; rfl
     have HN := hide (show spareF b.data.toList 3 = true by rw [HS.out, hm0]; rfl)
     clear hm0
     go_wp2_with fail
     go_ret
     exact ⟨by rw [HN.out]; rfl, rfl⟩
    ·have t1 : ((m : Int) == 0) = false := beq_false_of_ne (by omega)
     have HN := hide (show spareF b.data.toList 3 = false by rw [HS.out]; exact beq_false_of_ne hm0)
     clear hm0
     go_wp2_with fail
     go_ret
     exact ⟨by rw [HN.out]; rfl, rfl⟩
   ·have hmask : bits .and .u8 (x.toNat : Int) 15 = ((x.toNat % 16 : Nat) : Int) := u8_mask x.toNat 4 x.toNat_lt (by omega)
    obtain ⟨m, hm⟩ : ∃ m, x.toNat % 16 = m := ⟨_, rfl⟩
    have HS := hide (spareF_last (u := 4) hk1 (by omega) (show b[k].toNat % 2 ^ 4 = m by rw [hx]; exact hm))
    rw [hm] at hmask
    clear hm hk1
    by_cases hm0 : m = 0
    ·have t1 : ((m : Int) == 0) = true := by rw [hm0]; rfl
     have HN := hide (show spareF b.data.toList 4 = true by rw [HS.out, hm0]; rfl)
     clear hm0
     go_wp2_with fail
     go_ret
     exact ⟨by rw [HN.out]; rfl, rfl⟩
    ·have t1 : ((m : Int) == 0) = false := beq_false_of_ne (by omega)
     have HN := hide (show spareF b.data.toList 4 = false by rw [HS.out]; exact beq_false_of_ne hm0)
     clear hm0
     go_wp2_with fail
     go_ret
     exact ⟨by rw [HN.out]; rfl, rfl⟩
   ·have hmask : bits .and .u8 (x.toNat : Int) 31 = ((x.toNat % 32 : Nat) : Int) := u8_mask x.toNat 5 x.toNat_lt (by omega)
    obtain ⟨m, hm⟩ : ∃ m, x.toNat % 32 = m := ⟨_, rfl⟩
    have HS := hide (spareF_last (u := 5) hk1 (by omega) (show b[k].toNat % 2 ^ 5 = m by rw [hx]; exact hm))
    rw [hm] at hmask
    clear hm hk1
    by_cases hm0 : m = 0
    ·have t1 : ((m : Int) == 0) = true := by rw [hm0]; rfl
     have HN := hide (show spareF b.data.toList 5 = true by rw [HS.out, hm0]; rfl)
     clear hm0
     go_wp2_with fail
     go_ret
     exact ⟨by rw [HN.out]; rfl, rfl⟩
    ·have t1 : ((m : Int) == 0) = false := beq_false_of_ne (by omega)
     have HN := hide (show spareF b.data.toList 5 = false by rw [HS.out]; exact beq_false_of_ne hm0)
     clear hm0
     go_wp2_with fail
     go_ret
     exact ⟨by rw [HN.out]; rfl, rfl⟩
   ·have hmask : bits .and .u8 (x.toNat : Int) 63 = ((x.toNat % 64 : Nat) : Int) := u8_mask x.toNat 6 x.toNat_lt (by omega)
    obtain ⟨m, hm⟩ : ∃ m, x.toNat % 64 = m := ⟨_, rfl⟩
    have HS := hide (spareF_last (u := 6) hk1 (by omega) (show b[k].toNat % 2 ^ 6 = m by rw [hx]; exact hm))
    rw [hm] at hmask
    clear hm hk1
    by_cases hm0 : m = 0
    ·have t1 : ((m : Int) == 0) = true := by rw [hm0]; rfl
     have HN := hide (show spareF b.data.toList 6 = true by rw [HS.out, hm0]; rfl)
     clear hm0
     go_wp2_with fail
     go_ret
     exact ⟨by rw [HN.out]; rfl, rfl⟩
    ·have t1 : ((m : Int) == 0) = false := beq_false_of_ne (by omega)
     have HN := hide (show spareF b.data.toList 6 = false by rw [HS.out]; exact beq_false_of_ne hm0)
     clear hm0
     go_wp2_with fail
     go_ret
     exact ⟨by rw [HN.out]; rfl, rfl⟩
   ·have hmask : bits .and .u8 (x.toNat : Int) 127 = ((x.toNat % 128 : Nat) : Int) := u8_mask x.toNat 7 x.toNat_lt (by omega)
    obtain ⟨m, hm⟩ : ∃ m, x.toNat % 128 = m := ⟨_, rfl⟩
    have HS := hide (spareF_last (u := 7) hk1 (by omega) (show b[k].toNat % 2 ^ 7 = m by rw [hx]; exact hm))
    rw [hm] at hmask
    clear hm hk1
    by_cases hm0 : m = 0
    ·have t1 : ((m : Int) == 0) = true := by rw [hm0]; rfl
     have HN := hide (show spareF b.data.toList 7 = true by rw [HS.out, hm0]; rfl)
     clear hm0
     go_wp2_with fail
     go_ret
     exact ⟨by rw [HN.out]; rfl, rfl⟩
    ·have t1 : ((m : Int) == 0) = false := beq_false_of_ne (by omega)
     have HN := hide (show spareF b.data.toList 7 = false by rw [HS.out]; exact beq_false_of_ne hm0)
     clear hm0
     go_wp2_with fail
     go_ret
     exact ⟨by rw [HN.out]; rfl, rfl⟩
end Go.Proofs.YtmgnihmjjijdoaaDoor
