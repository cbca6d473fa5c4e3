/- Numbers bit by bit. -/
import Derived.Test.YtbafpgdmnkkclaaDoorLib3
import Derived.Laws.BitsAllLaws
namespace Go.Proofs.YtbafpgdmnkkclaaDoor
open Go.RowKit

theorem i64_and_nat (a b : Nat) (ha : a < 9223372036854775808) (hb : b < 9223372036854775808) : bits .and .i64 (a : Int) (b : Int) = ((a &&& b : Nat) : Int) := by
  have hx : a &&& b < 2 ^ 63 := Nat.and_lt_two_pow _ (by omega)
  show IntKind.i64.wrap ((BitVec.ofInt 64 (a : Int) &&& BitVec.ofInt 64 (b : Int)).toNat : Int) = _
  rw [BitVec.toNat_and, ofInt_u64 a (by omega), ofInt_u64 b (by omega)]
  exact IntWalk.i64_in _ (by omega)
theorem i64_or_nat (a b : Nat) (ha : a < 9223372036854775808) (hb : b < 9223372036854775808) : bits .or .i64 (a : Int) (b : Int) = ((a ||| b : Nat) : Int) := by
  have hx : a ||| b < 2 ^ 63 := Nat.or_lt_two_pow (by omega) (by omega)
  show IntKind.i64.wrap ((BitVec.ofInt 64 (a : Int) ||| BitVec.ofInt 64 (b : Int)).toNat : Int) = _
  rw [BitVec.toNat_or, ofInt_u64 a (by omega), ofInt_u64 b (by omega)]
  exact IntWalk.i64_in _ (by omega)
theorem and31 (t : Nat) (h : t < 256) : bits .and .i64 (t : Int) 31 = ((t % 32 : Nat) : Int) := by
  have := i64_and_nat t 31 (by omega) (by omega)
  rw [show t &&& 31 = t % 32 from Nat.and_two_pow_sub_one_eq_mod t 5] at this
  exact this
end Go.Proofs.YtbafpgdmnkkclaaDoor
