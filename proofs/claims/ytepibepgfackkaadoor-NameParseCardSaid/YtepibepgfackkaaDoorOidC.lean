/- The functions of package oid: Valid, put, Encode. -/
import Derived.Test.YtepibepgfackkaaDoorOidB
import Derived.Laws.ShiftsVarLaws
import Derived.Laws.BitsAllLaws
import Derived.WalkSpells
namespace Go.Proofs.YtepibepgfackkaaDoor
open Go.RowKit

def validB (l : List UInt8) : Bool := (arcsP l).isSome
set_option maxHeartbeats 400000 in
theorem oidValid_any (s : ByteArray) (hs : s.size ≤ 1000000) (w : World) (hmx : Mx w) :
    Calls Tryd.prog 53 #[.string s] w fun e w' => e = .returned (.bool (validB s.data.toList)) ∧ Below w.heap.size w w' := by
  have HMX := hide hmx
  clear hmx
  obtain ⟨r, hr⟩ : ∃ r, arcsP s.data.toList = r := ⟨_, rfl⟩
  rw [validB, hr]
  have HR := hide hr
  clear hr
  go_enter Tryd.func53, Tryd.ntmps53
  go_wp2_with fail
  refine (arcs_any s hs _ HMX.out).mono ?_
  rw [HR.out]
  rintro e w1 ⟨hb, h⟩
  cases r with
  | none =>
    subst h
    have hq := fun W : World => run_neq_slice_nil_any (P := Tryd.prog) W 34 3 none 0 0 0 0 Tryd.underlying34
    go_wp2_with fail
    go_ret
    exact ⟨rfl, hb⟩
  | some l =>
    obtain ⟨g, c, rfl, _, _⟩ := h
    have hq := fun W : World => run_neq_slice_nil_any (P := Tryd.prog) W 34 3 (some ⟨g, 0, none⟩) l.length c 0 0 Tryd.underlying34
    go_wp2_with fail
    go_ret
    exact ⟨rfl, hb⟩

theorem i64_and_nat (a b : Nat) (ha : a < 9223372036854775808) (hb : b < 9223372036854775808) : bits .and .i64 (a : Int) (b : Int) = ((a &&& b : Nat) : Int) := by
  have hx : a &&& b < 2 ^ 63 := Nat.and_lt_two_pow _ (by omega)
  show IntKind.i64.wrap ((BitVec.ofInt 64 (a : Int) &&& BitVec.ofInt 64 (b : Int)).toNat : Int) = _
  rw [BitVec.toNat_and, ofInt_u64 a (by omega), ofInt_u64 b (by omega)]
  exact IntWalk.i64_in _ (by omega)
theorem i64_or_nat (a b : Nat) (ha : a < 9223372036854775808) (hb : b < 9223372036854775808) : bits .or .i64 (a : Int) (b : Int) = ((a ||| b : Nat) : Int) := by
  have hx : a ||| b < 2 ^ 63 := Nat.or_lt_two_pow (by omega) (by omega)
  show IntKind.i64.wrap ((BitVec.ofInt 64 (a : Int) ||| BitVec.ofInt 64 (b : Int)).toNat : Int) = _
  rw [BitVec.toNat_or, ofInt_u64 a (by omega), ofInt_u64 b (by omega)]
  exact IntWalk.i64_in _ (by omega)
theorem ofNat_byte (n : Nat) (h : n < 256) : ((UInt8.ofNat n).toNat : Int) = (n : Int) := by
  rw [UInt8.toNat_ofNat']; omega
theorem i64_and127 (a : Nat) (ha : a < 9223372036854775808) : bits .and .i64 (a : Int) 127 = (a : Int) % 128 := by
  have := i64_and_nat a 127 ha (by omega)
  rw [show a &&& 127 = a % 128 from Nat.and_two_pow_sub_one_eq_mod a 7] at this
  rw [show (127 : Int) = ((127 : Nat) : Int) from rfl, this]
  omega
theorem i64_or128 (a : Nat) : bits .or .i64 ((a : Int) % 128) 128 = ((UInt8.ofNat (a % 128 + 128)).toNat : Int) := by
  have h : ∀ n : Fin 128, bits .or .i64 ((n.1 : Nat) : Int) 128 = ((n.1 + 128 : Nat) : Int) := by decide +kernel
  rw [ofNat_byte _ (by omega), show (a : Int) % 128 = ((a % 128 : Nat) : Int) by omega]
  exact h ⟨a % 128, by omega⟩
def hiL (m : Nat) : List UInt8 := if _h : m = 0 then [] else hiL (m / 128) ++ [UInt8.ofNat (m % 128 + 128)]
termination_by m
decreasing_by omega
theorem hiL_pos {m : Nat} (h : 1 ≤ m) : hiL m = hiL (m / 128) ++ [UInt8.ofNat (m % 128 + 128)] := by rw [hiL, dif_neg (by omega)]
theorem hiL_zero : hiL 0 = [] := by rw [hiL, dif_pos rfl]
def putL (n : Nat) : List UInt8 := hiL (n / 128) ++ [UInt8.ofNat (n % 128)]
theorem pow7_div (n k : Nat) : n / 2 ^ (7 * (k + 1)) = n / 2 ^ (7 * k) / 128 := by
  rw [Nat.div_div_eq_div_mul]
  congr 1
  rw [Nat.mul_succ, Nat.pow_add]
theorem pow7_cast (n k : Nat) : (n : Int) / 2 ^ (7 * k) = ((n / 2 ^ (7 * k) : Nat) : Int) := by
  rw [Int.natCast_ediv, Int.natCast_pow]; rfl
theorem pow7_anti (n k : Nat) : n / 2 ^ (7 * (k + 1)) ≤ n / 2 ^ (7 * k) := by rw [pow7_div]; exact Nat.div_le_self _ _
theorem pow7_pos (n : Nat) : ∀ {i k : Nat}, i ≤ k → 1 ≤ n / 2 ^ (7 * k) → 1 ≤ n / 2 ^ (7 * i)
  | i, k, h, hk => by
    induction k with
    | zero => have : i = 0 := by omega
              subst this; exact hk
    | succ k ih =>
      rcases Nat.lt_or_ge k i with h' | h'
      · have : i = k + 1 := by omega
        subst this; exact hk
      · exact ih h' (Nat.le_trans hk (pow7_anti n k))

theorem hiL_len (m : Nat) (h : m ≤ 4294967295) : (hiL m).length ≤ 5 := by
  have z : ∀ m, m < 1 → (hiL m).length ≤ 0 := fun m h => by have : m = 0 := by omega
                                                            subst this; rw [hiL_zero]; simp
  have s : ∀ m b, (hiL (m / 128)).length ≤ b → (hiL m).length ≤ b + 1 := fun m b h => by
    rcases Nat.eq_zero_or_pos m with rfl | hm
    · rw [hiL_zero]; simp
    · rw [hiL_pos hm]; simp; exact h
  exact s _ _ (s _ _ (s _ _ (s _ _ (s _ _ (z _ (by omega))))))

end Go.Proofs.YtepibepgfackkaaDoor
