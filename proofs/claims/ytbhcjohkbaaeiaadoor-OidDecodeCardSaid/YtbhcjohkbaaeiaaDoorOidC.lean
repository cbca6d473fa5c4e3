/- The functions of package oid: Valid, put, Encode. -/
import Derived.Test.YtbhcjohkbaaeiaaDoorOidB
import Derived.Laws.ShiftsVarLaws
import Derived.Laws.BitsAllLaws
import Derived.WalkSpells
namespace Go.Proofs.YtbhcjohkbaaeiaaDoor
open Go.RowKit

def validB (l : List UInt8) : Bool := (arcsP l).isSome
set_option maxHeartbeats 400000 in
theorem Valid_any (s : ByteArray) (hs : s.size ≤ 1000000) (w : World) (hmx : Mx w) :
    Calls Tryd.prog 12 #[.string s] w fun e w' => e = .returned (.bool (validB s.data.toList)) ∧ Below w.heap.size w w' := by
  have HMX := hide hmx
  clear hmx
  obtain ⟨r, hr⟩ : ∃ r, arcsP s.data.toList = r := ⟨_, rfl⟩
  rw [validB, hr]
  have HR := hide hr
  clear hr
  go_enter Tryd.func12, Tryd.ntmps12
  go_wp2_with fail
  refine (arcs_any s hs _ HMX.out).mono ?_
  rw [HR.out]
  rintro e w1 ⟨hb, h⟩
  cases r with
  | none =>
    subst h
    have hq := fun W : World => run_neq_slice_nil_any (P := Tryd.prog) W 39 3 none 0 0 0 0 Tryd.underlying39
    go_wp2_with fail
    go_ret
    exact ⟨rfl, hb⟩
  | some l =>
    obtain ⟨g, c, rfl, _, _⟩ := h
    have hq := fun W : World => run_neq_slice_nil_any (P := Tryd.prog) W 39 3 (some ⟨g, 0, none⟩) l.length c 0 0 Tryd.underlying39
    go_wp2_with fail
    go_ret
    exact ⟨rfl, hb⟩

theorem i64_and_nat (a b : Nat) (ha : a < 9223372036854775808) (hb : b < 9223372036854775808) : bits .and .i64 (a : Int) (b : Int) = ((a &&& b : Nat) : Int) := by
  have hx : a &&& b < 2 ^ 63 := Nat.and_lt_two_pow _ (by omega)
  show IntKind.i64.wrap ((BitVec.ofInt 64 (a : Int) &&& BitVec.ofInt 64 (b : Int)).toNat : Int) = _
  rw [BitVec.toNat_and, ofInt_u64 a (by omega), ofInt_u64 b (by omega)]
  exact IntWalk.i64_in _ (by omega)
theorem i64_or_nat (a b : Nat) (ha : a < 9223372036854775808) (hb : b < 9223372036854775808) : bits .or .i64 (a : Int) (b : Int) = ((a ||| b : Nat) : Int) := by
  have hx : a ||| b < 2 ^ 63 := Nat.or_lt_two_pow (by omega) (by omega)
  show IntKind.i64.wrap ((BitVec.ofInt 64 (a : Int) ||| BitVec.ofInt 64 (b : Int)).toNat : Int) = _
  rw [BitVec.toNat_or, ofInt_u64 a (by omega), ofInt_u64 b (by omega)]
  exact IntWalk.i64_in _ (by omega)
theorem ofNat_byte (n : Nat) (h : n < 256) : ((UInt8.ofNat n).toNat : Int) = (n : Int) := by
  rw [UInt8.toNat_ofNat']; omega
theorem i64_and127 (a : Nat) (ha : a < 9223372036854775808) : bits .and .i64 (a : Int) 127 = (a : Int) % 128 := by
  have := i64_and_nat a 127 ha (by omega)
  rw [show a &&& 127 = a % 128 from Nat.and_two_pow_sub_one_eq_mod a 7] at this
  rw [show (127 : Int) = ((127 : Nat) : Int) from rfl, this]
  omega
theorem i64_or128 (a : Nat) : bits .or .i64 ((a : Int) % 128) 128 = ((UInt8.ofNat (a % 128 + 128)).toNat : Int) := by
  have h : ∀ n : Fin 128, bits .or .i64 ((n.1 : Nat) : Int) 128 = ((n.1 + 128 : Nat) : Int) := by decide +kernel
  rw [ofNat_byte _ (by omega), show (a : Int) % 128 = ((a % 128 : Nat) : Int) by omega]
  exact h ⟨a % 128, by omega⟩
def hiL (m : Nat) : List UInt8 := if _h : m = 0 then [] else hiL (m / 128) ++ [UInt8.ofNat (m % 128 + 128)]
termination_by m
decreasing_by omega
theorem hiL_pos {m : Nat} (h : 1 ≤ m) : hiL m = hiL (m / 128) ++ [UInt8.ofNat (m % 128 + 128)] := by rw [hiL, dif_neg (by omega)]
theorem hiL_zero : hiL 0 = [] := by rw [hiL, dif_pos rfl]
def putL (n : Nat) : List UInt8 := hiL (n / 128) ++ [UInt8.ofNat (n % 128)]
theorem pow7_div (n k : Nat) : n / 2 ^ (7 * (k + 1)) = n / 2 ^ (7 * k) / 128 := by
  rw [Nat.div_div_eq_div_mul]
  congr 1
  rw [Nat.mul_succ, Nat.pow_add]
theorem pow7_cast (n k : Nat) : (n : Int) / 2 ^ (7 * k) = ((n / 2 ^ (7 * k) : Nat) : Int) := by
  rw [Int.natCast_ediv, Int.natCast_pow]; rfl
theorem pow7_anti (n k : Nat) : n / 2 ^ (7 * (k + 1)) ≤ n / 2 ^ (7 * k) := by rw [pow7_div]; exact Nat.div_le_self _ _
theorem pow7_pos (n : Nat) : ∀ {i k : Nat}, i ≤ k → 1 ≤ n / 2 ^ (7 * k) → 1 ≤ n / 2 ^ (7 * i)
  | i, k, h, hk => by
    induction k with
    | zero => have : i = 0 := by omega
              subst this; exact hk
    | succ k ih =>
      rcases Nat.lt_or_ge k i with h' | h'
      · have : i = k + 1 := by omega
        subst this; exact hk
      · exact ih h' (Nat.le_trans hk (pow7_anti n k))

theorem hiL_len (m : Nat) (h : m ≤ 4294967295) : (hiL m).length ≤ 5 := by
  have z : ∀ m, m < 1 → (hiL m).length ≤ 0 := fun m h => by have : m = 0 := by omega
                                                            subst this; rw [hiL_zero]; simp
  have s : ∀ m b, (hiL (m / 128)).length ≤ b → (hiL m).length ≤ b + 1 := fun m b h => by
    rcases Nat.eq_zero_or_pos m with rfl | hm
    · rw [hiL_zero]; simp
    · rw [hiL_pos hm]; simp; exact h
  exact s _ _ (s _ _ (s _ _ (s _ _ (s _ _ (z _ (by omega))))))

set_option maxHeartbeats 4000000 in
theorem put_any (n : Nat) (hn : n ≤ 4294967295) (v : Value) (l : List UInt8) (base : Nat) (w : World) (hbase : base ≤ w.heap.size) (hown : Own RByte 1 5 w base No v l) (hl : l.length ≤ 1000) :
    Calls Tryd.prog 22 #[v, .int .i64 (n : Int)] w fun e w' => ∃ v', e = .returned v' ∧ Own RByte 1 5 w' base No v' (l ++ putL n) ∧ Below base w w' := by
  have HN := hide hn
  go_enter Tryd.func22, Tryd.ntmps22
  go_wp2_with fail
  go_loop [5] (fun i => ∃ (k : Nat), 1 ≤ k ∧ k ≤ 6 ∧ i = .int .i64 k ∧ Hid (k = 1 ∨ 1 ≤ n / 2 ^ (7 * (k - 1)))) (fun i => 7 - (intOf i).toNat)
  case atStart => exact ⟨1, by omega, by omega, rfl, hide (.inl rfl)⟩
  case round =>
    obtain ⟨k, hk1, hk2, rfl, H⟩ := hrel
    have hk5 : k ≤ 5 := by
      rcases Nat.lt_or_ge 5 k with h | h
      · have : k = 6 := by omega
        subst this
        rcases H.out with h | h
        · cases h
        · have := HN.out; omega
      · exact h
    have hc := pow7_cast n k
    obtain ⟨d, hd⟩ : ∃ d, n / 2 ^ (7 * k) = d := ⟨_, rfl⟩
    rw [hd] at hc
    have HD := hide hd
    clear hd
    by_cases hp : 1 ≤ d
    · have HP := hide hp
      have hp' : 0 < (n : Int) / 2 ^ (7 * k) := by rw [hc]; omega
      clear hc hp
      go_wp2_with fail
      go_round
      case rel => exact ⟨k + 1, by omega, by omega, by go_num, hide (.inr (by rw [Nat.add_sub_cancel, HD.out]; exact HP.out))⟩
      case measure => simp [intOf]; omega
    · have HZ := hide (show n / 2 ^ (7 * k) = 0 by rw [HD.out]; omega)
      have hp' : (n : Int) / 2 ^ (7 * k) ≤ 0 := by rw [hc]; omega
      have hown0 := hown
      clear hc hp HD d
      go_wp2_with fail
      clear hp'
      clear hown0
      go_loopw [0, 6] (fun v i wr => ∃ (j : Nat) (out : List UInt8), j < k ∧ i = .int .i64 j ∧ Own RByte 1 5 wr base No v out ∧ Below base w wr ∧ base ≤ wr.heap.size ∧ out.length + j ≤ 1010 ∧ Hid (out = l ++ hiL (n / 2 ^ (7 * (j + 1))))) (fun _ i _ => (intOf i).toNat)
      case atStart => exact ⟨k - 1, l, by omega, by go_num, hown, Below.refl _ _, hbase, by omega, hide (by rw [show k - 1 + 1 = k by omega, HZ.out, hiL_zero, List.append_nil])⟩
      case round =>
        obtain ⟨j, out, hj, rfl, hown, hb, hgs, hol, HO⟩ := hrel
        obtain ⟨A, cp, hv⟩ := (hown.sl RByte.ok).shape
        subst hv
        rcases Nat.eq_zero_or_pos j with rfl | hj0
        · have ha := i64_and127 n (by omega)
          have hc : (n : Int) % 128 = ((UInt8.ofNat (n % 128)).toNat : Int) := by rw [ofNat_byte _ (by omega)]; omega
          rw [hc] at ha
          obtain ⟨c, hcc⟩ : ∃ c, UInt8.ofNat (n % 128) = c := ⟨_, rfl⟩
          rw [hcc] at ha
          have HC := hide hcc
          have hcl := byte_lt c
          clear hc hcc
          have HP := hide (show out ++ [c] = l ++ putL n by rw [HO.out, ← HC.out, putL, List.append_assoc])
          go_wp2_with (first
            | (at_builtin; refine wpList_app RByte.ok _ rfl (.tmp 32) (.tmp 36) 22 rfl base 5 (.int .u8 0) 1 Tryd.underlying22 info_u8 rfl (by decide) No _ out rfl (hown.alloc RByte.ok (no_lt _) _) ⟨_, 0, none⟩ 1 1 [c] rfl rfl (news_bytes _ _ _ _ [c] rfl) (no_lt _) (by simp; omega) (by simp [maxLen]; omega) (by simp; omega) ?_; intro v2 w2 hown2 hg2 hb2 hat2; have hsz2 := hb2.size; simp at hsz2))
          go_ret
          exact ⟨_, rfl, HP.out ▸ hown2, (below_alloc hb hgs _).trans hb2⟩
        · obtain ⟨d, hd⟩ : ∃ d, n / 2 ^ (7 * j) = d := ⟨_, rfl⟩
          have hc := pow7_cast n j
          rw [hd] at hc
          have hdn : d ≤ n := by rw [← hd]; exact Nat.div_le_self _ _
          have hd1 : 1 ≤ d := by
            rw [← hd]
            refine pow7_pos n (show j ≤ k - 1 by omega) ?_
            rcases H.out with h | h
            · omega
            · exact h
          have ha := i64_and127 d (by omega)
          have ho := i64_or128 d
          obtain ⟨c, hcc⟩ : ∃ c, UInt8.ofNat (d % 128 + 128) = c := ⟨_, rfl⟩
          rw [hcc] at ho
          have hcl := byte_lt c
          have HP := hide (show out ++ [c] = l ++ hiL (n / 2 ^ (7 * (j - 1 + 1))) by
            rw [HO.out, show j - 1 + 1 = j by omega, hd, hiL_pos hd1, hcc, pow7_div, hd, List.append_assoc])
          clear hcc hd hd1
          go_wp2_with (first
            | (at_builtin; refine wpList_app RByte.ok _ rfl (.tmp 21) (.tmp 30) 22 rfl base 5 (.int .u8 0) 1 Tryd.underlying22 info_u8 rfl (by decide) No _ out rfl (hown.alloc RByte.ok (no_lt _) _) ⟨_, 0, none⟩ 1 1 [c] rfl rfl (news_bytes _ _ _ _ [c] rfl) (no_lt _) (by simp; omega) (by simp [maxLen]; omega) (by simp; omega) ?_; intro v2 w2 hown2 hg2 hb2 hat2; have hsz2 := hb2.size; simp at hsz2))
          go_roundw
          case rel => exact ⟨j - 1, out ++ [c], by omega, by go_num, hown2, (below_alloc hb hgs _).trans hb2, by omega, by simp; omega, HP⟩
          case measure => simp [intOf]; omega
theorem put_int (n : Nat) (N : Int) (hN : N = (n : Int)) (hn : n ≤ 4294967295) (v : Value) (l : List UInt8) (base : Nat) (w : World) (hbase : base ≤ w.heap.size) (hown : Own RByte 1 5 w base No v l) (hl : l.length ≤ 1000) :
    Calls Tryd.prog 22 #[v, .int .i64 N] w fun e w' => ∃ v', e = .returned v' ∧ Own RByte 1 5 w' base No v' (l ++ putL n) ∧ Below base w w' := by
  subst hN
  exact put_any n hn v l base w hbase hown hl
end Go.Proofs.YtbhcjohkbaaeiaaDoor
