/- The functions of package oid: an arc, the arcs of a text. -/
import Derived.Test.YtepibepgfackkaaDoorSplit
import Derived.Test.YtepibepgfackkaaDoorShelf
namespace Go.Proofs.YtepibepgfackkaaDoor
open Go.RowKit

def isDig (c : UInt8) : Bool := decide (48 ≤ (c.toNat : Int)) && decide ((c.toNat : Int) ≤ 57)
def arcK : Nat → List UInt8 → Option Nat
  | n, [] => if 2147483647 < n then none else some n
  | n, c :: r => if isDig c then arcK (10 * n + (c.toNat - 48)) r else none
def arcG (d : List UInt8) : Option Nat :=
  if d.length = 0 ∨ 10 < d.length ∨ (d.getD 0 0 = 48 ∧ 1 < d.length) then none else arcK 0 d
def arcI (o : Option Nat) : Int := match o with | none => -1 | some n => (n : Int)
theorem byte_eq48 (c : UInt8) : ((c.toNat : Int) == 48) = (c == 48) := byte_beq' c 48
theorem arcK_le : ∀ (l : List UInt8) (n v : Nat), arcK n l = some v → v ≤ 2147483647
  | [], n, v, h => by unfold arcK at h; split at h <;> simp at h; omega
  | c :: r, n, v, h => by
    unfold arcK at h
    split at h
    · exact arcK_le r _ v h
    · cases h
theorem arcG_le (d : List UInt8) (v : Nat) (h : arcG d = some v) : v ≤ 2147483647 := by
  unfold arcG at h
  split at h
  · cases h
  · exact arcK_le d 0 v h
theorem pow10_bd {n k : Nat} (h : n < 10 ^ k) (hk : k ≤ 10) : n < 10000000000 := by
  have := Nat.pow_le_pow_right (n := 10) (by omega) hk
  omega
theorem pow10_bd9 {n k : Nat} (h : n < 10 ^ k) (hk : k ≤ 9) : n < 1000000000 := by
  have := Nat.pow_le_pow_right (n := 10) (by omega) hk
  omega

set_option maxHeartbeats 2000000 in
theorem arc_any (s : ByteArray) (hs : s.size ≤ 1000000) (w : World) :
    Calls Tryd.prog 96 #[.string s] w fun e w' => e = .returned (.int .i64 (arcI (arcG s.data.toList))) ∧ w = w' := by
  have hsz := size_string s
  by_cases h0 : s.size = 0
  · have HR := hide (show arcG s.data.toList = none by rw [arcG, if_pos (.inl (by omega))])
    have hem : s.toList = [] := by rw [ByteArray.toList_eq]; exact List.eq_nil_of_length_eq_zero (by omega)
    rw [HR.out]
    clear hsz h0
    go_enter Tryd.func96, Tryd.ntmps96
    go_wp2_with fail
    go_ret
    exact ⟨rfl, rfl⟩
  · have hem : s.toList ≠ [] := by rw [ByteArray.toList_eq]; intro e; rw [e] at hsz; simp at hsz; omega
    have hem1 : (s.toList == []) = false := by simpa using hem
    have hem2 : s.toList.isEmpty = false := by simpa using hem
    clear hem
    by_cases h10 : 10 < s.size
    · have HR := hide (show arcG s.data.toList = none by rw [arcG, if_pos (.inr (.inl (by omega)))])
      rw [HR.out]
      clear hsz
      go_enter Tryd.func96, Tryd.ntmps96
      go_wp2_with fail
      go_ret
      exact ⟨rfl, rfl⟩
    · have hp : 0 < s.size := by omega
      have hd0 : s.data.toList.getD 0 0 = s[0] := by
        have := drop_string s 0 hp
        rw [List.drop_zero] at this
        rw [this]; rfl
      have hb0 := byte_eq48 s[0]
      have hpi : (0 : Int) < (s.size : Int) := by omega
      by_cases hz : s[0] = 48 ∧ 1 < s.size
      · have HR := hide (show arcG s.data.toList = none by rw [arcG, if_pos (.inr (.inr ⟨by rw [hd0]; exact hz.1, by omega⟩))])
        have ht : ((s[0].toNat : Int) == 48) = true := by rw [hb0]; simp [hz.1]
        obtain ⟨_, hz2⟩ := hz
        rw [HR.out]
        clear hsz hb0 hd0 h0
        go_enter Tryd.func96, Tryd.ntmps96
        go_wp2_with fail
        go_ret
        exact ⟨rfl, rfl⟩
      · have HR := hide (show arcG s.data.toList = arcK 0 s.data.toList by
          rw [arcG, if_neg]
          rw [hsz, hd0]
          rintro (h | h | h)
          · omega
          · omega
          · exact hz h)
        rw [HR.out]
        obtain ⟨r, hr⟩ : ∃ r, r = arcK 0 s.data.toList := ⟨_, rfl⟩
        rw [← hr]
        have HR2 := hide hr
        have hz' : ((s[0].toNat : Int) == 48) = false ∨ (((s[0].toNat : Int) == 48) = true ∧ s.size ≤ 1) := by
          rw [hb0]
          by_cases e : s[0] = 48
          · exact .inr ⟨by simp [e], by have : ¬ 1 < s.size := fun h => hz ⟨e, h⟩; omega⟩
          · exact .inl (by simp [e])
        clear hsz hb0 hd0 hz hr h0
        rcases hz' with ht | ⟨ht, ht2⟩
        all_goals
          go_enter Tryd.func96, Tryd.ntmps96
          go_wp2_with fail
          clear ht
          go_loop [3, 4] (fun a i => ∃ (k n : Nat), k ≤ s.size ∧ n < 10000000000 ∧ i = .int .i64 k ∧ a = .int .i64 n ∧ Hid (n < 10 ^ k) ∧ Hid (r = arcK n (s.data.toList.drop k))) (fun _ i => s.size - (intOf i).toNat)
          case atStart => exact ⟨0, 0, by omega, by omega, rfl, rfl, hide (by omega), HR2⟩
          case round =>
            obtain ⟨k, n, hk, hnb, rfl, rfl, HN, H⟩ := hrel
            by_cases hlt : k < s.size
            · have HD := drop_string s k hlt
              obtain ⟨c, hc⟩ : ∃ c, s[k] = c := ⟨_, rfl⟩
              rw [hc] at HD
              have hcb := byte_lt c
              have HX := hide (H.out.trans (congrArg (arcK n) HD))
              have hn9 := pow10_bd9 HN.out (by omega)
              clear HD
              by_cases hdg : 48 ≤ (c.toNat : Int) ∧ (c.toNat : Int) ≤ 57
              · have HY := hide (show r = arcK (10 * n + (c.toNat - 48)) (s.data.toList.drop (k + 1)) by rw [HX.out, arcK, if_pos (by simp [isDig]; omega)])
                have HN2 := hide (show 10 * n + (c.toNat - 48) < 10 ^ (k + 1) by have := HN.out; rw [Nat.pow_succ]; omega)
                obtain ⟨hd1, hd2⟩ := hdg
                go_wp2_with fail
                go_round
                case rel => exact ⟨k + 1, 10 * n + (c.toNat - 48), by omega, by omega, by go_num, by go_num, HN2, HY⟩
                case measure => simp [intOf]; omega
              · have HY := hide (show r = none by rw [HX.out, arcK, if_neg (by simp [isDig]; omega)])
                have hdg' : (c.toNat : Int) < 48 ∨ (48 ≤ (c.toNat : Int) ∧ 57 < (c.toNat : Int)) := by omega
                clear hdg
                rcases hdg' with hd1 | ⟨hd1, hd2⟩
                all_goals
                  go_wp2_with fail
                  go_ret
                  exact ⟨ret_int (by rw [HY.out]; rfl), rfl⟩
            · have HE := hide (drop_string_end s k (by omega))
              by_cases hbig : 2147483647 < n
              · have HY := hide (show r = none by rw [H.out, HE.out, arcK, if_pos hbig])
                go_wp2_with fail
                go_ret
                exact ⟨ret_int (by rw [HY.out]; rfl), rfl⟩
              · have HY := hide (show r = some n by rw [H.out, HE.out, arcK, if_neg hbig])
                go_wp2_with fail
                go_ret
                exact ⟨ret_int (by rw [HY.out]; rfl), rfl⟩

def rootB (a b : Nat) : Bool := (decide (a ≤ 1) && decide (b ≤ 39)) || decide (a = 2)
set_option maxHeartbeats 400000 in
theorem root_any (a b : Nat) (w : World) :
    Calls Tryd.prog 97 #[.int .i64 (a : Int), .int .i64 (b : Int)] w fun e w' => e = .returned (.bool (rootB a b)) ∧ w = w' := by
  have h2 : ((a : Int) == 2) = decide (a = 2) := by rw [Bool.eq_iff_iff]; simp; omega
  unfold rootB
  by_cases h1 : a ≤ 1
  · have h3 : decide (a = 2) = false := by simp; omega
    have h4 : ((a : Int) == 2) = false := by rw [h2, h3]
    rw [h3]
    clear h2 h3
    by_cases hb : b ≤ 39
    · go_enter Tryd.func97, Tryd.ntmps97
      go_wp2_with fail
      go_ret
      exact ⟨ret_bool (by simp), rfl⟩
    · go_enter Tryd.func97, Tryd.ntmps97
      go_wp2_with fail
      go_ret
      exact ⟨ret_bool (by simp [hb]; omega), rfl⟩
  · obtain ⟨p, hp⟩ : ∃ p, decide (a = 2) = p := ⟨_, rfl⟩
    rw [hp] at h2
    have H := hide (show (decide (a ≤ 1) && decide (b ≤ 39) || decide (a = 2)) = p by rw [hp]; simp [h1])
    clear hp
    rw [H.out]
    cases p
    all_goals
      go_enter Tryd.func97, Tryd.ntmps97
      go_wp2_with fail
      go_ret
      exact ⟨rfl, rfl⟩
end Go.Proofs.YtepibepgfackkaaDoor
