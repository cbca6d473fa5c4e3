/- The functions of package oid: numbers. -/
import Derived.Test.YtbafpgdmnkkclaaDoorOid1
import Derived.Deep.LoopGhost
namespace Go.Proofs.YtbafpgdmnkkclaaDoor
open Go.RowKit

def numK : Bool → Nat → List UInt8 → Option (List Nat)
  | o, _, [] => if o then none else some []
  | o, n, c :: r => if o = false ∧ c = 128 then none else
      if 4294967294 < n * 128 + c.toNat % 128 then none else
      if c.toNat < 128 then (numK false 0 r).map ((n * 128 + c.toNat % 128) :: ·) else numK true (n * 128 + c.toNat % 128) r
def numP (s : List UInt8) : List Nat := (numK false 0 s).getD []
theorem i64_or_shift (a b : Nat) (ha : a ≤ 4294967296) (hb : b < 128) : bits .or .i64 ((a : Int) * 128) (b : Int) = ((a * 128 + b : Nat) : Int) := by
  have h := i64_or_nat (a * 128) b (by omega) (by omega)
  have e : a * 128 ||| b = a * 128 + b := by
    have := Nat.shiftLeft_add_eq_or_of_lt (i := 7) (show b < 2 ^ 7 by omega) a
    rw [Nat.shiftLeft_eq] at this
    exact this.symm
  rw [e] at h
  rw [← h]
  rfl

set_option maxRecDepth 100000 in
set_option maxHeartbeats 4000000 in
theorem numbers_any (s : ByteArray) (hs : s.size ≤ 1000000) (w : World) :
    Calls Tryd.prog 56 #[.string s] w fun e w' => ∃ v, e = .returned v ∧ Sl RNat 1 w' (Lt w'.heap.size) (numP s.data.toList) [v] ∧ Below w.heap.size w w' := by
  obtain ⟨r, hr⟩ : ∃ r, r = numK false 0 s.data.toList := ⟨_, rfl⟩
  rw [numP, ← hr]
  have HR := hide hr
  clear hr
  obtain ⟨base, hbase, HBASE⟩ : ∃ base, base ≤ w.heap.size ∧ Hid (base = w.heap.size) := ⟨_, Nat.le_refl _, rfl⟩
  go_enter Tryd.func56, Tryd.ntmps56
  go_wp2_with fail
  go_step3
  go_wp2_with fail
  go_step3
  go_wp2_with fail
  go_loopg [3, 4] s.size (fun g v i wr => ∃ (k : Nat) (out : List Nat), k + g = s.size ∧ out.length ≤ k ∧ i = .int .i64 k ∧ Own RNat 1 3 wr base No v out ∧ Below base w wr ∧ base ≤ wr.heap.size ∧ Hid (r = (numK false 0 (s.data.toList.drop k)).map (out ++ ·))) 
  case atStart => exact ⟨0, [], by omega, by simp, rfl, Own.nil _ _ _ _ _ _, Below.refl _ _, hbase, hide (by rw [HR.out]; simp)⟩
  case round =>
    obtain ⟨k, out, hk, hol, rfl, hown, hb, hgs, H⟩ := hrel
    by_cases hlt : k < s.size
    · have HD := drop_string s k hlt
      obtain ⟨c, hc⟩ : ∃ c, s[k] = c := ⟨_, rfl⟩
      have HC := hide hc
      rw [hc] at HD
      have HD2 := hide HD
      clear HD
      have hk0 : (0 : Int) ≤ (k : Int) := by omega
      have hks : (k : Int) < (s.size : Int) := by omega
      have hcl := byte_lt c
      by_cases h128 : c = 128
      · have ht : ((c.toNat : Int) == 128) = true := by simp [h128]
        have HX := hide (show r = none by rw [H.out, HD2.out, numK, if_pos ⟨rfl, h128⟩]; rfl)
        clear h128
        go_wp2_with fail
        (try rw [Exit.noGoto_ret])
        go_ret
        exact ⟨_, rfl, by rw [HX.out]; exact Sl.nil _ _ _ _, HBASE.out ▸ hb⟩
      · have ht : ((c.toNat : Int) == 128) = false := by rw [show ((c.toNat : Int) == 128) = (c == 128) from byte_beq' c 128]; simp [h128]
        have H128 := hide h128
        clear h128
        obtain ⟨A, cp, hv⟩ := (hown.sl RNat.ok).shape
        subst hv
        obtain ⟨wo, rfl⟩ : ∃ wo : World, wo = wr := ⟨_, rfl⟩
        go_wp2_with fail
        go_loopg [3, 4, 5] (s.size - k) (fun g2 v3 i nn wx => ∃ (j n : Nat) (o : Bool), wx = wo ∧ v3 = .slice A out.length cp ∧ j + g2 = s.size ∧ k ≤ j ∧ n ≤ 4294967294 ∧ i = .int .i64 j ∧ nn = .int .i64 n ∧ Hid (o = true ∨ (j = k ∧ o = false)) ∧ Hid (r = (numK o n (s.data.toList.drop j)).map (out ++ ·)))
        case atStart => exact ⟨k, 0, false, rfl, rfl, by omega, by omega, by omega, rfl, rfl, hide (.inr ⟨rfl, rfl⟩), H⟩
        case round =>
          obtain ⟨j, n, o, rfl, rfl, hj, hkj, hn, rfl, rfl, HO, HA⟩ := hrel
          by_cases hlt2 : j < s.size
          · have HD3 := drop_string s j hlt2
            obtain ⟨x, hx⟩ : ∃ x, s[j] = x := ⟨_, rfl⟩
            have hnot : ¬ (o = false ∧ x = 128) := by
              rintro ⟨rfl, rfl⟩
              rcases HO.out with h | ⟨h, _⟩
              · cases h
              · subst h; rw [HC.out] at hx; exact H128.out hx
            rw [hx] at HD3
            have HX := hide (show r = (if 4294967294 < n * 128 + x.toNat % 128 then none else if x.toNat < 128 then (numK false 0 (s.data.toList.drop (j + 1))).map ((n * 128 + x.toNat % 128) :: ·) else numK true (n * 128 + x.toNat % 128) (s.data.toList.drop (j + 1))).map (out ++ ·) by rw [HA.out, HD3, numK, if_neg hnot])
            clear HD3 hnot
            have hxl := byte_lt x
            have ha := i64_and127 x.toNat (by omega)
            have ho := i64_or_shift n (x.toNat % 128) (by omega) (by omega)
            obtain ⟨m, hm⟩ : ∃ m, n * 128 + x.toNat % 128 = m := ⟨_, rfl⟩
            rw [hm] at HX ho
            rw [show ((x.toNat % 128 : Nat) : Int) = (x.toNat : Int) % 128 by omega] at ho
            have hj0 : (0 : Int) ≤ (j : Int) := by omega
            have hjs : (j : Int) < (s.size : Int) := by omega
            have hmb : m ≤ 4294967294 * 128 + 128 := by omega
            clear hm
            by_cases hbig : 4294967294 < m
            · have HY := hide (show r = none by rw [HX.out, if_pos hbig]; rfl)
              go_wp2_with fail
              (try rw [Exit.noGoto_ret])
              go_ret
              exact ⟨_, rfl, by rw [HY.out]; exact Sl.nil _ _ _ _, HBASE.out ▸ hb⟩
            · by_cases hx7 : x.toNat < 128
              · have HY := hide (show r = (numK false 0 (s.data.toList.drop (j + 1))).map ((out ++ [m]) ++ ·) by
                  rw [HX.out, if_neg hbig, if_pos hx7, Option.map_map]; congr 1; funext z; simp)
                go_wp2_with (at_builtin; refine wpList_app RNat.ok _ rfl (.tmp 34) (.tmp 36) 22 rfl base 3 (.int .i64 0) 8 Tryd.underlying22 info_int rfl (by decide) No _ out rfl (hown.alloc RNat.ok (no_lt _) _) ⟨_, 0, none⟩ 1 1 [m] rfl rfl (news_nats _ _ _ _ [m] rfl) (no_lt _) (by simp; omega) (by simp [maxLen]; omega) (by simp; omega) ?_; intro v2 w2 hown2 hg2 hb2 hat2; have hsz2 := hb2.size; simp at hsz2)
                go_roundg (s.size - (j + 1))
                case rel => exact ⟨j + 1, out ++ [m], by omega, by simp; omega, by go_num, hown2, (below_alloc hb hgs _).trans hb2, by omega, HY⟩
                case measure => omega
              · have HY := hide (show r = (numK true m (s.data.toList.drop (j + 1))).map (out ++ ·) by rw [HX.out, if_neg hbig, if_neg hx7])
                go_wp2_with fail
                go_roundg (s.size - (j + 1))
                case rel => exact ⟨j + 1, m, true, rfl, rfl, by omega, by omega, by omega, by go_num, rfl, hide (.inl rfl), HY⟩
                case measure => omega
          · have ho : o = true := by
              rcases HO.out with h | ⟨h, _⟩
              · exact h
              · omega
            have HY := hide (show r = none by rw [HA.out, drop_string_end s j (by omega), ho, numK]; rfl)
            go_wp2_with fail
            (try rw [Exit.noGoto_ret])
            go_ret
            exact ⟨_, rfl, by rw [HY.out]; exact Sl.nil _ _ _ _, HBASE.out ▸ hb⟩
    · have HX := hide (show r = some out by rw [H.out, drop_string_end s k (by omega), numK]; simp)
      go_wp2_with fail
      (try rw [Exit.noGoto_ret])
      go_ret
      exact ⟨_, rfl, by rw [HX.out]; exact (Sl.ok RNat.ok).mono (hown.sl RNat.ok) (fun _ _ => rfl) (fun k hk => by rcases hk with h | h; exact h.elim; exact h.2), HBASE.out ▸ hb⟩
end Go.Proofs.YtbafpgdmnkkclaaDoor
