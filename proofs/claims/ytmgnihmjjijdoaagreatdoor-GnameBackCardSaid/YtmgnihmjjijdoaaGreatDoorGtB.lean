/- The program's hash: Hex, Unhex. -/
import Derived.Test.YtmgnihmjjijdoaaGreatDoorGTxtA
namespace Go.Proofs.YtmgnihmjjijdoaaGreatDoor
open Go.RowKit
set_option maxHeartbeats 4000000 in
theorem pHex_any (s : ByteArray) (hs : s.size ≤ 1000000) (w : World) :
  Calls Tryz.prog 30 #[.string s] w fun e w' => e = .returned (.string ⟨(s.data.toList.flatMap hexB).toArray⟩) ∧ Below w.heap.size w w' := by
 obtain ⟨r, hr⟩ : ∃ r, r = s.data.toList.flatMap hexB := ⟨_, rfl⟩
 rw [← hr]
 have HR := hide hr
 clear hr
 obtain ⟨base, hbase, HBASE⟩ : ∃ base, base ≤ w.heap.size ∧ Hid (base = w.heap.size) := ⟨_, Nat.le_refl _, rfl⟩
 go_enter Tryz.func30, Tryz.ntmps30
 go_wp2
 go_loopw [3, 4] (fun v i wr => ∃ (k : Nat) (out : List UInt8), k ≤ s.size ∧ out.length ≤ 2 * k ∧ i = .int .i64 k ∧ Own RByte 1 5 wr base No v out ∧ Below base w wr ∧ Hid (r = out ++ (s.data.toList.drop k).flatMap hexB)) (fun _ i _ => s.size - (intOf i).toNat)
 case atStart => exact ⟨0, [], Nat.zero_le _, by simp, rfl, Own.nil _ _ _ _ _ _, Below.refl _ _, HR⟩
 case round =>
  obtain ⟨k, out, hk, hol, rfl, hown, hb, H⟩ := hrel
  have hgs : base ≤ wr.heap.size := by have := hb.size; omega
  obtain ⟨A, cp, hv⟩ := (hown.sl RByte.ok).shape
  subst hv
  by_cases hlt : k < s.size
  ·have HD := hide (drop_string s k hlt)
   have hbb := byte_lt s[k]
   obtain ⟨b, hbk⟩ : ∃ b, s[k] = b := ⟨_, rfl⟩
   rw [hbk] at hbb
   have hk0 : (0 : Int) ≤ (k : Int) := by omega
   have hk1 : (k : Int) < (s.size : Int) := by omega
   obtain ⟨x, y, hx16, hy16, hx0, hy0, hq, _, hex, hey, hxy⟩ := nibbles b
   have hq2 : (b.toNat : Int) % 16 = (y : Int) := by have := hxy.out.2; omega
   have hq3 : (b.toNat : Int).tdiv 16 = (x : Int) := by rw [Int.tdiv_eq_ediv_of_nonneg (by omega)]; exact hq
   have hq4 : (b.toNat : Int).tmod 16 = (y : Int) := by rw [Int.tmod_eq_emod_of_nonneg (by omega)]; exact hq2
   have hwx : IntKind.u8.wrap (x : Int) = (x : Int) := by rw [IntKind.wrap_u8]; omega
   have hwy : IntKind.u8.wrap (y : Int) = (y : Int) := by rw [IntKind.wrap_u8]; omega
   have HE := hide (show r = (out ++ [hexd x, hexd y]) ++ (s.data.toList.drop (k + 1)).flatMap hexB by rw [H.out, HD.out, List.flatMap_cons, hexB, hbk, hxy.out.1, hxy.out.2, List.append_assoc])
   clear hxy H
   go_wp2_with fail
   go_region_held3 (fun _ => True) (exact trivial) ((refine step_app RByte.ok _ ?_ (.tmp 11) (.tmp 22) 28 ?_ base 5 (.int .u8 0) 1 Tryz.underlying28 info_u8 rfl (by decide) No (.slice A out.length cp) out ?_ ?_ ⟨wr.heap.size, 0, none⟩ [hexd x, hexd y].length [hexd x, hexd y].length [hexd x, hexd y] ?_ rfl ?_ (no_lt _) ?_ ?_ ?_ ?_; rfl; rfl; rfl; exact ((hown.alloc RByte.ok (no_lt _) _).drew RByte.ok); rfl; refine news_bytes_drew _ _ _ _ [hexd x, hexd y] ?_; simp; (simp; omega); (simp [maxLen]; omega); (simp; omega); intro v2 w2 hown2 hg2 hb2 hat2; have hsz2 := hb2.size; simp at hsz2))
   all_goals
    go_wp2
    go_roundw
    case rel => exact ⟨k + 1, out ++ [hexd x, hexd y], by omega, by simp; omega, by go_num, hown2, ((hb.alloc (by omega) _).drew).trans hb2, HE⟩
    case measure => simp [intOf]; omega
  ·have HE := hide (drop_string_end s k (by omega))
   have hconv := run_bts_str (P := Tryz.prog) wr 28 9 5 Tryz.underlying28 Tryz.underlying5 Tryz.underlying9 _ _ _ (hown.sl RByte.ok)
   go_wp2
   go_ret
   exact ⟨ret_str (by rw [H.out, HE.out]; simp), HBASE.out ▸ hb⟩
set_option maxHeartbeats 400000 in
theorem pnibble_any (c : UInt8) (w : World) :
  Calls Tryz.prog 75 #[.int .u8 (c.toNat : Int)] w fun e w' => e = .returned (.int .i64 (nibI c)) ∧ w = w' := by
 have hb := byte_lt c
 unfold nibI
 generalize (c.toNat : Int) = c at hb
 by_cases h1 : 48 ≤ c ∧ c ≤ 57
 ·rw [if_pos h1]
  obtain ⟨h2, h3⟩ := h1
  go_enter Tryz.func75, Tryz.ntmps75
  go_wp2
  go_ret
  exact ⟨rfl, rfl⟩
 ·rw [if_neg h1]
  by_cases h4 : 97 ≤ c ∧ c ≤ 102
  ·rw [if_pos h4]
   obtain ⟨h2, h3⟩ := h4
   clear h1
   go_enter Tryz.func75, Tryz.ntmps75
   go_wp2
   go_ret
   exact ⟨ret_int (by omega), rfl⟩
  ·rw [if_neg h4]
   have h5 : c < 48 ∨ (57 < c ∧ c < 97) ∨ 102 < c := by omega
   clear h1 h4
   rcases h5 with h5 | ⟨h5, h6⟩ | h5
   all_goals
    go_enter Tryz.func75, Tryz.ntmps75
    go_wp2
    go_ret
    exact ⟨rfl, rfl⟩
set_option maxHeartbeats 4000000 in
theorem pUnhex_any (s : ByteArray) (hs : s.size ≤ 1000000) (w : World) :
  Calls Tryz.prog 38 #[.string s] w fun e w' => e = .returned (optR (unhexL s.data.toList)) ∧ Below w.heap.size w w' := by
 have hsz := size_string s
 by_cases hodd : s.size % 2 = 1
 ·have H := hide (unhexL_odd _ s.data.toList (Nat.le_refl _) (by rw [hsz]; exact hodd))
  have ht : ((s.size : Int) % 2 != 0) = true := by rw [bne_iff_ne]; omega
  clear hodd hsz
  rw [H.out]
  go_enter Tryz.func38, Tryz.ntmps38
  go_wp2
  go_ret2
  exact ⟨rfl, Below.refl _ _⟩
 ·have ht : ((s.size : Int) % 2 != 0) = false := by simp; omega
  have HODD := hide hodd
  clear hodd hsz
  obtain ⟨r, hr⟩ : ∃ r, r = unhexL s.data.toList := ⟨_, rfl⟩
  rw [← hr]
  have HR := hide hr
  clear hr
  obtain ⟨base, hbase, HBASE⟩ : ∃ base, base ≤ w.heap.size ∧ Hid (base = w.heap.size) := ⟨_, Nat.le_refl _, rfl⟩
  go_enter Tryz.func38, Tryz.ntmps38
  go_wp2
  clear ht
  go_loopw [4, 5] (fun v i wr => ∃ (k : Nat) (out : List UInt8), k ≤ s.size ∧ out.length ≤ k ∧ Hid (k % 2 = 0) ∧ i = .int .i64 k ∧ Own RByte 1 5 wr base No v out ∧ Below base w wr ∧ Hid (r = (unhexL (s.data.toList.drop k)).map (out ++ ·))) (fun _ i _ => s.size - (intOf i).toNat)
  case atStart => exact ⟨0, [], Nat.zero_le _, by simp, rfl, rfl, Own.nil _ _ _ _ _ _, Below.refl _ _, hide (by rw [HR.out]; simp)⟩
  case round =>
   obtain ⟨k, out, hk, hol, HEV, rfl, hown, hb, H⟩ := hrel
   have hgs : base ≤ wr.heap.size := by have := hb.size; omega
   obtain ⟨A, cp, hv⟩ := (hown.sl RByte.ok).shape
   subst hv
   by_cases hlt : k < s.size
   ·have hlt2 : k + 1 < s.size := by have h1 := HEV.out; have h2 := HODD.out; omega
    have HD := hide (drop_string s k hlt)
    have HD2 := hide (drop_string s (k + 1) hlt2)
    have hk0 : (0 : Int) ≤ (k : Int) := by omega
    have hk1 : (k : Int) < (s.size : Int) := by omega
    have hk2 : (0 : Int) ≤ (k : Int) + 1 := by omega
    have hk3 : (k : Int) + 1 < (s.size : Int) := by omega
    have hwk : IntKind.i64.wrap ((k : Int) + 1) = (k : Int) + 1 := IntWalk.i64_in _ (by omega)
    have htn : ((k : Int) + 1).toNat = k + 1 := by omega
    have hownD := fun n => hown.drewN RByte.ok n
    have hbD := fun n => below_drewN hb n
    obtain ⟨a, ha⟩ : ∃ a, s[k] = a := ⟨_, rfl⟩
    obtain ⟨b, hbv⟩ : ∃ b, s[k + 1] = b := ⟨_, rfl⟩
    have HD3 := hide (show s.data.toList.drop k = a :: b :: s.data.toList.drop (k + 2) by rw [HD.out, HD2.out, ha, hbv])
    clear HD HD2
    go_wp2_with fail
    go_quiet ((go_at_call 75; exact quiet_left (pnibble_any _ _)))
    have hna := nibI_bd a
    have hnb := nibI_bd b
    obtain ⟨na, hna'⟩ : ∃ na, nibI a = na := ⟨_, rfl⟩
    obtain ⟨nb, hnb'⟩ : ∃ nb, nibI b = nb := ⟨_, rfl⟩
    rw [hna'] at hna ⊢
    rw [hnb'] at hnb ⊢
    have HN := hide (And.intro hna' hnb')
    clear hna' hnb' hwk htn ha hbv
    by_cases h1 : na < 0
    ·have HX := hide (show unhexL (a :: b :: s.data.toList.drop (k + 2)) = none by rw [unhexL, if_pos (.inl (by rw [HN.out.1]; exact h1))])
     go_wp2
     go_ret2
     exact ⟨by rw [H.out, HD3.out, HX.out]; rfl, HBASE.out ▸ hbD _⟩
    ·by_cases h2 : nb < 0
     ·have HX := hide (show unhexL (a :: b :: s.data.toList.drop (k + 2)) = none by rw [unhexL, if_pos (.inr (by rw [HN.out.2]; exact h2))])
      go_wp2
      go_ret2
      exact ⟨by rw [H.out, HD3.out, HX.out]; rfl, HBASE.out ▸ hbD _⟩
     ·have HX := hide (show unhexL (a :: b :: s.data.toList.drop (k + 2)) = (unhexL (s.data.toList.drop (k + 2))).map fun l => UInt8.ofNat (16 * na + nb).toNat :: l by
       rw [unhexL, if_neg (by rw [HN.out.1, HN.out.2]; omega), HN.out.1, HN.out.2])
      have HBY := hide (byte_of (16 * na + nb) (by omega) (by omega))
      have hor := or_i64 na nb (by omega) (by omega) (by omega) (by omega)
      have hno : na * 16 + nb = 16 * na + nb := by omega
      go_wp2_with (first
       | (at_builtin; refine wpList_app RByte.ok _ rfl (.tmp 33) (.tmp 39) 28 rfl base 5 (.int .u8 0) 1 Tryz.underlying28 info_u8 rfl (by decide) No _ out rfl ((hownD _).alloc RByte.ok (no_lt _) _) ⟨_, 0, none⟩ [UInt8.ofNat (16 * na + nb).toNat].length [UInt8.ofNat (16 * na + nb).toNat].length [UInt8.ofNat (16 * na + nb).toNat] rfl rfl (news_bytes _ _ _ _ [UInt8.ofNat (16 * na + nb).toNat] (by simp only [List.map_cons, List.map_nil, HBY.out])) (no_lt _) (by simp; omega) (by simp [maxLen]; omega) (by simp; omega) ?_; intro v2 w2 hown2 hg2 hb2 hat2; have hsz2 := hb2.size; simp at hsz2))
      go_roundw
      case rel => exact ⟨k + 2, out ++ [UInt8.ofNat (16 * na + nb).toNat], by omega, by simp; omega, by have := HEV.out; unfold Hid; omega, by go_num, hown2, (below_alloc (hbD _) (by simp; omega) _).trans hb2, hide (by rw [H.out, HD3.out, HX.out, Option.map_map]; congr 1; funext z; simp)⟩
      case measure => simp [intOf]; omega
   ·have HE := hide (drop_string_end s k (by omega))
    have hconv := run_bts_str (P := Tryz.prog) wr 28 9 5 Tryz.underlying28 Tryz.underlying5 Tryz.underlying9 _ _ _ (hown.sl RByte.ok)
    go_wp2
    go_ret2
    exact ⟨by rw [H.out, HE.out]; simp [optR, unhexL], HBASE.out ▸ hb⟩
end Go.Proofs.YtmgnihmjjijdoaaGreatDoor
