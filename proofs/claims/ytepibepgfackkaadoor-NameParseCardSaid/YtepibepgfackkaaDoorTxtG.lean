/- The functions of package text and its reference, seventh part: nibble, Unhex. -/
import Derived.Test.YtepibepgfackkaaDoorTxtF
namespace Go.Proofs.YtepibepgfackkaaDoor
open Go.RowKit


def nibI (c : UInt8) : Int := if 48 ≤ (c.toNat : Int) ∧ (c.toNat : Int) ≤ 57 then c.toNat - 48 else if 97 ≤ (c.toNat : Int) ∧ (c.toNat : Int) ≤ 102 then c.toNat - 87 else -1
theorem nibI_bd (c : UInt8) : -1 ≤ nibI c ∧ nibI c ≤ 15 := by unfold nibI; split <;> (try split) <;> omega

set_option maxHeartbeats 400000 in
theorem nibble_any (c : UInt8) (w : World) :
    Calls Tryd.prog 86 #[.int .u8 (c.toNat : Int)] w fun e w' => e = .returned (.int .i64 (nibI c)) ∧ w = w' := by
  have hb := byte_lt c
  unfold nibI
  generalize (c.toNat : Int) = c at hb
  by_cases h1 : 48 ≤ c ∧ c ≤ 57
  · rw [if_pos h1]
    obtain ⟨h2, h3⟩ := h1
    go_enter Tryd.func86, Tryd.ntmps86
    go_wp2
    go_ret
    exact ⟨rfl, rfl⟩
  · rw [if_neg h1]
    by_cases h4 : 97 ≤ c ∧ c ≤ 102
    · rw [if_pos h4]
      obtain ⟨h2, h3⟩ := h4
      clear h1
      go_enter Tryd.func86, Tryd.ntmps86
      go_wp2
      go_ret
      exact ⟨ret_int (by omega), rfl⟩
    · rw [if_neg h4]
      have h5 : c < 48 ∨ (57 < c ∧ c < 97) ∨ 102 < c := by omega
      clear h1 h4
      rcases h5 with h5 | ⟨h5, h6⟩ | h5
      all_goals
        go_enter Tryd.func86, Tryd.ntmps86
        go_wp2
        go_ret
        exact ⟨rfl, rfl⟩

def unhexL : List UInt8 → Option (List UInt8)
  | [] => some []
  | [_] => none
  | a :: b :: r => if nibI a < 0 ∨ nibI b < 0 then none else (unhexL r).map fun l => UInt8.ofNat (16 * nibI a + nibI b).toNat :: l
def optR (o : Option (List UInt8)) : Value := .tuple #[.string ⟨(o.getD []).toArray⟩, .bool o.isSome]

theorem byte_of (n : Int) (h0 : 0 ≤ n) (h1 : n < 256) : ((UInt8.ofNat n.toNat).toNat : Int) = n := by
  rw [UInt8.toNat_ofNat']
  omega
theorem unhexL_odd : ∀ (n : Nat) (l : List UInt8), l.length ≤ n → l.length % 2 = 1 → unhexL l = none
  | 0, l, h, h1 => by omega
  | n + 1, [], h, h1 => by simp at h1
  | n + 1, [a], h, h1 => rfl
  | n + 1, a :: b :: r, h, h1 => by
    unfold unhexL
    split
    · rfl
    · rw [unhexL_odd n r (by simp at h; omega) (by simp at h1; omega)]; rfl

set_option maxHeartbeats 4000000 in
theorem Unhex_any (s : ByteArray) (hs : s.size ≤ 1000000) (w : World) :
    Calls Tryd.prog 61 #[.string s] w fun e w' => e = .returned (optR (unhexL s.data.toList)) ∧ Below w.heap.size w w' := by
  have hsz := size_string s
  by_cases hodd : s.size % 2 = 1
  · have H := hide (unhexL_odd _ s.data.toList (Nat.le_refl _) (by rw [hsz]; exact hodd))
    have ht : ((s.size : Int) % 2 != 0) = true := by rw [bne_iff_ne]; omega
    clear hodd hsz
    rw [H.out]
    go_enter Tryd.func61, Tryd.ntmps61
    go_wp2
    go_ret2
    exact ⟨rfl, Below.refl _ _⟩
  · have ht : ((s.size : Int) % 2 != 0) = false := by simp; omega
    have HODD := hide hodd
    clear hodd hsz
    obtain ⟨r, hr⟩ : ∃ r, r = unhexL s.data.toList := ⟨_, rfl⟩
    rw [← hr]
    have HR := hide hr
    clear hr
    obtain ⟨base, hbase, HBASE⟩ : ∃ base, base ≤ w.heap.size ∧ Hid (base = w.heap.size) := ⟨_, Nat.le_refl _, rfl⟩
    go_enter Tryd.func61, Tryd.ntmps61
    go_wp2
    clear ht
    go_loopw [4, 5] (fun v i wr => ∃ (k : Nat) (out : List UInt8), k ≤ s.size ∧ out.length ≤ k ∧ Hid (k % 2 = 0) ∧ i = .int .i64 k ∧ Own RByte 1 5 wr base No v out ∧ Below base w wr ∧ Hid (r = (unhexL (s.data.toList.drop k)).map (out ++ ·))) (fun _ i _ => s.size - (intOf i).toNat)
    case atStart => exact ⟨0, [], Nat.zero_le _, by simp, rfl, rfl, Own.nil _ _ _ _ _ _, Below.refl _ _, hide (by rw [HR.out]; simp)⟩
    case round =>
      obtain ⟨k, out, hk, hol, HEV, rfl, hown, hb, H⟩ := hrel
      have hgs : base ≤ wr.heap.size := by have := hb.size; omega
      obtain ⟨A, cp, hv⟩ := (hown.sl RByte.ok).shape
      subst hv
      by_cases hlt : k < s.size
      · have hlt2 : k + 1 < s.size := by have h1 := HEV.out; have h2 := HODD.out; omega
        have HD := hide (drop_string s k hlt)
        have HD2 := hide (drop_string s (k + 1) hlt2)
        have hk0 : (0 : Int) ≤ (k : Int) := by omega
        have hk1 : (k : Int) < (s.size : Int) := by omega
        have hk2 : (0 : Int) ≤ (k : Int) + 1 := by omega
        have hk3 : (k : Int) + 1 < (s.size : Int) := by omega
        have hwk : IntKind.i64.wrap ((k : Int) + 1) = (k : Int) + 1 := IntWalk.i64_in _ (by omega)
        have htn : ((k : Int) + 1).toNat = k + 1 := by omega
        have hownD := fun n => hown.drewN RByte.ok n
        have hbD := fun n => below_drewN hb n
        obtain ⟨a, ha⟩ : ∃ a, s[k] = a := ⟨_, rfl⟩
        obtain ⟨b, hbv⟩ : ∃ b, s[k + 1] = b := ⟨_, rfl⟩
        have HD3 := hide (show s.data.toList.drop k = a :: b :: s.data.toList.drop (k + 2) by rw [HD.out, HD2.out, ha, hbv])
        clear HD HD2
        go_wp2_with fail
        go_quiet ((go_at_call 86; exact quiet_left (nibble_any _ _)))
        have hna := nibI_bd a
        have hnb := nibI_bd b
        obtain ⟨na, hna'⟩ : ∃ na, nibI a = na := ⟨_, rfl⟩
        obtain ⟨nb, hnb'⟩ : ∃ nb, nibI b = nb := ⟨_, rfl⟩
        rw [hna'] at hna ⊢
        rw [hnb'] at hnb ⊢
        have HN := hide (And.intro hna' hnb')
        clear hna' hnb' hwk htn ha hbv
        by_cases h1 : na < 0
        · have HX := hide (show unhexL (a :: b :: s.data.toList.drop (k + 2)) = none by rw [unhexL, if_pos (.inl (by rw [HN.out.1]; exact h1))])
          go_wp2
          go_ret2
          exact ⟨by rw [H.out, HD3.out, HX.out]; rfl, HBASE.out ▸ hbD _⟩
        · by_cases h2 : nb < 0
          · have HX := hide (show unhexL (a :: b :: s.data.toList.drop (k + 2)) = none by rw [unhexL, if_pos (.inr (by rw [HN.out.2]; exact h2))])
            go_wp2
            go_ret2
            exact ⟨by rw [H.out, HD3.out, HX.out]; rfl, HBASE.out ▸ hbD _⟩
          · have HX := hide (show unhexL (a :: b :: s.data.toList.drop (k + 2)) = (unhexL (s.data.toList.drop (k + 2))).map fun l => UInt8.ofNat (16 * na + nb).toNat :: l by
              rw [unhexL, if_neg (by rw [HN.out.1, HN.out.2]; omega), HN.out.1, HN.out.2])
            have HBY := hide (byte_of (16 * na + nb) (by omega) (by omega))
            go_wp2_with (first
              | (at_builtin; refine wpList_app RByte.ok _ rfl (.tmp 33) (.tmp 39) 46 rfl base 5 (.int .u8 0) 1 Tryd.underlying46 info_u8 rfl (by decide) No _ out rfl ((hownD _).alloc RByte.ok (no_lt _) _) ⟨_, 0, none⟩ [UInt8.ofNat (16 * na + nb).toNat].length [UInt8.ofNat (16 * na + nb).toNat].length [UInt8.ofNat (16 * na + nb).toNat] rfl rfl (news_bytes _ _ _ _ [UInt8.ofNat (16 * na + nb).toNat] (by simp only [List.map_cons, List.map_nil, HBY.out])) (no_lt _) (by simp; omega) (by simp [maxLen]; omega) (by simp; omega) ?_; intro v2 w2 hown2 hg2 hb2 hat2; have hsz2 := hb2.size; simp at hsz2))
            go_roundw
            case rel => exact ⟨k + 2, out ++ [UInt8.ofNat (16 * na + nb).toNat], by omega, by simp; omega, by have := HEV.out; unfold Hid; omega, by go_num, hown2, (below_alloc (hbD _) (by simp; omega) _).trans hb2, hide (by rw [H.out, HD3.out, HX.out, Option.map_map]; congr 1; funext z; simp)⟩
            case measure => simp [intOf]; omega
      · have HE := hide (drop_string_end s k (by omega))
        have hconv := run_bts_str (P := Tryd.prog) wr 46 9 5 Tryd.underlying46 Tryd.underlying5 Tryd.underlying9 _ _ _ (hown.sl RByte.ok)
        go_wp2
        go_ret2
        exact ⟨by rw [H.out, HE.out]; simp [optR, unhexL], HBASE.out ▸ hb⟩
end Go.Proofs.YtepibepgfackkaaDoor
