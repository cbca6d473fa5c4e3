/- The functions of package text and its reference, ninth part: Unescape. -/
import Derived.Test.YtepibepgfackkaaDoorTxt2
namespace Go.Proofs.YtepibepgfackkaaDoor
open Go.RowKit


theorem idx_nib (c : UInt8) : Lib.indexByte digs c = nibI c := by
  have h : ∀ n : Fin 256, Lib.indexByte digs (UInt8.ofNat n.1) = nibI (UInt8.ofNat n.1) := by decide +kernel
  have := h ⟨c.toNat, c.toNat_lt⟩
  simpa using this
theorem idx_any (c : UInt8) (w : World) : Calls Tryd.prog 77 #[.string ⟨#[48, 49, 50, 51, 52, 53, 54, 55, 56, 57, 97, 98, 99, 100, 101, 102]⟩, .int .u8 (c.toNat : Int)] w fun e w' => e = .returned (.int .i64 (nibI c)) ∧ w = w' :=
  (Tryd.strings_IndexByte _ _ w).mono fun e w' ⟨he, hw⟩ => ⟨by rw [he, toUInt8_byte, ← idx_nib]; rfl, hw.symm⟩
theorem or_i64 (x y : Int) (h1 : 0 ≤ x) (h2 : x ≤ 15) (h3 : 0 ≤ y) (h4 : y ≤ 15) : bits .or .i64 (x * 16) y = x * 16 + y := by
  have h : ∀ a b : Fin 16, bits .or .i64 (((a.1 : Nat) : Int) * 16) ((b.1 : Nat) : Int) = ((a.1 : Nat) : Int) * 16 + ((b.1 : Nat) : Int) := by decide +kernel
  have := h ⟨x.toNat, by omega⟩ ⟨y.toNat, by omega⟩
  simpa [Int.toNat_of_nonneg h1, Int.toNat_of_nonneg h3] using this

/-- Unescape: its loop -/
def unescL : Nat → List UInt8 → Option (List UInt8)
  | 0, _ => none
  | _ + 1, [] => some []
  | n + 1, c :: r => if isPlain c then (unescL n r).map (c :: ·) else
      if c ≠ 92 ∨ r.length < 2 then none else
      if nibI (r.getD 0 0) < 0 ∨ nibI (r.getD 1 0) < 0 ∨ isPlain (UInt8.ofNat (nibI (r.getD 0 0) * 16 + nibI (r.getD 1 0)).toNat) then none else
      (unescL n (r.drop 2)).map (UInt8.ofNat (nibI (r.getD 0 0) * 16 + nibI (r.getD 1 0)).toNat :: ·)
def unesc (l : List UInt8) : Option (List UInt8) := unescL (l.length + 1) l

set_option maxHeartbeats 4000000 in
theorem Unescape_any (s : ByteArray) (hs : s.size ≤ 1000000) (w : World) :
    Calls Tryd.prog 60 #[.string s] w fun e w' => e = .returned (optR (unesc s.data.toList)) ∧ Below w.heap.size w w' := by
  obtain ⟨r, hr⟩ : ∃ r, r = unesc s.data.toList := ⟨_, rfl⟩
  rw [← hr]
  unfold unesc at hr
  rw [size_string] at hr
  have HR := hide hr
  clear hr
  obtain ⟨base, hbase, HBASE⟩ : ∃ base, base ≤ w.heap.size ∧ Hid (base = w.heap.size) := ⟨_, Nat.le_refl _, rfl⟩
  go_enter Tryd.func60, Tryd.ntmps60
  go_wp2_with fail
  go_loopw [4, 5] (fun v i wr => ∃ (k n : Nat) (out : List UInt8), k ≤ s.size ∧ s.size < k + n ∧ out.length ≤ k ∧ i = .int .i64 k ∧ Own RByte 1 5 wr base No v out ∧ Below base w wr ∧ Hid (r = (unescL n (s.data.toList.drop k)).map (out ++ ·))) (fun _ i _ => s.size - (intOf i).toNat)
  case atStart => exact ⟨0, s.size + 1, [], Nat.zero_le _, by omega, by simp, rfl, Own.nil _ _ _ _ _ _, Below.refl _ _, hide (by rw [HR.out]; simp)⟩
  case round =>
    obtain ⟨k, n, out, hk, hn, hol, rfl, hown, hb, H⟩ := hrel
    obtain ⟨n, rfl⟩ : ∃ m, n = m + 1 := ⟨n - 1, by omega⟩
    have hgs : base ≤ wr.heap.size := by have := hb.size; omega
    obtain ⟨A, cp, hv⟩ := (hown.sl RByte.ok).shape
    subst hv
    by_cases hlt : k < s.size
    · have HD := hide (drop_string s k hlt)
      obtain ⟨p, hp⟩ : ∃ p, isPlain s[k] = p := ⟨_, rfl⟩
      have HP := hide hp
      go_wp2_with fail
      refine (plain_any _ _).mono ?_
      rintro e w2 ⟨rfl, rfl⟩
      rw [hp]
      clear hp
      cases p
      · by_cases h92 : s[k] = 92
        · have ht : ((s[k].toNat : Int) != 92) = false := by rw [bne, byte_eq92]; simp [h92]
          have HC := hide h92
          clear h92
          by_cases h3 : s.size < k + 3
          · have HX := hide (show unescL (n + 1) (s.data.toList.drop k) = none by
              rw [HD.out, unescL, if_neg (by simp [HP.out]), if_pos (.inr (by rw [List.length_drop, size_string]; omega))])
            go_wp2_with fail
            go_ret2
            exact ⟨ret_none (by rw [H.out, HX.out]; rfl), HBASE.out ▸ hb⟩
          · have HD1 := drop_string s (k + 1) (by omega)
            have HD2 := drop_string s (k + 2) (by omega)
            have hk0 : (0 : Int) ≤ (k : Int) := by omega
            have hk1 : (k : Int) < (s.size : Int) := by omega
            have hk2 : (0 : Int) ≤ (k : Int) + 1 := by omega
            have hk3 : (k : Int) + 1 < (s.size : Int) := by omega
            have hk4 : (0 : Int) ≤ (k : Int) + 2 := by omega
            have hk5 : (k : Int) + 2 < (s.size : Int) := by omega
            obtain ⟨a, ha⟩ : ∃ a, s[k + 1]'(by omega) = a := ⟨_, rfl⟩
            obtain ⟨b, hbv⟩ : ∃ b, s[k + 2]'(by omega) = b := ⟨_, rfl⟩
            rw [ha] at HD1
            rw [hbv] at HD2
            have hna := nibI_bd a
            have hnb := nibI_bd b
            obtain ⟨na, hna'⟩ : ∃ na, nibI a = na := ⟨_, rfl⟩
            obtain ⟨nb, hnb'⟩ : ∃ nb, nibI b = nb := ⟨_, rfl⟩
            have HX := hide (show unescL (n + 1) (s.data.toList.drop k) = if na < 0 ∨ nb < 0 ∨ isPlain (UInt8.ofNat (na * 16 + nb).toNat) then none else (unescL n (s.data.toList.drop (k + 3))).map (UInt8.ofNat (na * 16 + nb).toNat :: ·) by
              have hr0 : ∀ t : List UInt8, (a :: b :: t).getD 0 0 = a := fun _ => rfl
              have hr1 : ∀ t : List UInt8, (a :: b :: t).getD 1 0 = b := fun _ => rfl
              rw [HD.out, unescL, if_neg (by simp [HP.out]), if_neg (by rw [List.length_drop, size_string, HC.out]; simp; omega), HD1, HD2, hr0, hr1, hna', hnb']
              rfl)
            rw [hna'] at hna
            rw [hnb'] at hnb
            have hwk : IntKind.i64.wrap ((k : Int) + 1) = (k : Int) + 1 := IntWalk.i64_in _ (by omega)
            have hwk2 : IntKind.i64.wrap ((k : Int) + 2) = (k : Int) + 2 := IntWalk.i64_in _ (by omega)
            have htn : ((k : Int) + 1).toNat = k + 1 := by omega
            have htn2 : ((k : Int) + 2).toNat = k + 2 := by omega
            have hownD := fun n => hown.drewN RByte.ok n
            have hbD := fun n => below_drewN hb n
            clear HD1 HD2 hown hb
            go_wp2_with fail
            go_quiet ((go_at_call 77; exact quiet_left (idx_any _ _)))
            rw [hna', hnb']
            clear hwk hwk2 htn htn2 ha hbv hna' hnb'
            by_cases h1 : na < 0
            · have HY := hide (HX.out.trans (if_pos (.inl h1)))
              go_wp2_with fail
              go_ret2
              exact ⟨ret_none (by rw [H.out, HY.out]; rfl), HBASE.out ▸ hbD _⟩
            · by_cases h2 : nb < 0
              · have HY := hide (HX.out.trans (if_pos (.inr (.inl h2))))
                go_wp2_with fail
                go_ret2
                exact ⟨ret_none (by rw [H.out, HY.out]; rfl), HBASE.out ▸ hbD _⟩
              · have hor := or_i64 na nb (by omega) (by omega) (by omega) (by omega)
                obtain ⟨c, hc⟩ : ∃ c, c = UInt8.ofNat (na * 16 + nb).toNat := ⟨_, rfl⟩
                have hby := byte_of (na * 16 + nb) (by omega) (by omega)
                rw [← hc] at hby
                have hby' := hby.symm
                have HC2 := hide hc
                have hcl := byte_lt c
                clear hby hc
                obtain ⟨p, hp⟩ : ∃ p, isPlain c = p := ⟨_, rfl⟩
                have HP2 := hide hp
                go_wp2_with fail
                refine (plain_any c _).mono ?_
                rintro e w2 ⟨rfl, rfl⟩
                rw [hp]
                clear hp
                cases p
                · have HY := hide (HX.out.trans (if_neg (by rw [← HC2.out, HP2.out]; simp; omega)))
                  go_wp2_with (first
                    | (at_builtin; refine wpList_app RByte.ok _ rfl (.tmp 59) (.tmp 65) 46 rfl base 5 (.int .u8 0) 1 Tryd.underlying46 info_u8 rfl (by decide) No _ out rfl ((hownD _).alloc RByte.ok (no_lt _) _) ⟨_, 0, none⟩ [c].length [c].length [c] rfl rfl (news_bytes _ _ _ _ [c] rfl) (no_lt _) (by simp; omega) (by simp [maxLen]; omega) (by simp; omega) ?_; intro v2 w2 hown2 hg2 hb2 hat2; have hsz2 := hb2.size; simp at hsz2))
                  go_roundw
                  case rel => exact ⟨k + 3, n, out ++ [c], by omega, by omega, by simp; omega, by go_num, hown2, (below_alloc (hbD _) (by simp; omega) _).trans hb2, hide (by rw [H.out, HY.out, Option.map_map, ← HC2.out]; congr 1; funext z; simp)⟩
                  case measure => simp [intOf]; omega
                · have HY := hide (HX.out.trans (if_pos (.inr (.inr (by rw [← HC2.out, HP2.out])))))
                  go_wp2_with fail
                  go_ret2
                  exact ⟨ret_none (by rw [H.out, HY.out]; rfl), HBASE.out ▸ hbD _⟩
        · have ht : ((s[k].toNat : Int) != 92) = true := by rw [bne, byte_eq92]; simp [h92]
          have HX := hide (show unescL (n + 1) (s.data.toList.drop k) = none by
            rw [HD.out, unescL, if_neg (by simp [HP.out]), if_pos (.inl h92)])
          clear h92
          go_wp2_with fail
          go_ret2
          exact ⟨ret_none (by rw [H.out, HX.out]; rfl), HBASE.out ▸ hb⟩
      · obtain ⟨b, hbk⟩ : ∃ b, b = s[k] := ⟨_, rfl⟩
        have hbk' := hbk.symm
        have HX := hide (show unescL (n + 1) (s.data.toList.drop k) = (unescL n (s.data.toList.drop (k + 1))).map (b :: ·) by
          rw [HD.out, unescL, if_pos HP.out, hbk])
        clear hbk
        go_wp2_with (first
          | (at_builtin; refine wpList_app RByte.ok _ rfl (.tmp 18) (.tmp 22) 46 rfl base 5 (.int .u8 0) 1 Tryd.underlying46 info_u8 rfl (by decide) No _ out rfl (hown.alloc RByte.ok (no_lt _) _) ⟨_, 0, none⟩ [b].length [b].length [b] rfl rfl (news_bytes _ _ _ _ [b] rfl) (no_lt _) (by simp; omega) (by simp [maxLen]; omega) (by simp; omega) ?_; intro v2 w2 hown2 hg2 hb2 hat2; have hsz2 := hb2.size; simp at hsz2))
        go_roundw
        case rel => exact ⟨k + 1, n, out ++ [b], by omega, by omega, by simp; omega, by go_num, hown2, (hb.alloc (by omega) _).trans hb2, hide (by rw [H.out, HX.out, Option.map_map]; congr 1; funext z; simp)⟩
        case measure => simp [intOf]; omega
    · have HE := hide (drop_string_end s k (by omega))
      have hconv := run_bts_str (P := Tryd.prog) wr 46 9 5 Tryd.underlying46 Tryd.underlying5 Tryd.underlying9 _ _ _ (hown.sl RByte.ok)
      go_wp2_with fail
      go_ret2
      exact ⟨by rw [H.out, HE.out]; simp [optR, unescL], HBASE.out ▸ hb⟩
end Go.Proofs.YtepibepgfackkaaDoor
