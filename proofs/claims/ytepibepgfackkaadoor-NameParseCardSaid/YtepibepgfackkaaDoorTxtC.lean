/- The functions of package text and its reference, third part: Fold, Match. -/
import Derived.Test.YtepibepgfackkaaDoorTxtB
namespace Go.Proofs.YtepibepgfackkaaDoor
open Go.RowKit


def foldG : List UInt8 → Bool → List UInt8 → List UInt8
  | out, _, [] => out
  | out, gap, c :: r => if c = 32 then foldG out (!out.isEmpty) r else foldG (out ++ ((if gap then [32] else []) ++ [low c])) false r
theorem foldG_len : ∀ (l out : List UInt8) (gap : Bool), (foldG out gap l).length ≤ out.length + 2 * l.length
  | [], out, gap => by simp [foldG]
  | c :: r, out, gap => by
    unfold foldG
    split
    · have := foldG_len r out (!out.isEmpty); simp; omega
    · have := foldG_len r (out ++ ((if gap then [32] else []) ++ [low c])) false
      cases gap <;> simp at this ⊢ <;> omega

theorem byte_eq32 (c : UInt8) : ((c.toNat : Int) == 32) = (c == 32) := byte_beq c 32

set_option maxHeartbeats 2000000 in
theorem Fold_any (s : ByteArray) (hs : s.size ≤ 1000000) (w : World) :
    Calls Tryd.prog 100 #[.string s] w fun e w' => e = .returned (.string ⟨(foldG [] false s.data.toList).toArray⟩) ∧ Below w.heap.size w w' := by
  have hsz := size_string s
  generalize hl : s.data.toList = l at hsz
  have HL := hide hl
  have hsl : l.length ≤ 1000000 := by omega
  have hm : l.length ≤ maxLen := by unfold maxLen; omega
  clear hsz hl
  obtain ⟨r, hr⟩ : ∃ r, r = foldG [] false l := ⟨_, rfl⟩
  rw [← hr]
  have HR := hide hr
  clear hr
  go_enter Tryd.func100, Tryd.ntmps100
  go_wp2_with (with_reducible refine wpList_str_bts _ rfl (.tmp 7) 9 46 5 rfl Tryd.underlying9 Tryd.underlying46 Tryd.underlying5 s rfl l HL.out hm ?_; intro g c w1 hg1 hg2 hb1 hby hc1 hc2)
  go_loopw [3, 4, 10] (fun v gp i wr => ∃ (k : Nat) (out : List UInt8) (gap : Bool), k ≤ l.length ∧ out.length ≤ 2 * k ∧ i = .int .i64 k ∧ gp = .bool gap ∧ Own RByte 1 5 wr (g + 1) No v out ∧ Below (g + 1) w1 wr ∧ Hid (r = foldG out gap (l.drop k))) (fun _ _ i _ => l.length - (intOf i).toNat)
  case atStart => exact ⟨0, [], false, Nat.zero_le _, by simp, rfl, rfl, Own.nil _ _ _ _ _ _, Below.refl _ _, HR⟩
  case round =>
    obtain ⟨k, out, gap, hk, hol, rfl, rfl, hown, hb, H⟩ := hrel
    have hgs : g + 1 ≤ wr.heap.size := by have := hb.size; omega
    by_cases hlt : k < l.length
    · have hcell := (hby.keep (hb.block g (by omega))).cell hlt
      have hbb := byte_lt l[k]
      have hdr := List.drop_eq_getElem_cons hlt
      obtain ⟨b, hbk⟩ : ∃ b, b = l[k] := ⟨_, rfl⟩
      rw [← hbk] at hcell hbb hdr
      have HD := hide hdr
      clear hbk hdr
      obtain ⟨A, cp, hv⟩ := (hown.sl RByte.ok).shape
      subst hv
      by_cases h32 : b = 32
      · have H32 := hide h32
        have ht : ((b.toNat : Int) == 32) = true := by rw [byte_eq32]; simp [h32]
        clear h32
        go_wp2
        go_roundw
        case rel =>
          refine ⟨k + 1, out, !out.isEmpty, by omega, by omega, by go_num, ?_, hown, hb, hide (by rw [H.out, HD.out, foldG, if_pos H32.out])⟩
          cases out <;> simp
        case measure => simp [intOf]; omega
      · have H32 := hide h32
        have ht : ((b.toNat : Int) == 32) = false := by rw [byte_eq32]; simp [h32]
        clear h32
        by_cases hup : 65 ≤ (b.toNat : Int) ∧ (b.toNat : Int) ≤ 90
        · have HLOW := hide (low_toNat b hup)
          obtain ⟨hu1, hu2⟩ := hup
          cases gap
          · go_wp2_with (first
              | (at_builtin; refine wpList_app RByte.ok _ rfl (.tmp 31) (.tmp 33) 46 rfl (g + 1) 5 (.int .u8 0) 1 Tryd.underlying46 info_u8 rfl (by decide) No _ out rfl (hown.alloc RByte.ok (no_lt _) _) ⟨_, 0, none⟩ 1 1 [low b] rfl rfl (news_bytes _ _ _ _ [low b] (by simp [HLOW.out])) (no_lt _) (by simp; omega) (by simp [maxLen]; omega) (by simp; omega) ?_; intro v2 w2 hown2 hg2 hb2 hat2; have hsz2 := hb2.size; simp at hsz2))
            go_roundw
            case rel => exact ⟨k + 1, out ++ [low b], false, by omega, by simp; omega, by go_num, rfl, hown2, (hb.alloc (by omega) _).trans hb2, hide (by rw [H.out, HD.out, foldG, if_neg H32.out]; rfl)⟩
            case measure => simp [intOf]; omega
          · go_wp2_with (first
              | (at_builtin; refine wpList_app RByte.ok _ rfl (.tmp 20) (.tmp 21) 46 rfl (g + 1) 5 (.int .u8 0) 1 Tryd.underlying46 info_u8 rfl (by decide) No _ out rfl (hown.alloc RByte.ok (no_lt _) _) ⟨_, 0, none⟩ 1 1 [32] rfl rfl (news_bytes _ _ _ _ [32] rfl) (no_lt _) (by simp; omega) (by simp [maxLen]; omega) (by simp; omega) ?_; intro v2 w2 hown2 hg2 hb2 hat2; have hsz2 := hb2.size; simp at hsz2)
              | (at_builtin; refine wpList_app RByte.ok _ rfl (.tmp 31) (.tmp 33) 46 rfl (g + 1) 5 (.int .u8 0) 1 Tryd.underlying46 info_u8 rfl (by decide) No v2 (out ++ [32]) rfl (hown2.alloc RByte.ok (no_lt _) _) ⟨_, 0, none⟩ 1 1 [low b] rfl rfl (news_bytes _ _ _ _ [low b] (by simp [HLOW.out])) (no_lt _) (by simp; omega) (by simp [maxLen]; omega) (by simp; omega) ?_; intro v3 w3 hown3 hg3 hb3 hat3; have hsz3 := hb3.size; simp at hsz3))
            go_roundw
            case rel => exact ⟨k + 1, out ++ [32] ++ [low b], false, by omega, by simp; omega, by go_num, rfl, hown3, (((hb.alloc (by omega) _).trans hb2).alloc (by omega) _).trans hb3, hide (by rw [H.out, HD.out, foldG, if_neg H32.out, List.append_assoc]; rfl)⟩
            case measure => simp [intOf]; omega
        · have HLOW := hide (low_same b hup)
          have hb2 : (b.toNat : Int) < 65 ∨ 90 < (b.toNat : Int) := by omega
          clear hup
          rcases hb2 with hu2 | hu2
          all_goals
            cases gap
            · go_wp2_with (first
                | (at_builtin; refine wpList_app RByte.ok _ rfl (.tmp 31) (.tmp 33) 46 rfl (g + 1) 5 (.int .u8 0) 1 Tryd.underlying46 info_u8 rfl (by decide) No _ out rfl (hown.alloc RByte.ok (no_lt _) _) ⟨_, 0, none⟩ 1 1 [low b] rfl rfl (news_bytes _ _ _ _ [low b] (by simp [HLOW.out])) (no_lt _) (by simp; omega) (by simp [maxLen]; omega) (by simp; omega) ?_; intro v2 w2 hown2 hg2 hb2 hat2; have hsz2 := hb2.size; simp at hsz2))
              go_roundw
              case rel => exact ⟨k + 1, out ++ [low b], false, by omega, by simp; omega, by go_num, rfl, hown2, (hb.alloc (by omega) _).trans hb2, hide (by rw [H.out, HD.out, foldG, if_neg H32.out]; rfl)⟩
              case measure => simp [intOf]; omega
            · go_wp2_with (first
                | (at_builtin; refine wpList_app RByte.ok _ rfl (.tmp 20) (.tmp 21) 46 rfl (g + 1) 5 (.int .u8 0) 1 Tryd.underlying46 info_u8 rfl (by decide) No _ out rfl (hown.alloc RByte.ok (no_lt _) _) ⟨_, 0, none⟩ 1 1 [32] rfl rfl (news_bytes _ _ _ _ [32] rfl) (no_lt _) (by simp; omega) (by simp [maxLen]; omega) (by simp; omega) ?_; intro v2 w2 hown2 hg2 hb2 hat2; have hsz2 := hb2.size; simp at hsz2)
                | (at_builtin; refine wpList_app RByte.ok _ rfl (.tmp 31) (.tmp 33) 46 rfl (g + 1) 5 (.int .u8 0) 1 Tryd.underlying46 info_u8 rfl (by decide) No v2 (out ++ [32]) rfl (hown2.alloc RByte.ok (no_lt _) _) ⟨_, 0, none⟩ 1 1 [low b] rfl rfl (news_bytes _ _ _ _ [low b] (by simp [HLOW.out])) (no_lt _) (by simp; omega) (by simp [maxLen]; omega) (by simp; omega) ?_; intro v3 w3 hown3 hg3 hb3 hat3; have hsz3 := hb3.size; simp at hsz3))
              go_roundw
              case rel => exact ⟨k + 1, out ++ [32] ++ [low b], false, by omega, by simp; omega, by go_num, rfl, hown3, (((hb.alloc (by omega) _).trans hb2).alloc (by omega) _).trans hb3, hide (by rw [H.out, HD.out, foldG, if_neg H32.out, List.append_assoc]; rfl)⟩
              case measure => simp [intOf]; omega
    · have hkl : k = l.length := by omega
      have HE := hide (show l.drop k = [] by rw [hkl]; simp)
      clear hkl
      have hconv := run_bts_str (P := Tryd.prog) wr 46 9 5 Tryd.underlying46 Tryd.underlying5 Tryd.underlying9 _ _ _ (hown.sl RByte.ok)
      obtain ⟨A, cp, hv⟩ := (hown.sl RByte.ok).shape
      subst hv
      go_wp2
      go_ret
      exact ⟨ret_str (by rw [H.out, HE.out]; rfl), hb1.trans (hb.mono (by omega))⟩
end Go.Proofs.YtepibepgfackkaaDoor
