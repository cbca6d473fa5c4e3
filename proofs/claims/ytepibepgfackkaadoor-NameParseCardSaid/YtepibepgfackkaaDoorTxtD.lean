/- The functions of package text and its reference, fourth part: the reference's Fold; Match. -/
import Derived.Test.YtepibepgfackkaaDoorTxtC
namespace Go.Proofs.YtepibepgfackkaaDoor
open Go.RowKit


def rfoldG : List UInt8 → List UInt8 → List UInt8
  | out, [] => if out.getLast? = some 32 then out.dropLast else out
  | out, c :: r => if c ≠ 32 ∨ (out ≠ [] ∧ out.getLast? ≠ some 32) then rfoldG (out ++ [c]) r else rfoldG out r

theorem list_snoc {α : Type} (l : List α) : l = [] ∨ ∃ o x, l = o ++ [x] := by
  rcases List.eq_nil_or_concat l with h | ⟨o, x, h⟩
  · exact .inl h
  · exact .inr ⟨o, x, by simpa using h⟩

set_option maxHeartbeats 2000000 in
theorem rFold_any (s : ByteArray) (hs : s.size ≤ 1000000) (w : World) :
    Calls Tryd.prog 101 #[.string s] w fun e w' => e = .returned (.string ⟨(rfoldG [] (s.data.toList.map low)).toArray⟩) ∧ Below w.heap.size w w' := by
  have hsz := size_string s
  obtain ⟨l, hl⟩ : ∃ l, l = s.data.toList.map low := ⟨_, rfl⟩
  have hsl : l.length ≤ 1000000 := by rw [hl, List.length_map]; omega
  rw [← hl]
  have HL := hide hl.symm
  clear hsz hl
  obtain ⟨r, hr⟩ : ∃ r, r = rfoldG [] l := ⟨_, rfl⟩
  rw [← hr]
  have HR := hide hr
  clear hr
  go_enter Tryd.func101, Tryd.ntmps101
  go_wp2_with fail
  refine (Lower_any s hs _).mono ?_
  rintro e w1 ⟨rfl, hb1⟩
  rw [HL.out]
  obtain ⟨t, ht⟩ : ∃ t : ByteArray, t = ⟨l.toArray⟩ := ⟨_, rfl⟩
  rw [← ht]
  have htl : t.data.toList = l := by rw [ht]
  have hts : t.size = l.length := by rw [← size_string, htl]
  have HT := hide htl
  have hts' : t.size ≤ 1000000 := by omega
  clear hts ht htl
  obtain ⟨base, hbase⟩ : ∃ base, base = w1.heap.size := ⟨_, rfl⟩
  have HBASE := hide hbase
  clear hbase
  go_wp2_with fail
  go_loopw [3, 4] (fun v i wr => ∃ (k : Nat) (out : List UInt8), k ≤ t.size ∧ out.length ≤ k ∧ i = .int .i64 k ∧ Own RByte 1 5 wr base No v out ∧ Below base w1 wr ∧ Hid (r = rfoldG out (t.data.toList.drop k))) (fun _ i _ => t.size - (intOf i).toNat)
  case atStart => exact ⟨0, [], Nat.zero_le _, by simp, rfl, Own.nil _ _ _ _ _ _, Below.refl _ _, by rw [HT.out]; exact HR⟩
  case round =>
    obtain ⟨k, out, hk, hol, rfl, hown, hb, H⟩ := hrel
    have hgs : base ≤ wr.heap.size := by have := hb.size; have := HBASE.out; omega
    by_cases hlt : k < t.size
    · have HD := hide (drop_string t k hlt)
      have hbb := byte_lt t[k]
      by_cases h32 : t[k] = 32
      · have ht : ((t[k].toNat : Int) == 32) = true := by rw [byte_eq32]; simp [h32]
        have htn : ((t[k].toNat : Int) != 32) = false := by rw [bne, ht]; rfl
        have H32 := hide h32
        have hval : (t[k].toNat : Int) = 32 := by rw [h32]; rfl
        have HVAL := hide hval
        clear h32 hval
        rcases list_snoc out with rfl | ⟨o, x, rfl⟩
        · obtain ⟨A, cp, hv⟩ := (hown.sl RByte.ok).shape
          subst hv
          go_wp2_with fail
          go_roundw
          case rel => exact ⟨k + 1, [], by omega, by simp, by go_num, hown, hb, hide (by rw [H.out, HD.out, rfoldG, if_neg (by simp [H32.out])])⟩
          case measure => simp [intOf]; omega
        · obtain ⟨g', cap, rfl, hcap, hcm, hcell⟩ := hown.last
          have hxx := byte_lt x
          simp only [List.length_append, List.length_cons, List.length_nil] at hol
          unfold maxLen at hcm
          by_cases hx : x = 32
          · have hx1 : ((x.toNat : Int) != 32) = false := by rw [bne, byte_eq32]; simp [hx]
            have HX := hide hx
            clear hx
            go_wp2_with fail
            go_roundw
            case rel => exact ⟨k + 1, o ++ [x], by omega, by simp; omega, by go_num, hown, hb, hide (by rw [H.out, HD.out, rfoldG, if_neg (by simp [H32.out, HX.out])])⟩
            case measure => simp [intOf]; omega
          · have hx1 : ((x.toNat : Int) != 32) = true := by rw [bne, byte_eq32]; simp [hx]
            have HX := hide hx
            clear hx
            go_wp2_with (first
              | (at_builtin; refine wpList_app RByte.ok _ rfl (.tmp 31) (.tmp 35) 46 rfl base 5 (.int .u8 0) 1 Tryd.underlying46 info_u8 rfl (by decide) No _ (o ++ [x]) rfl (hown.alloc RByte.ok (no_lt _) _) ⟨_, 0, none⟩ 1 1 [t[k]] rfl rfl (news_bytes _ _ _ _ [t[k]] rfl) (no_lt _) (by simp; omega) (by simp [maxLen]; omega) (by simp; omega) ?_; intro v2 w2 hown2 hg2 hb2 hat2; have hsz2 := hb2.size; simp at hsz2))
            go_roundw
            case rel => exact ⟨k + 1, o ++ [x] ++ [t[k]], by omega, by simp; omega, by go_num, hown2, (hb.alloc (by omega) _).trans hb2, hide (by rw [H.out, HD.out, rfoldG, if_pos (by simp [HX.out])])⟩
            case measure => simp [intOf]; omega
      · have ht : ((t[k].toNat : Int) == 32) = false := by rw [byte_eq32]; simp [h32]
        have htn : ((t[k].toNat : Int) != 32) = true := by rw [bne, ht]; rfl
        have H32 := hide h32
        clear h32
        go_wp2_with (first
          | (at_builtin; refine wpList_app RByte.ok _ rfl (.tmp 31) (.tmp 35) 46 rfl base 5 (.int .u8 0) 1 Tryd.underlying46 info_u8 rfl (by decide) No _ out rfl (hown.alloc RByte.ok (no_lt _) _) ⟨_, 0, none⟩ 1 1 [t[k]] rfl rfl (news_bytes _ _ _ _ [t[k]] rfl) (no_lt _) (by simp; omega) (by simp [maxLen]; omega) (by simp; omega) ?_; intro v2 w2 hown2 hg2 hb2 hat2; have hsz2 := hb2.size; simp at hsz2))
        go_roundw
        case rel => exact ⟨k + 1, out ++ [t[k]], by omega, by simp; omega, by go_num, hown2, (hb.alloc (by omega) _).trans hb2, hide (by rw [H.out, HD.out, rfoldG, if_pos (by simp [H32.out])])⟩
        case measure => simp [intOf]; omega
    · have HE := hide (drop_string_end t k (by omega))
      have hbw : Below w.heap.size w wr := hb1.trans (hb.mono (by rw [HBASE.out]; exact hb1.size))
      rcases list_snoc out with rfl | ⟨o, x, rfl⟩
      · have hconv := run_bts_str (P := Tryd.prog) wr 46 9 5 Tryd.underlying46 Tryd.underlying5 Tryd.underlying9 _ _ _ (hown.sl RByte.ok)
        obtain ⟨A, cp, hv⟩ := (hown.sl RByte.ok).shape
        subst hv
        simp only [List.length_nil] at hconv
        go_wp2_with fail
        go_ret
        exact ⟨ret_str (by rw [H.out, HE.out]; rfl), hbw⟩
      · have hsl2 := hown.sl RByte.ok
        have hconv := run_bts_str (P := Tryd.prog) wr 46 9 5 Tryd.underlying46 Tryd.underlying5 Tryd.underlying9 _ _ _ hsl2
        obtain ⟨g', cap, rfl, hcap, hcm, hcell⟩ := hown.last
        have hconv2 := run_bts_str (P := Tryd.prog) wr 46 9 5 Tryd.underlying46 Tryd.underlying5 Tryd.underlying9 _ _ _ hsl2.take_
        clear hsl2
        have hxx := byte_lt x
        simp only [List.length_append, List.length_cons, List.length_nil] at hol
        unfold maxLen at hcm
        by_cases hx : x = 32
        · have hx1 : ((x.toNat : Int) == 32) = true := by rw [byte_eq32]; simp [hx]
          have HX := hide hx
          clear hx
          go_wp2_with fail
          go_ret
          exact ⟨ret_str (by rw [H.out, HE.out, HX.out]; simp [rfoldG]), hbw⟩
        · have hx1 : ((x.toNat : Int) == 32) = false := by rw [byte_eq32]; simp [hx]
          have HX := hide hx
          clear hx
          go_wp2_with fail
          go_ret
          exact ⟨ret_str (by rw [H.out, HE.out]; simp [rfoldG, HX.out]), hbw⟩

theorem string_beq (a b : List UInt8) : ((⟨a.toArray⟩ : ByteArray).toList == (⟨b.toArray⟩ : ByteArray).toList) = (a == b) := by simp

set_option maxHeartbeats 400000 in
theorem Match_any (a b : ByteArray) (ha : a.size ≤ 1000000) (hb : b.size ≤ 1000000) (w : World) :
    Calls Tryd.prog 79 #[.string a, .string b] w fun e w' => e = .returned (.bool (foldG [] false a.data.toList == foldG [] false b.data.toList)) ∧ Below w.heap.size w w' := by
  go_enter Tryd.func79, Tryd.ntmps79
  go_wp2_with fail
  refine (Fold_any a ha _).mono ?_
  rintro e w1 ⟨rfl, hb1⟩
  go_wp2_with fail
  refine (Fold_any b hb _).mono ?_
  rintro e w2 ⟨rfl, hb2⟩
  go_wp2_with fail
  go_ret
  exact ⟨ret_bool (by simp), hb1.trans (hb2.mono hb1.size)⟩

set_option maxHeartbeats 400000 in
theorem rMatch_any (a b : ByteArray) (ha : a.size ≤ 1000000) (hb : b.size ≤ 1000000) (w : World) :
    Calls Tryd.prog 80 #[.string a, .string b] w fun e w' => e = .returned (.bool (rfoldG [] (a.data.toList.map low) == rfoldG [] (b.data.toList.map low))) ∧ Below w.heap.size w w' := by
  go_enter Tryd.func80, Tryd.ntmps80
  go_wp2_with fail
  refine (rFold_any a ha _).mono ?_
  rintro e w1 ⟨rfl, hb1⟩
  go_wp2_with fail
  refine (rFold_any b hb _).mono ?_
  rintro e w2 ⟨rfl, hb2⟩
  go_wp2_with fail
  go_ret
  exact ⟨ret_bool (by simp), hb1.trans (hb2.mono hb1.size)⟩
end Go.Proofs.YtepibepgfackkaaDoor
