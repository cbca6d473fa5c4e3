/- The functions of package text and its reference, third part: Fold, Match. -/
import Derived.Test.YtbafpgdmnkkclaaGreatDoorTxt1
import Derived.Deep.RegionHeld3
import Derived.Deep.QuietTactic
import Derived.BigQuiet
namespace Go.Proofs.YtbafpgdmnkkclaaGreatDoor
open Go.RowKit


def foldG : List UInt8 → Bool → List UInt8 → List UInt8
  | out, _, [] => out
  | out, gap, c :: r => if c = 32 then foldG out (!out.isEmpty) r else foldG (out ++ ((if gap then [32] else []) ++ [low c])) false r
theorem foldG_len : ∀ (l out : List UInt8) (gap : Bool), (foldG out gap l).length ≤ out.length + 2 * l.length
  | [], out, gap => by simp [foldG]
  | c :: r, out, gap => by
    unfold foldG
    split
    · have := foldG_len r out (!out.isEmpty); simp; omega
    · have := foldG_len r (out ++ ((if gap then [32] else []) ++ [low c])) false
      cases gap <;> simp at this ⊢ <;> omega

theorem byte_eq32 (c : UInt8) : ((c.toNat : Int) == 32) = (c == 32) := byte_beq c 32

set_option maxHeartbeats 2000000 in
theorem Fold_any (s : ByteArray) (hs : s.size ≤ 1000000) (w : World) :
    Calls Tryz.prog 61 #[.string s] w fun e w' => e = .returned (.string ⟨(foldG [] false s.data.toList).toArray⟩) ∧ Below w.heap.size w w' := by
  have hsz := size_string s
  generalize hl : s.data.toList = l at hsz
  have HL := hide hl
  have hsl : l.length ≤ 1000000 := by omega
  have hm : l.length ≤ maxLen := by unfold maxLen; omega
  clear hsz hl
  obtain ⟨r, hr⟩ : ∃ r, r = foldG [] false l := ⟨_, rfl⟩
  rw [← hr]
  have HR := hide hr
  clear hr
  go_enter Tryz.func61, Tryz.ntmps61
  go_wp2_with (with_reducible refine wpList_str_bts _ rfl (.tmp 7) 9 59 5 rfl Tryz.underlying9 Tryz.underlying59 Tryz.underlying5 s rfl l HL.out hm ?_; intro g c w1 hg1 hg2 hb1 hby hc1 hc2)
  go_loopw [3, 4, 10] (fun v gp i wr => ∃ (k : Nat) (out : List UInt8) (gap : Bool), k ≤ l.length ∧ out.length ≤ 2 * k ∧ i = .int .i64 k ∧ gp = .bool gap ∧ Own RByte 1 5 wr (g + 1) No v out ∧ Below (g + 1) w1 wr ∧ Hid (r = foldG out gap (l.drop k))) (fun _ _ i _ => l.length - (intOf i).toNat)
  case atStart => exact ⟨0, [], false, Nat.zero_le _, by simp, rfl, rfl, Own.nil _ _ _ _ _ _, Below.refl _ _, HR⟩
  case round =>
    obtain ⟨k, out, gap, hk, hol, rfl, rfl, hown, hb, H⟩ := hrel
    have hgs : g + 1 ≤ wr.heap.size := by have := hb.size; omega
    by_cases hlt : k < l.length
    · have hcell := (hby.keep (hb.block g (by omega))).cell hlt
      have hbb := byte_lt l[k]
      have hdr := List.drop_eq_getElem_cons hlt
      obtain ⟨b, hbk⟩ : ∃ b, b = l[k] := ⟨_, rfl⟩
      rw [← hbk] at hcell hbb hdr
      have HD := hide hdr
      clear hbk hdr
      obtain ⟨A, cp, hv⟩ := (hown.sl RByte.ok).shape
      subst hv
      by_cases h32 : b = 32
      · have H32 := hide h32
        have ht : ((b.toNat : Int) == 32) = true := by rw [byte_eq32]; simp [h32]
        clear h32
        go_wp2
        go_roundw
        case rel =>
          refine ⟨k + 1, out, !out.isEmpty, by omega, by omega, by go_num, ?_, hown, hb, hide (by rw [H.out, HD.out, foldG, if_pos H32.out])⟩
          cases out <;> simp
        case measure => simp [intOf]; omega
      · have H32 := hide h32
        have ht : ((b.toNat : Int) == 32) = false := by rw [byte_eq32]; simp [h32]
        clear h32
        by_cases hup : 65 ≤ (b.toNat : Int) ∧ (b.toNat : Int) ≤ 90
        · have HLOW := hide (low_toNat b hup)
          obtain ⟨hu1, hu2⟩ := hup
          cases gap
          · go_wp2_with (first
              | (at_builtin; refine wpList_app RByte.ok _ rfl (.tmp 31) (.tmp 33) 59 rfl (g + 1) 5 (.int .u8 0) 1 Tryz.underlying59 info_u8 rfl (by decide) No _ out rfl (hown.alloc RByte.ok (no_lt _) _) ⟨_, 0, none⟩ 1 1 [low b] rfl rfl (news_bytes _ _ _ _ [low b] (by simp [HLOW.out])) (no_lt _) (by simp; omega) (by simp [maxLen]; omega) (by simp; omega) ?_; intro v2 w2 hown2 hg2 hb2 hat2; have hsz2 := hb2.size; simp at hsz2))
            go_roundw
            case rel => exact ⟨k + 1, out ++ [low b], false, by omega, by simp; omega, by go_num, rfl, hown2, (hb.alloc (by omega) _).trans hb2, hide (by rw [H.out, HD.out, foldG, if_neg H32.out]; rfl)⟩
            case measure => simp [intOf]; omega
          · go_wp2_with (first
              | (at_builtin; refine wpList_app RByte.ok _ rfl (.tmp 20) (.tmp 21) 59 rfl (g + 1) 5 (.int .u8 0) 1 Tryz.underlying59 info_u8 rfl (by decide) No _ out rfl (hown.alloc RByte.ok (no_lt _) _) ⟨_, 0, none⟩ 1 1 [32] rfl rfl (news_bytes _ _ _ _ [32] rfl) (no_lt _) (by simp; omega) (by simp [maxLen]; omega) (by simp; omega) ?_; intro v2 w2 hown2 hg2 hb2 hat2; have hsz2 := hb2.size; simp at hsz2)
              | (at_builtin; refine wpList_app RByte.ok _ rfl (.tmp 31) (.tmp 33) 59 rfl (g + 1) 5 (.int .u8 0) 1 Tryz.underlying59 info_u8 rfl (by decide) No v2 (out ++ [32]) rfl (hown2.alloc RByte.ok (no_lt _) _) ⟨_, 0, none⟩ 1 1 [low b] rfl rfl (news_bytes _ _ _ _ [low b] (by simp [HLOW.out])) (no_lt _) (by simp; omega) (by simp [maxLen]; omega) (by simp; omega) ?_; intro v3 w3 hown3 hg3 hb3 hat3; have hsz3 := hb3.size; simp at hsz3))
            go_roundw
            case rel => exact ⟨k + 1, out ++ [32] ++ [low b], false, by omega, by simp; omega, by go_num, rfl, hown3, (((hb.alloc (by omega) _).trans hb2).alloc (by omega) _).trans hb3, hide (by rw [H.out, HD.out, foldG, if_neg H32.out, List.append_assoc]; rfl)⟩
            case measure => simp [intOf]; omega
        · have HLOW := hide (low_same b hup)
          have hb2 : (b.toNat : Int) < 65 ∨ 90 < (b.toNat : Int) := by omega
          clear hup
          rcases hb2 with hu2 | hu2
          all_goals
            cases gap
            · go_wp2_with (first
                | (at_builtin; refine wpList_app RByte.ok _ rfl (.tmp 31) (.tmp 33) 59 rfl (g + 1) 5 (.int .u8 0) 1 Tryz.underlying59 info_u8 rfl (by decide) No _ out rfl (hown.alloc RByte.ok (no_lt _) _) ⟨_, 0, none⟩ 1 1 [low b] rfl rfl (news_bytes _ _ _ _ [low b] (by simp [HLOW.out])) (no_lt _) (by simp; omega) (by simp [maxLen]; omega) (by simp; omega) ?_; intro v2 w2 hown2 hg2 hb2 hat2; have hsz2 := hb2.size; simp at hsz2))
              go_roundw
              case rel => exact ⟨k + 1, out ++ [low b], false, by omega, by simp; omega, by go_num, rfl, hown2, (hb.alloc (by omega) _).trans hb2, hide (by rw [H.out, HD.out, foldG, if_neg H32.out]; rfl)⟩
              case measure => simp [intOf]; omega
            · go_wp2_with (first
                | (at_builtin; refine wpList_app RByte.ok _ rfl (.tmp 20) (.tmp 21) 59 rfl (g + 1) 5 (.int .u8 0) 1 Tryz.underlying59 info_u8 rfl (by decide) No _ out rfl (hown.alloc RByte.ok (no_lt _) _) ⟨_, 0, none⟩ 1 1 [32] rfl rfl (news_bytes _ _ _ _ [32] rfl) (no_lt _) (by simp; omega) (by simp [maxLen]; omega) (by simp; omega) ?_; intro v2 w2 hown2 hg2 hb2 hat2; have hsz2 := hb2.size; simp at hsz2)
                | (at_builtin; refine wpList_app RByte.ok _ rfl (.tmp 31) (.tmp 33) 59 rfl (g + 1) 5 (.int .u8 0) 1 Tryz.underlying59 info_u8 rfl (by decide) No v2 (out ++ [32]) rfl (hown2.alloc RByte.ok (no_lt _) _) ⟨_, 0, none⟩ 1 1 [low b] rfl rfl (news_bytes _ _ _ _ [low b] (by simp [HLOW.out])) (no_lt _) (by simp; omega) (by simp [maxLen]; omega) (by simp; omega) ?_; intro v3 w3 hown3 hg3 hb3 hat3; have hsz3 := hb3.size; simp at hsz3))
              go_roundw
              case rel => exact ⟨k + 1, out ++ [32] ++ [low b], false, by omega, by simp; omega, by go_num, rfl, hown3, (((hb.alloc (by omega) _).trans hb2).alloc (by omega) _).trans hb3, hide (by rw [H.out, HD.out, foldG, if_neg H32.out, List.append_assoc]; rfl)⟩
              case measure => simp [intOf]; omega
    · have hkl : k = l.length := by omega
      have HE := hide (show l.drop k = [] by rw [hkl]; simp)
      clear hkl
      have hconv := run_bts_str (P := Tryz.prog) wr 59 9 5 Tryz.underlying59 Tryz.underlying5 Tryz.underlying9 _ _ _ (hown.sl RByte.ok)
      obtain ⟨A, cp, hv⟩ := (hown.sl RByte.ok).shape
      subst hv
      go_wp2
      go_ret
      exact ⟨ret_str (by rw [H.out, HE.out]; rfl), hb1.trans (hb.mono (by omega))⟩
end Go.Proofs.YtbafpgdmnkkclaaGreatDoor

/- The functions of package text and its reference, fourth part: the reference's Fold; Match. -/
namespace Go.Proofs.YtbafpgdmnkkclaaGreatDoor
open Go.RowKit


def rfoldG : List UInt8 → List UInt8 → List UInt8
  | out, [] => if out.getLast? = some 32 then out.dropLast else out
  | out, c :: r => if c ≠ 32 ∨ (out ≠ [] ∧ out.getLast? ≠ some 32) then rfoldG (out ++ [c]) r else rfoldG out r

theorem list_snoc {α : Type} (l : List α) : l = [] ∨ ∃ o x, l = o ++ [x] := by
  rcases List.eq_nil_or_concat l with h | ⟨o, x, h⟩
  · exact .inl h
  · exact .inr ⟨o, x, by simpa using h⟩

set_option maxHeartbeats 2000000 in
theorem rFold_any (s : ByteArray) (hs : s.size ≤ 1000000) (w : World) :
    Calls Tryz.prog 176 #[.string s] w fun e w' => e = .returned (.string ⟨(rfoldG [] (s.data.toList.map low)).toArray⟩) ∧ Below w.heap.size w w' := by
  have hsz := size_string s
  obtain ⟨l, hl⟩ : ∃ l, l = s.data.toList.map low := ⟨_, rfl⟩
  have hsl : l.length ≤ 1000000 := by rw [hl, List.length_map]; omega
  rw [← hl]
  have HL := hide hl.symm
  clear hsz hl
  obtain ⟨r, hr⟩ : ∃ r, r = rfoldG [] l := ⟨_, rfl⟩
  rw [← hr]
  have HR := hide hr
  clear hr
  go_enter Tryz.func176, Tryz.ntmps176
  go_wp2_with fail
  refine (Lower_any s hs _).mono ?_
  rintro e w1 ⟨rfl, hb1⟩
  rw [HL.out]
  obtain ⟨t, ht⟩ : ∃ t : ByteArray, t = ⟨l.toArray⟩ := ⟨_, rfl⟩
  rw [← ht]
  have htl : t.data.toList = l := by rw [ht]
  have hts : t.size = l.length := by rw [← size_string, htl]
  have HT := hide htl
  have hts' : t.size ≤ 1000000 := by omega
  clear hts ht htl
  obtain ⟨base, hbase⟩ : ∃ base, base = w1.heap.size := ⟨_, rfl⟩
  have HBASE := hide hbase
  clear hbase
  go_wp2_with fail
  go_loopw [3, 4] (fun v i wr => ∃ (k : Nat) (out : List UInt8), k ≤ t.size ∧ out.length ≤ k ∧ i = .int .i64 k ∧ Own RByte 1 5 wr base No v out ∧ Below base w1 wr ∧ Hid (r = rfoldG out (t.data.toList.drop k))) (fun _ i _ => t.size - (intOf i).toNat)
  case atStart => exact ⟨0, [], Nat.zero_le _, by simp, rfl, Own.nil _ _ _ _ _ _, Below.refl _ _, by rw [HT.out]; exact HR⟩
  case round =>
    obtain ⟨k, out, hk, hol, rfl, hown, hb, H⟩ := hrel
    have hgs : base ≤ wr.heap.size := by have := hb.size; have := HBASE.out; omega
    by_cases hlt : k < t.size
    · have HD := hide (drop_string t k hlt)
      have hbb := byte_lt t[k]
      by_cases h32 : t[k] = 32
      · have ht : ((t[k].toNat : Int) == 32) = true := by rw [byte_eq32]; simp [h32]
        have htn : ((t[k].toNat : Int) != 32) = false := by rw [bne, ht]; rfl
        have H32 := hide h32
        have hval : (t[k].toNat : Int) = 32 := by rw [h32]; rfl
        have HVAL := hide hval
        clear h32 hval
        rcases list_snoc out with rfl | ⟨o, x, rfl⟩
        · obtain ⟨A, cp, hv⟩ := (hown.sl RByte.ok).shape
          subst hv
          go_wp2_with fail
          go_roundw
          case rel => exact ⟨k + 1, [], by omega, by simp, by go_num, hown, hb, hide (by rw [H.out, HD.out, rfoldG, if_neg (by simp [H32.out])])⟩
          case measure => simp [intOf]; omega
        · obtain ⟨g', cap, rfl, hcap, hcm, hcell⟩ := hown.last
          have hxx := byte_lt x
          simp only [List.length_append, List.length_cons, List.length_nil] at hol
          unfold maxLen at hcm
          by_cases hx : x = 32
          · have hx1 : ((x.toNat : Int) != 32) = false := by rw [bne, byte_eq32]; simp [hx]
            have HX := hide hx
            clear hx
            go_wp2_with fail
            go_roundw
            case rel => exact ⟨k + 1, o ++ [x], by omega, by simp; omega, by go_num, hown, hb, hide (by rw [H.out, HD.out, rfoldG, if_neg (by simp [H32.out, HX.out])])⟩
            case measure => simp [intOf]; omega
          · have hx1 : ((x.toNat : Int) != 32) = true := by rw [bne, byte_eq32]; simp [hx]
            have HX := hide hx
            clear hx
            go_wp2_with (first
              | (at_builtin; refine wpList_app RByte.ok _ rfl (.tmp 31) (.tmp 35) 59 rfl base 5 (.int .u8 0) 1 Tryz.underlying59 info_u8 rfl (by decide) No _ (o ++ [x]) rfl (hown.alloc RByte.ok (no_lt _) _) ⟨_, 0, none⟩ 1 1 [t[k]] rfl rfl (news_bytes _ _ _ _ [t[k]] rfl) (no_lt _) (by simp; omega) (by simp [maxLen]; omega) (by simp; omega) ?_; intro v2 w2 hown2 hg2 hb2 hat2; have hsz2 := hb2.size; simp at hsz2))
            go_roundw
            case rel => exact ⟨k + 1, o ++ [x] ++ [t[k]], by omega, by simp; omega, by go_num, hown2, (hb.alloc (by omega) _).trans hb2, hide (by rw [H.out, HD.out, rfoldG, if_pos (by simp [HX.out])])⟩
            case measure => simp [intOf]; omega
      · have ht : ((t[k].toNat : Int) == 32) = false := by rw [byte_eq32]; simp [h32]
        have htn : ((t[k].toNat : Int) != 32) = true := by rw [bne, ht]; rfl
        have H32 := hide h32
        clear h32
        go_wp2_with (first
          | (at_builtin; refine wpList_app RByte.ok _ rfl (.tmp 31) (.tmp 35) 59 rfl base 5 (.int .u8 0) 1 Tryz.underlying59 info_u8 rfl (by decide) No _ out rfl (hown.alloc RByte.ok (no_lt _) _) ⟨_, 0, none⟩ 1 1 [t[k]] rfl rfl (news_bytes _ _ _ _ [t[k]] rfl) (no_lt _) (by simp; omega) (by simp [maxLen]; omega) (by simp; omega) ?_; intro v2 w2 hown2 hg2 hb2 hat2; have hsz2 := hb2.size; simp at hsz2))
        go_roundw
        case rel => exact ⟨k + 1, out ++ [t[k]], by omega, by simp; omega, by go_num, hown2, (hb.alloc (by omega) _).trans hb2, hide (by rw [H.out, HD.out, rfoldG, if_pos (by simp [H32.out])])⟩
        case measure => simp [intOf]; omega
    · have HE := hide (drop_string_end t k (by omega))
      have hbw : Below w.heap.size w wr := hb1.trans (hb.mono (by rw [HBASE.out]; exact hb1.size))
      rcases list_snoc out with rfl | ⟨o, x, rfl⟩
      · have hconv := run_bts_str (P := Tryz.prog) wr 59 9 5 Tryz.underlying59 Tryz.underlying5 Tryz.underlying9 _ _ _ (hown.sl RByte.ok)
        obtain ⟨A, cp, hv⟩ := (hown.sl RByte.ok).shape
        subst hv
        simp only [List.length_nil] at hconv
        go_wp2_with fail
        go_ret
        exact ⟨ret_str (by rw [H.out, HE.out]; rfl), hbw⟩
      · have hsl2 := hown.sl RByte.ok
        have hconv := run_bts_str (P := Tryz.prog) wr 59 9 5 Tryz.underlying59 Tryz.underlying5 Tryz.underlying9 _ _ _ hsl2
        obtain ⟨g', cap, rfl, hcap, hcm, hcell⟩ := hown.last
        have hconv2 := run_bts_str (P := Tryz.prog) wr 59 9 5 Tryz.underlying59 Tryz.underlying5 Tryz.underlying9 _ _ _ hsl2.take_
        clear hsl2
        have hxx := byte_lt x
        simp only [List.length_append, List.length_cons, List.length_nil] at hol
        unfold maxLen at hcm
        by_cases hx : x = 32
        · have hx1 : ((x.toNat : Int) == 32) = true := by rw [byte_eq32]; simp [hx]
          have HX := hide hx
          clear hx
          go_wp2_with fail
          go_ret
          exact ⟨ret_str (by rw [H.out, HE.out, HX.out]; simp [rfoldG]), hbw⟩
        · have hx1 : ((x.toNat : Int) == 32) = false := by rw [byte_eq32]; simp [hx]
          have HX := hide hx
          clear hx
          go_wp2_with fail
          go_ret
          exact ⟨ret_str (by rw [H.out, HE.out]; simp [rfoldG, HX.out]), hbw⟩

theorem string_beq (a b : List UInt8) : ((⟨a.toArray⟩ : ByteArray).toList == (⟨b.toArray⟩ : ByteArray).toList) = (a == b) := by simp

set_option maxHeartbeats 400000 in
theorem Match_any (a b : ByteArray) (ha : a.size ≤ 1000000) (hb : b.size ≤ 1000000) (w : World) :
    Calls Tryz.prog 168 #[.string a, .string b] w fun e w' => e = .returned (.bool (foldG [] false a.data.toList == foldG [] false b.data.toList)) ∧ Below w.heap.size w w' := by
  go_enter Tryz.func168, Tryz.ntmps168
  go_wp2_with fail
  refine (Fold_any a ha _).mono ?_
  rintro e w1 ⟨rfl, hb1⟩
  go_wp2_with fail
  refine (Fold_any b hb _).mono ?_
  rintro e w2 ⟨rfl, hb2⟩
  go_wp2_with fail
  go_ret
  exact ⟨ret_bool (by simp), hb1.trans (hb2.mono hb1.size)⟩

set_option maxHeartbeats 400000 in
theorem rMatch_any (a b : ByteArray) (ha : a.size ≤ 1000000) (hb : b.size ≤ 1000000) (w : World) :
    Calls Tryz.prog 157 #[.string a, .string b] w fun e w' => e = .returned (.bool (rfoldG [] (a.data.toList.map low) == rfoldG [] (b.data.toList.map low))) ∧ Below w.heap.size w w' := by
  go_enter Tryz.func157, Tryz.ntmps157
  go_wp2_with fail
  refine (rFold_any a ha _).mono ?_
  rintro e w1 ⟨rfl, hb1⟩
  go_wp2_with fail
  refine (rFold_any b hb _).mono ?_
  rintro e w2 ⟨rfl, hb2⟩
  go_wp2_with fail
  go_ret
  exact ⟨ret_bool (by simp), hb1.trans (hb2.mono hb1.size)⟩
end Go.Proofs.YtbafpgdmnkkclaaGreatDoor

/- The functions of package text and its reference, fifth part: Escape, hexadecimal digits, Unescape. -/
namespace Go.Proofs.YtbafpgdmnkkclaaGreatDoor
open Go.RowKit

def digs : List UInt8 := [48, 49, 50, 51, 52, 53, 54, 55, 56, 57, 97, 98, 99, 100, 101, 102]
def hexd (n : Nat) : UInt8 := digs.getD n 0
def escB (c : UInt8) : List UInt8 := if isPlain c then [c] else [92, hexd (c.toNat / 16), hexd (c.toNat % 16)]



theorem hexd_at (n : Nat) (h : n < 16) : ((⟨#[48, 49, 50, 51, 52, 53, 54, 55, 56, 57, 97, 98, 99, 100, 101, 102]⟩ : ByteArray)[n]'h) = hexd n := by
  have : ∀ n : Fin 16, ((⟨#[48, 49, 50, 51, 52, 53, 54, 55, 56, 57, 97, 98, 99, 100, 101, 102]⟩ : ByteArray)[n.1]'n.2) = hexd n.1 := by decide
  exact this ⟨n, h⟩
theorem nibbles (b : UInt8) : ∃ x y : Nat, (x : Int) < 16 ∧ (y : Int) < 16 ∧ (0 : Int) ≤ (x : Int) ∧ (0 : Int) ≤ (y : Int) ∧ (b.toNat : Int) / 16 = (x : Int) ∧ bits .and .u8 (b.toNat : Int) 15 = (y : Int) ∧
    (∀ h : x < 16, ((⟨#[48, 49, 50, 51, 52, 53, 54, 55, 56, 57, 97, 98, 99, 100, 101, 102]⟩ : ByteArray)[x]'h) = hexd x) ∧ (∀ h : y < 16, ((⟨#[48, 49, 50, 51, 52, 53, 54, 55, 56, 57, 97, 98, 99, 100, 101, 102]⟩ : ByteArray)[y]'h) = hexd y) ∧
    Hid (b.toNat / 16 = x ∧ b.toNat % 16 = y) := by
  have hb := b.toNat_lt
  refine ⟨b.toNat / 16, b.toNat % 16, by omega, by omega, by omega, by omega, by omega, ?_, hexd_at _, hexd_at _, ⟨rfl, rfl⟩⟩
  have h := u8_and15 (x := (b.toNat : Int)) (by omega) (by omega)
  exact h.trans (by omega)

set_option maxHeartbeats 2000000 in
theorem Escape_any (s : ByteArray) (hs : s.size ≤ 1000000) (w : World) :
    Calls Tryz.prog 50 #[.string s] w fun e w' => e = .returned (.string ⟨(s.data.toList.flatMap escB).toArray⟩) ∧ Below w.heap.size w w' := by
  have hsz := size_string s
  generalize hl : s.data.toList = l at hsz
  have HL := hide hl
  have hsl : l.length ≤ 1000000 := by omega
  have hm : l.length ≤ maxLen := by unfold maxLen; omega
  clear hsz hl
  obtain ⟨r, hr⟩ : ∃ r, r = l.flatMap escB := ⟨_, rfl⟩
  rw [← hr]
  have HR := hide hr
  clear hr
  go_enter Tryz.func50, Tryz.ntmps50
  go_wp2_with (with_reducible refine wpList_str_bts _ rfl (.tmp 6) 9 59 5 rfl Tryz.underlying9 Tryz.underlying59 Tryz.underlying5 s rfl l HL.out hm ?_; intro g c w1 hg1 hg2 hb1 hby hc1 hc2)
  obtain ⟨base, hgb, hbase⟩ : ∃ base, g < base ∧ base ≤ w1.heap.size := ⟨g + 1, by omega, by omega⟩
  go_loopw [3, 9] (fun v i wr => ∃ (k : Nat) (out : List UInt8), k ≤ l.length ∧ out.length ≤ 3 * k ∧ i = .int .i64 k ∧ Own RByte 1 5 wr base No v out ∧ Below base w1 wr ∧ Hid (r = out ++ (l.drop k).flatMap escB)) (fun _ i _ => l.length - (intOf i).toNat)
  case atStart => exact ⟨0, [], Nat.zero_le _, by simp, rfl, Own.nil _ _ _ _ _ _, Below.refl _ _, HR⟩
  case round =>
    obtain ⟨k, out, hk, hol, rfl, hown, hb, H⟩ := hrel
    have hgs : base ≤ wr.heap.size := by have := hb.size; omega
    by_cases hlt : k < l.length
    · have hcell := (hby.keep (hb.block g (by omega))).cell hlt
      have hbb := byte_lt l[k]
      have hdr := List.drop_eq_getElem_cons hlt
      obtain ⟨b, hbk⟩ : ∃ b, b = l[k] := ⟨_, rfl⟩
      rw [← hbk] at hcell hbb hdr
      have HD := hide hdr
      clear hbk hdr
      obtain ⟨A, cp, hv⟩ := (hown.sl RByte.ok).shape
      subst hv
      go_wp2_with fail
      refine (plain_any b _).mono ?_
      rintro e w2 ⟨rfl, rfl⟩
      by_cases hp : isPlain b = true
      · have HP := hide hp
        rw [hp]
        clear hp
        go_wp2_with (first
          | (at_builtin; refine wpList_app RByte.ok _ rfl (.tmp 15) (.tmp 17) 59 rfl base 5 (.int .u8 0) 1 Tryz.underlying59 info_u8 rfl (by decide) No _ out rfl (hown.alloc RByte.ok (no_lt _) _) ⟨_, 0, none⟩ [b].length [b].length [b] rfl rfl (news_bytes _ _ _ _ [b] rfl) (no_lt _) (by simp; omega) (by simp [maxLen]; omega) (by simp; omega) ?_; intro v2 w2 hown2 hg2 hb2 hat2; have hsz2 := hb2.size; simp at hsz2))
        go_roundw
        case rel => exact ⟨k + 1, out ++ [b], by omega, by simp; omega, by go_num, hown2, (hb.alloc (by omega) _).trans hb2, hide (by rw [H.out, HD.out, List.flatMap_cons, escB, if_pos HP.out, List.append_assoc])⟩
        case measure => simp [intOf]; omega
      · have hp' : isPlain b = false := by simpa using hp
        have HP := hide hp'
        rw [hp']
        clear hp hp'
        go_wp2_with fail
        obtain ⟨x, y, hx16, hy16, hx0, hy0, hq, hr, hex, hey, hxy⟩ := nibbles b
        have HE := hide (show r = (out ++ [92, hexd x, hexd y]) ++ (l.drop (k + 1)).flatMap escB by rw [H.out, HD.out, List.flatMap_cons, escB, HP.out, hxy.out.1, hxy.out.2, List.append_assoc]; rfl)
        clear hxy
        go_region_held3 (fun _ => True) (exact trivial) ((refine step_app RByte.ok _ ?_ (.tmp 19) (.tmp 26) 59 ?_ base 5 (.int .u8 0) 1 Tryz.underlying59 info_u8 rfl (by decide) No (.slice A out.length cp) out ?_ ?_ ⟨wr.heap.size, 0, none⟩ [92, hexd x, hexd y].length [92, hexd x, hexd y].length [92, hexd x, hexd y] ?_ rfl ?_ (no_lt _) ?_ ?_ ?_ ?_; rfl; rfl; rfl; exact ((hown.alloc RByte.ok (no_lt _) _).drew RByte.ok); rfl; refine news_bytes_drew _ _ _ _ [92, hexd x, hexd y] ?_; ((try simp) <;> simp [hex, hey]); (simp; omega); (simp [maxLen]; omega); (simp; omega); intro v2 w2 hown2 hg2 hb2 hat2; have hsz2 := hb2.size; simp at hsz2))
        all_goals
          go_wp2
          go_roundw
          case rel => exact ⟨k + 1, out ++ [92, hexd x, hexd y], by omega, by simp; omega, by go_num, hown2, ((hb.alloc (by omega) _).drew).trans hb2, HE⟩
          case measure => simp [intOf]; omega
    · have hkl : k = l.length := by omega
      have HE := hide (show l.drop k = [] by rw [hkl]; simp)
      clear hkl
      have hconv := run_bts_str (P := Tryz.prog) wr 59 9 5 Tryz.underlying59 Tryz.underlying5 Tryz.underlying9 _ _ _ (hown.sl RByte.ok)
      obtain ⟨A, cp, hv⟩ := (hown.sl RByte.ok).shape
      subst hv
      go_wp2
      go_ret
      exact ⟨ret_str (by rw [H.out, HE.out]; simp), hb1.trans (hb.mono (by omega))⟩
end Go.Proofs.YtbafpgdmnkkclaaGreatDoor

/- The functions of package text and its reference, sixth part: Hex, Unhex, the reference's Escape. -/
namespace Go.Proofs.YtbafpgdmnkkclaaGreatDoor
open Go.RowKit


def hexB (c : UInt8) : List UInt8 := [hexd (c.toNat / 16), hexd (c.toNat % 16)]

theorem Own.made {α : Type} (R : Rep α) {size : Nat} {e : TypeId} {w : World} {base : Nat} {v : Value} (S : Nat → Prop) (h : w.ownsRow base e size v 0 []) (hS : ∀ g, v.ownBlock = some g → ¬ S g) : Own R size e w base S v ([] : List α) :=
  ⟨[], h, hS, fun i x h => by simp at h⟩
theorem info_u8' : ∃ i, Tryz.prog.info? 5 = some i ∧ i.zero = some (.int .u8 0) ∧ i.size = 1 ∧ i.bytes = 1 := info_parts info_u8

set_option maxHeartbeats 4000000 in
theorem Hex_any (s : ByteArray) (hs : s.size ≤ 1000000) (w : World) :
    Calls Tryz.prog 88 #[.string s] w fun e w' => e = .returned (.string ⟨(s.data.toList.flatMap hexB).toArray⟩) ∧ Below w.heap.size w w' := by
  obtain ⟨r, hr⟩ : ∃ r, r = s.data.toList.flatMap hexB := ⟨_, rfl⟩
  rw [← hr]
  have HR := hide hr
  clear hr
  obtain ⟨i0, hi0, hz0, hz1, hz2⟩ := info_u8'
  obtain ⟨base, hbase, HBASE⟩ : ∃ base, base ≤ w.heap.size ∧ Hid (base = w.heap.size) := ⟨_, Nat.le_refl _, rfl⟩
  go_enter Tryz.func88, Tryz.ntmps88
  go_wp2_with (at_make; refine wpList_make_own _ rfl (.const (.int .i64 0)) (.tmp 7) 59 rfl base 5 i0 (.int .u8 0) 1 Tryz.underlying59 hi0 hz0 hz1 .i64 .i64 _ (2 * s.size) rfl rfl (by omega) (by rw [hz2]; omega) (by unfold maxLen; omega) hbase ?_; intro w1 hown1 hg1)
  have hb1 : Below base w w1 := (Below.refl _ _).grown hg1 hbase (fun k h => by cases h)
  have hown := Own.made RByte No hown1 (fun _ _ h => h)
  clear hown1 hg1 hi0 hz0 hz1 hz2
  go_loopw [3, 4] (fun v i wr => ∃ (k : Nat) (out : List UInt8), k ≤ s.size ∧ out.length ≤ 2 * k ∧ i = .int .i64 k ∧ Own RByte 1 5 wr base No v out ∧ Below base w wr ∧ Hid (r = out ++ (s.data.toList.drop k).flatMap hexB)) (fun _ i _ => s.size - (intOf i).toNat)
  case atStart => exact ⟨0, [], Nat.zero_le _, by simp, rfl, hown, hb1, HR⟩
  case round =>
    clear hown hb1
    obtain ⟨k, out, hk, hol, rfl, hown, hb, H⟩ := hrel
    have hgs : base ≤ wr.heap.size := by have := hb.size; omega
    obtain ⟨A, cp, hv⟩ := (hown.sl RByte.ok).shape
    subst hv
    by_cases hlt : k < s.size
    · have HD := hide (drop_string s k hlt)
      have hbb := byte_lt s[k]
      obtain ⟨b, hbk⟩ : ∃ b, s[k] = b := ⟨_, rfl⟩
      rw [hbk] at hbb
      have hk0 : (0 : Int) ≤ (k : Int) := by omega
      have hk1 : (k : Int) < (s.size : Int) := by omega
      obtain ⟨x, y, hx16, hy16, hx0, hy0, hq, _, hex, hey, hxy⟩ := nibbles b
      have hq2 : (b.toNat : Int) % 16 = (y : Int) := by have := hxy.out.2; omega
      have hq3 : (b.toNat : Int).tdiv 16 = (x : Int) := by rw [Int.tdiv_eq_ediv_of_nonneg (by omega)]; exact hq
      have hq4 : (b.toNat : Int).tmod 16 = (y : Int) := by rw [Int.tmod_eq_emod_of_nonneg (by omega)]; exact hq2
      have hwx : IntKind.u8.wrap (x : Int) = (x : Int) := by rw [IntKind.wrap_u8]; omega
      have hwy : IntKind.u8.wrap (y : Int) = (y : Int) := by rw [IntKind.wrap_u8]; omega
      have HE := hide (show r = (out ++ [hexd x, hexd y]) ++ (s.data.toList.drop (k + 1)).flatMap hexB by rw [H.out, HD.out, List.flatMap_cons, hexB, hbk, hxy.out.1, hxy.out.2, List.append_assoc])
      clear hxy H
      go_wp2_with fail
      go_region_held3 (fun _ => True) (exact trivial) ((refine step_app RByte.ok _ ?_ (.tmp 15) (.tmp 26) 59 ?_ base 5 (.int .u8 0) 1 Tryz.underlying59 info_u8 rfl (by decide) No (.slice A out.length cp) out ?_ ?_ ⟨wr.heap.size, 0, none⟩ [hexd x, hexd y].length [hexd x, hexd y].length [hexd x, hexd y] ?_ rfl ?_ (no_lt _) ?_ ?_ ?_ ?_; rfl; rfl; rfl; exact ((hown.alloc RByte.ok (no_lt _) _).drew RByte.ok); rfl; refine news_bytes_drew _ _ _ _ [hexd x, hexd y] ?_; simp; (simp; omega); (simp [maxLen]; omega); (simp; omega); intro v2 w2 hown2 hg2 hb2 hat2; have hsz2 := hb2.size; simp at hsz2))
      all_goals
        go_wp2
        go_roundw
        case rel => exact ⟨k + 1, out ++ [hexd x, hexd y], by omega, by simp; omega, by go_num, hown2, ((hb.alloc (by omega) _).drew).trans hb2, HE⟩
        case measure => simp [intOf]; omega
    · have HE := hide (drop_string_end s k (by omega))
      have hconv := run_bts_str (P := Tryz.prog) wr 59 9 5 Tryz.underlying59 Tryz.underlying5 Tryz.underlying9 _ _ _ (hown.sl RByte.ok)
      go_wp2
      go_ret
      exact ⟨ret_str (by rw [H.out, HE.out]; simp), HBASE.out ▸ hb⟩
end Go.Proofs.YtbafpgdmnkkclaaGreatDoor

/- The functions of package text and its reference, seventh part: nibble, Unhex. -/
namespace Go.Proofs.YtbafpgdmnkkclaaGreatDoor
open Go.RowKit


def nibI (c : UInt8) : Int := if 48 ≤ (c.toNat : Int) ∧ (c.toNat : Int) ≤ 57 then c.toNat - 48 else if 97 ≤ (c.toNat : Int) ∧ (c.toNat : Int) ≤ 102 then c.toNat - 87 else -1
theorem nibI_bd (c : UInt8) : -1 ≤ nibI c ∧ nibI c ≤ 15 := by unfold nibI; split <;> (try split) <;> omega

def unhexL : List UInt8 → Option (List UInt8)
  | [] => some []
  | [_] => none
  | a :: b :: r => if nibI a < 0 ∨ nibI b < 0 then none else (unhexL r).map fun l => UInt8.ofNat (16 * nibI a + nibI b).toNat :: l
def optR (o : Option (List UInt8)) : Value := .tuple #[.string ⟨(o.getD []).toArray⟩, .bool o.isSome]

theorem byte_of (n : Int) (h0 : 0 ≤ n) (h1 : n < 256) : ((UInt8.ofNat n.toNat).toNat : Int) = n := by
  rw [UInt8.toNat_ofNat']
  omega
theorem unhexL_odd : ∀ (n : Nat) (l : List UInt8), l.length ≤ n → l.length % 2 = 1 → unhexL l = none
  | 0, l, h, h1 => by omega
  | n + 1, [], h, h1 => by simp at h1
  | n + 1, [a], h, h1 => rfl
  | n + 1, a :: b :: r, h, h1 => by
    unfold unhexL
    split
    · rfl
    · rw [unhexL_odd n r (by simp at h; omega) (by simp at h1; omega)]; rfl

end Go.Proofs.YtbafpgdmnkkclaaGreatDoor

/- The functions of package text and its reference, eighth part: the reference's Escape and Unescape. -/
namespace Go.Proofs.YtbafpgdmnkkclaaGreatDoor
open Go.RowKit

set_option maxHeartbeats 2000000 in
theorem rEscape_any (s : ByteArray) (hs : s.size ≤ 1000000) (w : World) :
    Calls Tryz.prog 55 #[.string s] w fun e w' => e = .returned (.string ⟨(s.data.toList.flatMap escB).toArray⟩) ∧ Below w.heap.size w w' := by
  obtain ⟨r, hr⟩ : ∃ r, r = s.data.toList.flatMap escB := ⟨_, rfl⟩
  rw [← hr]
  have HR := hide hr
  clear hr
  obtain ⟨base, hbase, HBASE⟩ : ∃ base, base ≤ w.heap.size ∧ Hid (base = w.heap.size) := ⟨_, Nat.le_refl _, rfl⟩
  go_enter Tryz.func55, Tryz.ntmps55
  go_wp2_with fail
  go_loopw [3, 4] (fun v i wr => ∃ (k : Nat) (o : ByteArray), k ≤ s.size ∧ o.size ≤ 3 * k ∧ v = .string o ∧ i = .int .i64 k ∧ Below base w wr ∧ Hid (r = o.data.toList ++ (s.data.toList.drop k).flatMap escB)) (fun _ i _ => s.size - (intOf i).toNat)
  case atStart => exact ⟨0, _, Nat.zero_le _, by decide, rfl, rfl, Below.refl _ _, HR⟩
  case round =>
    obtain ⟨k, o, hk, hol, rfl, rfl, hb, H⟩ := hrel
    have hgs : base ≤ wr.heap.size := by have := hb.size; omega
    by_cases hlt : k < s.size
    · have HD := hide (drop_string s k hlt)
      have HO := hide (ba_one s k hlt)
      have hes := ba_size_ex s k (k + 1) hlt
      have hes' : (s.extract k (k + 1)).size ≤ 1 := by omega
      clear hes
      have hsl := slice_str (P := Tryz.prog) 9 Tryz.underlying9 s k (k + 1) (k : Int) ((k : Int) + 1) rfl (by omega) (by omega) hlt
      obtain ⟨p, hp⟩ : ∃ p, isPlain s[k] = p := ⟨_, rfl⟩
      have HP := hide hp
      go_wp2_with fail
      refine (rplain_any _ _).mono ?_
      rintro e w2 ⟨rfl, rfl⟩
      rw [hp]
      clear hp
      cases p
      · go_wp2_with fail
        refine (Hex_any _ (by omega) _).mono ?_
        rintro e w2 ⟨rfl, hb2⟩
        obtain ⟨h2, hh2⟩ : ∃ h2 : ByteArray, h2 = ⟨((s.extract k (k + 1)).data.toList.flatMap hexB).toArray⟩ := ⟨_, rfl⟩
        rw [← hh2]
        have hh2l : h2.data.toList = hexB s[k] := by rw [hh2, HO.out]; simp
        have hh2s : h2.size = 2 := by rw [← size_string, hh2l]; rfl
        have hh2s' : h2.size ≤ 2 := by omega
        have HH := hide hh2l
        have HS2 := hide hh2s
        clear hh2 hh2l hh2s
        go_wp2_with fail
        go_roundw
        case rel =>
          refine ⟨k + 1, _, by omega, ?_, rfl, by go_num, hb.trans (hb2.mono hgs), hide ?_⟩
          · rw [ba_size, ba_size, HS2.out]
            have : (⟨#[92]⟩ : ByteArray).size = 1 := rfl
            omega
          · rw [H.out, HD.out, List.flatMap_cons, escB, HP.out, ba_append, ba_append, HH.out, List.append_assoc]; rfl
        case measure => simp [intOf]; omega
      · go_wp2_with fail
        go_roundw
        case rel => exact ⟨k + 1, o ++ s.extract k (k + 1), by omega, by rw [ba_size]; omega, rfl, by go_num, hb, hide (by rw [H.out, HD.out, List.flatMap_cons, escB, HP.out, ba_append, HO.out, List.append_assoc]; rfl)⟩
        case measure => simp [intOf]; omega
    · have HE := hide (drop_string_end s k (by omega))
      go_wp2_with fail
      go_ret
      exact ⟨ret_ba (by rw [H.out, HE.out]; simp), HBASE.out ▸ hb⟩

/-- the reference's Unescape, its loop -/
def runescL : Nat → List UInt8 → Option (List UInt8)
  | 0, _ => none
  | _ + 1, [] => some []
  | n + 1, c :: r => if c ≠ 92 then (runescL n r).map (c :: ·) else
      if r.length < 2 then none else
      (unhexL (r.take 2)).bind fun x => (runescL n (r.drop 2)).map (x ++ ·)
def runescE : Option (List UInt8) → List UInt8 → Option (List UInt8)
  | none, _ => none
  | some o, l => if o.flatMap escB = l then some o else none
def runesc (l : List UInt8) : Option (List UInt8) := runescE (runescL (l.length + 1) l) l

theorem byte_eq92 (c : UInt8) : ((c.toNat : Int) == 92) = (c == 92) := byte_beq c 92
theorem unhexL_two (a b : UInt8) (x : List UInt8) (h : unhexL [a, b] = some x) : x.length = 1 := by
  unfold unhexL at h
  split at h
  · cases h
  · simp [unhexL] at h; subst h; rfl
theorem ret_opt {o : ByteArray} {r : Option (List UInt8)} (h : r = some o.data.toList) : Ending.returned (.tuple #[.string o, .bool true]) = Ending.returned (optR r) := by subst h; rfl
theorem ret_none {r : Option (List UInt8)} (h : r = none) : Ending.returned (.tuple #[.string ⟨#[]⟩, .bool false]) = Ending.returned (optR r) := by subst h; rfl

end Go.Proofs.YtbafpgdmnkkclaaGreatDoor
