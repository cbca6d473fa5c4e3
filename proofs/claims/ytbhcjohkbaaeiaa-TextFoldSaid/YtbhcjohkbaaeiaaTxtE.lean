/- The functions of package text and its reference, fifth part: Escape, hexadecimal digits, Unescape. -/
import Derived.Test.YtbhcjohkbaaeiaaTxtD
import Derived.Deep.RegionHeld3
namespace Go.Proofs.Ytbhcjohkbaaeiaa
open Go.RowKit

def digs : List UInt8 := [48, 49, 50, 51, 52, 53, 54, 55, 56, 57, 97, 98, 99, 100, 101, 102]
def hexd (n : Nat) : UInt8 := digs.getD n 0
def escB (c : UInt8) : List UInt8 := if isPlain c then [c] else [92, hexd (c.toNat / 16), hexd (c.toNat % 16)]



theorem hexd_at (n : Nat) (h : n < 16) : ((⟨#[48, 49, 50, 51, 52, 53, 54, 55, 56, 57, 97, 98, 99, 100, 101, 102]⟩ : ByteArray)[n]'h) = hexd n := by
  have : ∀ n : Fin 16, ((⟨#[48, 49, 50, 51, 52, 53, 54, 55, 56, 57, 97, 98, 99, 100, 101, 102]⟩ : ByteArray)[n.1]'n.2) = hexd n.1 := by decide
  exact this ⟨n, h⟩
theorem nibbles (b : UInt8) : ∃ x y : Nat, (x : Int) < 16 ∧ (y : Int) < 16 ∧ (0 : Int) ≤ (x : Int) ∧ (0 : Int) ≤ (y : Int) ∧ (b.toNat : Int) / 16 = (x : Int) ∧ bits .and .u8 (b.toNat : Int) 15 = (y : Int) ∧
    (∀ h : x < 16, ((⟨#[48, 49, 50, 51, 52, 53, 54, 55, 56, 57, 97, 98, 99, 100, 101, 102]⟩ : ByteArray)[x]'h) = hexd x) ∧ (∀ h : y < 16, ((⟨#[48, 49, 50, 51, 52, 53, 54, 55, 56, 57, 97, 98, 99, 100, 101, 102]⟩ : ByteArray)[y]'h) = hexd y) ∧
    Hid (b.toNat / 16 = x ∧ b.toNat % 16 = y) := by
  have hb := b.toNat_lt
  refine ⟨b.toNat / 16, b.toNat % 16, by omega, by omega, by omega, by omega, by omega, ?_, hexd_at _, hexd_at _, ⟨rfl, rfl⟩⟩
  have h := u8_and15 (x := (b.toNat : Int)) (by omega) (by omega)
  exact h.trans (by omega)

set_option maxHeartbeats 2000000 in
theorem Escape_any (s : ByteArray) (hs : s.size ≤ 1000000) (w : World) :
    Calls Try.prog 17 #[.string s] w fun e w' => e = .returned (.string ⟨(s.data.toList.flatMap escB).toArray⟩) ∧ Below w.heap.size w w' := by
  have hsz := size_string s
  generalize hl : s.data.toList = l at hsz
  have HL := hide hl
  have hsl : l.length ≤ 1000000 := by omega
  have hm : l.length ≤ maxLen := by unfold maxLen; omega
  clear hsz hl
  obtain ⟨r, hr⟩ : ∃ r, r = l.flatMap escB := ⟨_, rfl⟩
  rw [← hr]
  have HR := hide hr
  clear hr
  go_enter Try.func17, Try.ntmps17
  go_wp2_with (with_reducible refine wpList_str_bts _ rfl (.tmp 6) 9 22 5 rfl Try.underlying9 Try.underlying22 Try.underlying5 s rfl l HL.out hm ?_; intro g c w1 hg1 hg2 hb1 hby hc1 hc2)
  obtain ⟨base, hgb, hbase⟩ : ∃ base, g < base ∧ base ≤ w1.heap.size := ⟨g + 1, by omega, by omega⟩
  go_loopw [3, 9] (fun v i wr => ∃ (k : Nat) (out : List UInt8), k ≤ l.length ∧ out.length ≤ 3 * k ∧ i = .int .i64 k ∧ Own RByte 1 5 wr base No v out ∧ Below base w1 wr ∧ Hid (r = out ++ (l.drop k).flatMap escB)) (fun _ i _ => l.length - (intOf i).toNat)
  case atStart => exact ⟨0, [], Nat.zero_le _, by simp, rfl, Own.nil _ _ _ _ _ _, Below.refl _ _, HR⟩
  case round =>
    obtain ⟨k, out, hk, hol, rfl, hown, hb, H⟩ := hrel
    have hgs : base ≤ wr.heap.size := by have := hb.size; omega
    by_cases hlt : k < l.length
    · have hcell := (hby.keep (hb.block g (by omega))).cell hlt
      have hbb := byte_lt l[k]
      have hdr := List.drop_eq_getElem_cons hlt
      obtain ⟨b, hbk⟩ : ∃ b, b = l[k] := ⟨_, rfl⟩
      rw [← hbk] at hcell hbb hdr
      have HD := hide hdr
      clear hbk hdr
      obtain ⟨A, cp, hv⟩ := (hown.sl RByte.ok).shape
      subst hv
      go_wp2_with fail
      refine (plain_any b _).mono ?_
      rintro e w2 ⟨rfl, rfl⟩
      by_cases hp : isPlain b = true
      · have HP := hide hp
        rw [hp]
        clear hp
        go_wp2_with (first
          | (at_builtin; refine wpList_app RByte.ok _ rfl (.tmp 15) (.tmp 17) 22 rfl base 5 (.int .u8 0) 1 Try.underlying22 info_u8 rfl (by decide) No _ out rfl (hown.alloc RByte.ok (no_lt _) _) ⟨_, 0, none⟩ [b].length [b].length [b] rfl rfl (news_bytes _ _ _ _ [b] rfl) (no_lt _) (by simp; omega) (by simp [maxLen]; omega) (by simp; omega) ?_; intro v2 w2 hown2 hg2 hb2 hat2; have hsz2 := hb2.size; simp at hsz2))
        go_roundw
        case rel => exact ⟨k + 1, out ++ [b], by omega, by simp; omega, by go_num, hown2, (hb.alloc (by omega) _).trans hb2, hide (by rw [H.out, HD.out, List.flatMap_cons, escB, if_pos HP.out, List.append_assoc])⟩
        case measure => simp [intOf]; omega
      · have hp' : isPlain b = false := by simpa using hp
        have HP := hide hp'
        rw [hp']
        clear hp hp'
        go_wp2_with fail
        obtain ⟨x, y, hx16, hy16, hx0, hy0, hq, hr, hex, hey, hxy⟩ := nibbles b
        have HE := hide (show r = (out ++ [92, hexd x, hexd y]) ++ (l.drop (k + 1)).flatMap escB by rw [H.out, HD.out, List.flatMap_cons, escB, HP.out, hxy.out.1, hxy.out.2, List.append_assoc]; rfl)
        clear hxy
        go_region_held3 (fun _ => True) (exact trivial) ((refine step_app RByte.ok _ ?_ (.tmp 19) (.tmp 26) 22 ?_ base 5 (.int .u8 0) 1 Try.underlying22 info_u8 rfl (by decide) No (.slice A out.length cp) out ?_ ?_ ⟨wr.heap.size, 0, none⟩ [92, hexd x, hexd y].length [92, hexd x, hexd y].length [92, hexd x, hexd y] ?_ rfl ?_ (no_lt _) ?_ ?_ ?_ ?_; rfl; rfl; rfl; exact ((hown.alloc RByte.ok (no_lt _) _).drew RByte.ok); rfl; refine news_bytes_drew _ _ _ _ [92, hexd x, hexd y] ?_; (simp [hex, hey]); (simp; omega); (simp [maxLen]; omega); (simp; omega); intro v2 w2 hown2 hg2 hb2 hat2; have hsz2 := hb2.size; simp at hsz2))
        all_goals
          go_wp2
          go_roundw
          case rel => exact ⟨k + 1, out ++ [92, hexd x, hexd y], by omega, by simp; omega, by go_num, hown2, ((hb.alloc (by omega) _).drew).trans hb2, HE⟩
          case measure => simp [intOf]; omega
    · have hkl : k = l.length := by omega
      have HE := hide (show l.drop k = [] by rw [hkl]; simp)
      clear hkl
      have hconv := run_bts_str (P := Try.prog) wr 22 9 5 Try.underlying22 Try.underlying5 Try.underlying9 _ _ _ (hown.sl RByte.ok)
      obtain ⟨A, cp, hv⟩ := (hown.sl RByte.ok).shape
      subst hv
      go_wp2
      go_ret
      exact ⟨ret_str (by rw [H.out, HE.out]; simp), hb1.trans (hb.mono (by omega))⟩
end Go.Proofs.Ytbhcjohkbaaeiaa
