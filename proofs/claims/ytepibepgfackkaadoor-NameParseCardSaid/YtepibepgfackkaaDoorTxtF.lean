/- The functions of package text and its reference, sixth part: Hex, Unhex, the reference's Escape. -/
import Derived.Test.YtepibepgfackkaaDoorTxtE
import Derived.Deep.QuietTactic
import Derived.BigQuiet
namespace Go.Proofs.YtepibepgfackkaaDoor
open Go.RowKit


def hexB (c : UInt8) : List UInt8 := [hexd (c.toNat / 16), hexd (c.toNat % 16)]

theorem Own.made {α : Type} (R : Rep α) {size : Nat} {e : TypeId} {w : World} {base : Nat} {v : Value} (S : Nat → Prop) (h : w.ownsRow base e size v 0 []) (hS : ∀ g, v.ownBlock = some g → ¬ S g) : Own R size e w base S v ([] : List α) :=
  ⟨[], h, hS, fun i x h => by simp at h⟩
theorem info_u8' : ∃ i, Tryd.prog.info? 5 = some i ∧ i.zero = some (.int .u8 0) ∧ i.size = 1 ∧ i.bytes = 1 := info_parts info_u8

set_option maxHeartbeats 4000000 in
theorem Hex_any (s : ByteArray) (hs : s.size ≤ 1000000) (w : World) :
    Calls Tryd.prog 88 #[.string s] w fun e w' => e = .returned (.string ⟨(s.data.toList.flatMap hexB).toArray⟩) ∧ Below w.heap.size w w' := by
  obtain ⟨r, hr⟩ : ∃ r, r = s.data.toList.flatMap hexB := ⟨_, rfl⟩
  rw [← hr]
  have HR := hide hr
  clear hr
  obtain ⟨i0, hi0, hz0, hz1, hz2⟩ := info_u8'
  obtain ⟨base, hbase, HBASE⟩ : ∃ base, base ≤ w.heap.size ∧ Hid (base = w.heap.size) := ⟨_, Nat.le_refl _, rfl⟩
  go_enter Tryd.func88, Tryd.ntmps88
  go_wp2_with (at_make; refine wpList_make_own _ rfl (.const (.int .i64 0)) (.tmp 7) 46 rfl base 5 i0 (.int .u8 0) 1 Tryd.underlying46 hi0 hz0 hz1 .i64 .i64 _ (2 * s.size) rfl rfl (by omega) (by rw [hz2]; omega) (by unfold maxLen; omega) hbase ?_; intro w1 hown1 hg1)
  have hb1 : Below base w w1 := (Below.refl _ _).grown hg1 hbase (fun k h => by cases h)
  have hown := Own.made RByte No hown1 (fun _ _ h => h)
  clear hown1 hg1 hi0 hz0 hz1 hz2
  go_loopw [3, 4] (fun v i wr => ∃ (k : Nat) (out : List UInt8), k ≤ s.size ∧ out.length ≤ 2 * k ∧ i = .int .i64 k ∧ Own RByte 1 5 wr base No v out ∧ Below base w wr ∧ Hid (r = out ++ (s.data.toList.drop k).flatMap hexB)) (fun _ i _ => s.size - (intOf i).toNat)
  case atStart => exact ⟨0, [], Nat.zero_le _, by simp, rfl, hown, hb1, HR⟩
  case round =>
    clear hown hb1
    obtain ⟨k, out, hk, hol, rfl, hown, hb, H⟩ := hrel
    have hgs : base ≤ wr.heap.size := by have := hb.size; omega
    obtain ⟨A, cp, hv⟩ := (hown.sl RByte.ok).shape
    subst hv
    by_cases hlt : k < s.size
    · have HD := hide (drop_string s k hlt)
      have hbb := byte_lt s[k]
      obtain ⟨b, hbk⟩ : ∃ b, s[k] = b := ⟨_, rfl⟩
      rw [hbk] at hbb
      have hk0 : (0 : Int) ≤ (k : Int) := by omega
      have hk1 : (k : Int) < (s.size : Int) := by omega
      obtain ⟨x, y, hx16, hy16, hx0, hy0, hq, _, hex, hey, hxy⟩ := nibbles b
      have hq2 : (b.toNat : Int) % 16 = (y : Int) := by have := hxy.out.2; omega
      have hq3 : (b.toNat : Int).tdiv 16 = (x : Int) := by rw [Int.tdiv_eq_ediv_of_nonneg (by omega)]; exact hq
      have hq4 : (b.toNat : Int).tmod 16 = (y : Int) := by rw [Int.tmod_eq_emod_of_nonneg (by omega)]; exact hq2
      have hwx : IntKind.u8.wrap (x : Int) = (x : Int) := by rw [IntKind.wrap_u8]; omega
      have hwy : IntKind.u8.wrap (y : Int) = (y : Int) := by rw [IntKind.wrap_u8]; omega
      have HE := hide (show r = (out ++ [hexd x, hexd y]) ++ (s.data.toList.drop (k + 1)).flatMap hexB by rw [H.out, HD.out, List.flatMap_cons, hexB, hbk, hxy.out.1, hxy.out.2, List.append_assoc])
      clear hxy H
      go_wp2_with fail
      go_region_held3 (fun _ => True) (exact trivial) ((refine step_app RByte.ok _ ?_ (.tmp 15) (.tmp 26) 46 ?_ base 5 (.int .u8 0) 1 Tryd.underlying46 info_u8 rfl (by decide) No (.slice A out.length cp) out ?_ ?_ ⟨wr.heap.size, 0, none⟩ [hexd x, hexd y].length [hexd x, hexd y].length [hexd x, hexd y] ?_ rfl ?_ (no_lt _) ?_ ?_ ?_ ?_; rfl; rfl; rfl; exact ((hown.alloc RByte.ok (no_lt _) _).drew RByte.ok); rfl; refine news_bytes_drew _ _ _ _ [hexd x, hexd y] ?_; simp; (simp; omega); (simp [maxLen]; omega); (simp; omega); intro v2 w2 hown2 hg2 hb2 hat2; have hsz2 := hb2.size; simp at hsz2))
      all_goals
        go_wp2
        go_roundw
        case rel => exact ⟨k + 1, out ++ [hexd x, hexd y], by omega, by simp; omega, by go_num, hown2, ((hb.alloc (by omega) _).drew).trans hb2, HE⟩
        case measure => simp [intOf]; omega
    · have HE := hide (drop_string_end s k (by omega))
      have hconv := run_bts_str (P := Tryd.prog) wr 46 9 5 Tryd.underlying46 Tryd.underlying5 Tryd.underlying9 _ _ _ (hown.sl RByte.ok)
      go_wp2
      go_ret
      exact ⟨ret_str (by rw [H.out, HE.out]; simp), HBASE.out ▸ hb⟩
end Go.Proofs.YtepibepgfackkaaDoor
