/- The reference's Split. -/
import Derived.Test.YtodapmkdmkhhfaaGreatDoorNamA
import Derived.Test.YtodapmkdmkhhfaaGreatDoorLibD
import Derived.Test.YtodapmkdmkhhfaaGreatDoorSplit
namespace Go.Proofs.YtodapmkdmkhhfaaGreatDoor
open Go.RowKit

theorem splitC_none (c : UInt8) : ∀ l : List UInt8, (∀ x ∈ l, x ≠ c) → splitC c l = [l]
  | [], _ => rfl
  | x :: r, h => by
    have ih := splitC_none c r (fun y hy => h y (by simp [hy]))
    rw [splitC, if_neg (h x (by simp)), ih]
theorem splitC_hit (c : UInt8) : ∀ l r : List UInt8, (∀ x ∈ l, x ≠ c) → splitC c (l ++ c :: r) = l :: splitC c r
  | [], r, _ => by rw [List.nil_append, splitC, if_pos rfl]
  | x :: l, r, h => by
    have ih := splitC_hit c l r (fun y hy => h y (by simp [hy]))
    rw [List.cons_append, splitC, if_neg (h x (by simp)), ih]
/-- the pieces so far, the piece that is open from 'at' on, read up to i -/
def SpSt (s : List UInt8) (c : UInt8) (out : List (List UInt8)) (at_ i : Nat) : Prop :=
  (i ≤ s.length ∧ at_ ≤ i ∧ out ++ splitC c (s.drop at_) = splitC c s ∧ ∀ x ∈ (s.drop at_).take (i - at_), x ≠ c) ∨ (i = s.length + 1 ∧ at_ = i ∧ out = splitC c s)
theorem SpSt.start (s : List UInt8) (c : UInt8) : SpSt s c [] 0 0 := .inl ⟨by omega, by omega, by simp, by simp⟩
theorem SpSt.bd {s : List UInt8} {c : UInt8} {out : List (List UInt8)} {at_ i : Nat} (h : SpSt s c out at_ i) : i ≤ s.length + 1 ∧ at_ ≤ i := by
  rcases h with ⟨h1, h2, _⟩ | ⟨h1, h2, _⟩ <;> omega
theorem SpSt.done {s : List UInt8} {c : UInt8} {out : List (List UInt8)} {at_ i : Nat} (h : SpSt s c out at_ i) (hi : s.length < i) : out = splitC c s := by
  rcases h with ⟨h1, _⟩ | ⟨_, _, h⟩
  · omega
  · exact h
theorem SpSt.end_ {s : List UInt8} {c : UInt8} {out : List (List UInt8)} {at_ : Nat} (h : SpSt s c out at_ s.length) : SpSt s c (out ++ [(s.take s.length).drop at_]) (s.length + 1) (s.length + 1) := by
  rcases h with ⟨h1, h2, h3, h4⟩ | ⟨h1, _⟩
  · refine .inr ⟨rfl, rfl, ?_⟩
    rw [List.take_of_length_le (by rw [List.length_drop]; omega)] at h4
    rw [← h3, splitC_none c _ h4, List.take_of_length_le (Nat.le_refl _)]
  · omega
theorem drop_cut {s : List UInt8} {a i : Nat} (h : i < s.length) (ha : a ≤ i) : s.drop a = (s.take i).drop a ++ s[i] :: s.drop (i + 1) := by
  have h1 : s = s.take i ++ s[i] :: s.drop (i + 1) := by rw [← List.drop_eq_getElem_cons h, List.take_append_drop]
  conv => lhs; rw [h1]
  rw [List.drop_append_of_le_length (by rw [List.length_take]; omega)]
theorem take_cut {s : List UInt8} {a i : Nat} (_h : i ≤ s.length) (ha : a ≤ i) : (s.drop a).take (i - a) = (s.take i).drop a := by
  rw [List.take_drop, show a + (i - a) = i by omega]
theorem SpSt.hit {s : List UInt8} {c : UInt8} {out : List (List UInt8)} {at_ i : Nat} (h : SpSt s c out at_ i) (hi : i < s.length) (hc : s[i] = c) : SpSt s c (out ++ [(s.take i).drop at_]) (i + 1) (i + 1) := by
  rcases h with ⟨h1, h2, h3, h4⟩ | ⟨h1, _⟩
  · refine .inl ⟨by omega, by omega, ?_, by simp⟩
    rw [take_cut h1 h2] at h4
    rw [drop_cut hi h2, hc, splitC_hit c _ _ h4] at h3
    rw [← h3]; simp
  · omega
theorem SpSt.go {s : List UInt8} {c : UInt8} {out : List (List UInt8)} {at_ i : Nat} (h : SpSt s c out at_ i) (hi : i < s.length) (hc : s[i] ≠ c) : SpSt s c out at_ (i + 1) := by
  rcases h with ⟨h1, h2, h3, h4⟩ | ⟨h1, _⟩
  · refine .inl ⟨by omega, by omega, h3, ?_⟩
    rw [take_cut h1 h2] at h4
    rw [take_cut (by omega) (by omega), List.take_succ_eq_append_getElem hi, List.drop_append_of_le_length (by rw [List.length_take]; omega)]
    intro x hx
    rcases List.mem_append.1 hx with hx | hx
    · exact h4 x hx
    · simp at hx; subst hx; exact hc
  · omega
theorem SpSt.len {s : List UInt8} {c : UInt8} {out : List (List UInt8)} {at_ i : Nat} (h : SpSt s c out at_ i) : out.length ≤ s.length + 1 := by
  have := splitC_len c s
  rcases h with ⟨_, _, h3, _⟩ | ⟨_, _, h3⟩
  · rw [← h3, List.length_append] at this; omega
  · rw [h3]; exact this
theorem SpSt.less {s : List UInt8} {c : UInt8} {out : List (List UInt8)} {at_ i : Nat} (h : SpSt s c out at_ i) (hi : i ≤ s.length) : out.length ≤ s.length := by
  have h5 := splitC_len c s
  rcases h with ⟨_, _, h3, _⟩ | ⟨h1, _⟩
  · rw [← h3, List.length_append] at h5
    have : 0 < (splitC c (s.drop at_)).length := List.length_pos_iff.2 (splitC_ne c _)
    omega
  · omega
theorem news_str (w : World) (S : Nat → Prop) (t : TypeId) (x : ByteArray) :
    ∀ i y, [x.data.toList][i]? = some y → ∃ cs, RStr (w.alloc (.cells #[.string x] t)) S y cs ∧ ∀ j u, cs[j]? = some u → (w.alloc (.cells #[.string x] t)).cell? ((⟨w.heap.size, 0, none⟩ : Addr).add (i * 1 + j)) = some u :=
  news_pu (f := strC) (size := 1) (fun _ => rfl) w S #[.string x] t [x.data.toList] rfl
theorem info_str : (Tryz.prog.info? 9).map (fun i => (i.zero, i.size, i.bytes)) = some (some (.string ⟨#[]⟩), 1, 16) := by kernel_rfl


set_option maxRecDepth 100000 in
set_option maxHeartbeats 4000000 in
theorem rSplit_any (s : ByteArray) (hs : s.size ≤ 1000000) (c : UInt8) (w : World) :
    Calls Tryz.prog 86 #[.string s, .int .u8 (c.toNat : Int)] w fun e w' => ∃ v, e = .returned v ∧ Below w.heap.size w w' ∧ Sl RStr 1 w' (Btw w.heap.size w'.heap.size) (splitC c s.data.toList) [v] := by
  have hss := size_string s
  go_enter Tryz.func86, Tryz.ntmps86
  go_wp2_with fail
  go_loopw [5, 6, 7] (fun x5 x6 x7 wr => ∃ (at_ i : Nat) (out : List (List UInt8)) (vv : Value), SpSt s.data.toList c out at_ i ∧ vv = x5 ∧ x6 = .int .i64 at_ ∧ x7 = .int .i64 i ∧ Own RStr 1 9 wr w.heap.size No vv out ∧ Below w.heap.size w wr ∧ w.heap.size ≤ wr.heap.size) (fun _ _ i _ => s.size + 1 - (intOf i).toNat)
  case atStart => exact ⟨0, 0, [], _, SpSt.start _ _, rfl, rfl, rfl, Own.nil _ _ _ _ _ _, Below.refl _ _, Nat.le_refl _⟩
  case round =>
    obtain ⟨at_, i, out, vv, hst, rfl, rfl, rfl, hown, hb, hbz⟩ := hrel
    have hbd := hst.bd
    rw [hss] at hbd
    obtain ⟨hi1, hai⟩ := hbd
    have hol := hst.len
    rw [hss] at hol
    have HOWN := hide hown
    have HB := hide hb
    clear hown hb
    by_cases hil : i ≤ s.size
    · by_cases hlt : i < s.size
      · by_cases hc : s[i] = c
        · have t1 : ((i : Int) == (s.size : Int)) = false := by rw [beq_eq_false_iff_ne]; omega
          have t2 : ((s[i].toNat : Int) == (c.toNat : Int)) = true := by rw [hc]; simp
          have HCI := hide hc
          clear hc
          have hxs := hst.hit (by rw [hss]; exact hlt) HCI.out
          obtain ⟨x, hx⟩ : ∃ x, x = s.extract at_ i := ⟨_, rfl⟩
          have HXS := hide (show SpSt s.data.toList c (out ++ [x.data.toList]) (i + 1) (i + 1) by rw [hx, Lib.extract_data, take_cut (by rw [hss]; exact hil) hai]; exact hxs)
          have hsl : ∀ W : World, (Instr.slice 9 (.string s) (some (.int .i64 (at_ : Int))) (some (.int .i64 (i : Int))) none).run Tryz.prog W = .ok (.string x) W := by
            rw [hx]
            exact slice_str 9 Tryz.underlying9 s at_ i at_ i rfl rfl hai hil
          clear hx hxs
          go_wp2_with (at_builtin; refine wpList_app RStr.ok _ rfl (.tmp 25) (.tmp 30) 69 rfl w.heap.size 9 (.string ⟨#[]⟩) 16 Tryz.underlying69 info_str rfl (by decide) No _ out rfl (HOWN.out.alloc RStr.ok (no_lt _) _) ⟨_, 0, none⟩ 1 1 [x.data.toList] rfl rfl (news_str _ _ _ x) (no_lt _) (by simp; omega) (by simp [maxLen]; omega) (by simp; omega) ?_; intro v7 w7 hown7 hg7 hb7 hat7; have hsz7 := hb7.size; simp at hsz7)
          go_roundw
          case rel => exact ⟨i + 1, i + 1, _, _, HXS.out, rfl, by go_num, by go_num, hown7, (HB.out.alloc hbz _).trans hb7, by omega⟩
          case measure => simp [intOf]; omega
        · have t1 : ((i : Int) == (s.size : Int)) = false := by rw [beq_eq_false_iff_ne]; omega
          have t2 : ((s[i].toNat : Int) == (c.toNat : Int)) = false := by rw [byte_beq']; simpa using hc
          have HST := hide (hst.go (by rw [hss]; exact hlt) hc)
          clear hc
          go_wp2_with fail
          go_roundw
          case rel => exact ⟨at_, i + 1, out, _, HST.out, rfl, rfl, by go_num, HOWN.out, HB.out, hbz⟩
          case measure => simp [intOf]; omega
      · have hie : i = s.size := by omega
        have t1 : ((i : Int) == (s.size : Int)) = true := by rw [hie]; simp
        have HST := hide (show SpSt s.data.toList c (out ++ [(s.data.toList.take i).drop at_]) (i + 1) (i + 1) by
          have h9 : SpSt s.data.toList c out at_ s.data.toList.length := by rw [hss, ← hie]; exact hst
          have := h9.end_
          rwa [hss, ← hie] at this)
        clear hie
        have hxs := HST.out
        obtain ⟨x, hx⟩ : ∃ x, x = s.extract at_ i := ⟨_, rfl⟩
        have HXS := hide (show SpSt s.data.toList c (out ++ [x.data.toList]) (i + 1) (i + 1) by rw [hx, Lib.extract_data, take_cut (by rw [hss]; exact hil) hai]; exact hxs)
        have hsl : ∀ W : World, (Instr.slice 9 (.string s) (some (.int .i64 (at_ : Int))) (some (.int .i64 (i : Int))) none).run Tryz.prog W = .ok (.string x) W := by
          rw [hx]
          exact slice_str 9 Tryz.underlying9 s at_ i at_ i rfl rfl hai hil
        clear hx hxs
        go_wp2_with (at_builtin; refine wpList_app RStr.ok _ rfl (.tmp 25) (.tmp 30) 69 rfl w.heap.size 9 (.string ⟨#[]⟩) 16 Tryz.underlying69 info_str rfl (by decide) No _ out rfl (HOWN.out.alloc RStr.ok (no_lt _) _) ⟨_, 0, none⟩ 1 1 [x.data.toList] rfl rfl (news_str _ _ _ x) (no_lt _) (by simp; omega) (by simp [maxLen]; omega) (by simp; omega) ?_; intro v7 w7 hown7 hg7 hb7 hat7; have hsz7 := hb7.size; simp at hsz7)
        go_roundw
        case rel => exact ⟨i + 1, i + 1, _, _, HXS.out, rfl, by go_num, by go_num, hown7, (HB.out.alloc hbz _).trans hb7, by omega⟩
        case measure => simp [intOf]; omega
    · have HD := hide (hst.done (by rw [hss]; omega))
      have hslS := HOWN.out.sl RStr.ok
      obtain ⟨A, cc, hv⟩ := hslS.shape
      subst hv
      have HSL := hide hslS
      clear hslS
      go_wp2_with fail
      go_ret
      exact ⟨_, rfl, HB.out, by rw [← HD.out]; exact (Sl.ok RStr.ok).mono HSL.out (fun _ _ => rfl) (fun k hk => by rcases hk with hk | hk; exact hk.elim; exact hk)⟩
end Go.Proofs.YtodapmkdmkhhfaaGreatDoor
