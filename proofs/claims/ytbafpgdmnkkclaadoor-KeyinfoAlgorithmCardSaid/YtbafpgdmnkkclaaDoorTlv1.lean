/- Elements: List, both sides. -/
import Derived.Test.YtbafpgdmnkkclaaDoorTlvE
namespace Go.Proofs.YtbafpgdmnkkclaaDoor
open Go.RowKit

theorem info_elt : (Tryd.prog.info? 38).map (fun i => (i.zero, i.size, i.bytes)) = some (some (.agg #[.int .i64 0, .string ⟨#[]⟩, .string ⟨#[]⟩]), 3, 40) := by kernel_rfl
def preL (out : List Elt) : Except Int (List Elt) → Except Int (List Elt)
  | .error k => .error k
  | .ok l => .ok (out ++ l)
theorem preL_nil (o : Except Int (List Elt)) : preL [] o = o := by cases o <;> rfl
theorem preL_app (a b : List Elt) (o : Except Int (List Elt)) : preL a (preL b o) = preL (a ++ b) o := by cases o <;> simp [preL]
theorem listF_pre {b : List UInt8} {e : Elt} {r : List UInt8} (h : readF b = .ok (e, r)) : listF b = preL [e] (listF r) := by
  rw [listF_cons h]
  cases listF r <;> rfl
def listRes : Except Int (List Elt) → World → Ending → World → Prop
  | .error k, _, e, _ => e = .returned (.tuple #[.slice none 0 0, .int .i64 k])
  | .ok l, w, e, w' => ∃ A c, e = .returned (.tuple #[.slice A l.length c, .int .i64 0]) ∧ Sl RElt 3 w' (Btw w.heap.size w'.heap.size) l [.slice A l.length c]
def ListPost (w : World) (o : Except Int (List Elt)) (e : Ending) (w' : World) : Prop := Below w.heap.size w w' ∧ listRes o w e w'
theorem ListPost.err {w w' : World} {o : Except Int (List Elt)} {k : Int} (h : o = .error k) (hb : Below w.heap.size w w') : ListPost w o (.returned (.tuple #[.slice none 0 0, .int .i64 k])) w' := by
  subst h; exact ⟨hb, rfl⟩
theorem ListPost.ok {w w' : World} {o : Except Int (List Elt)} {l : List Elt} {A : Option Addr} {n c : Nat} (h : o = .ok l) (hb : Below w.heap.size w w') (hs : Sl RElt 3 w' (Btw w.heap.size w'.heap.size) l [.slice A n c]) : ListPost w o (.returned (.tuple #[.slice A n c, .int .i64 0])) w' := by
  subst h
  obtain ⟨rfl, _⟩ := hs.len_
  exact ⟨hb, A, c, rfl, hs⟩
theorem news_elt (w : World) (S : Nat → Prop) (t : TypeId) (k : Nat) (x1 x2 : ByteArray) :
    ∀ i y, [((k, x1.data.toList, x2.data.toList) : Elt)][i]? = some y → ∃ cs, RElt (w.alloc (.cells #[.int .i64 (k : Int), .string x1, .string x2] t)) S y cs ∧ ∀ j u, cs[j]? = some u → (w.alloc (.cells #[.int .i64 (k : Int), .string x1, .string x2] t)).cell? ((⟨w.heap.size, 0, none⟩ : Addr).add (i * 3 + j)) = some u :=
  news_pu (f := eltC) (size := 3) (fun _ => rfl) w S _ t _ rfl


set_option maxRecDepth 100000 in
set_option maxHeartbeats 4000000 in
theorem List_any (s : ByteArray) (hs : s.size ≤ 1000000000) (w : World) :
    Calls Tryd.prog 32 #[.string s] w (ListPost w (listF s.data.toList)) := by
  obtain ⟨o, ho⟩ : ∃ o, listF s.data.toList = o := ⟨_, rfl⟩
  rw [ho]
  have HO := hide ho
  obtain ⟨base, hbase⟩ : ∃ b, b = w.heap.size := ⟨_, rfl⟩
  have HBASE := hide hbase
  have hgs0 : base ≤ w.heap.size := by omega
  clear ho hbase
  go_enter Tryd.func32, Tryd.ntmps32
  go_wp2_with fail
  go_loopg [0, 4] s.size (fun g x v wr => ∃ (y : ByteArray) (out : List Elt), x = .string y ∧ y.size ≤ g ∧ g + out.length ≤ s.size ∧ Own RElt 3 38 wr base No v out ∧ Below base w wr ∧ base ≤ wr.heap.size ∧ Hid (o = preL out (listF y.data.toList)))
  case atStart => exact ⟨s, [], rfl, Nat.le_refl _, by simp, Own.nil _ _ _ _ _ _, Below.refl _ _, hgs0, hide (by rw [preL_nil, HO.out])⟩
  case round =>
    obtain ⟨y, out, rfl, hyg, hgo, hown, hb, hgs, H⟩ := hrel
    have hys := size_string y
    by_cases h0 : y.size = 0
    · have e1 : y.toList = [] := by rw [ByteArray.toList_eq]; exact List.eq_nil_of_length_eq_zero (by omega)
      have e2 : ¬ (0 : Int) < (y.size : Int) := by omega
      have HN := hide (show o = .ok out by rw [H.out, ← ByteArray.toList_eq, e1, listF_nil, preL, List.append_nil])
      have hsl := (Sl.ok RElt.ok).mono (hown.sl RElt.ok) (S' := Btw w.heap.size wr.heap.size) (fun _ _ => rfl) (fun k hk => by rcases hk with hk | hk; exact hk.elim; rw [HBASE.out] at hk; exact hk)
      obtain ⟨A, cp, hv⟩ := hsl.shape
      subst hv
      have HB := hide (HBASE.out ▸ hb)
      have HSL := hide hsl
      clear hb hsl hown hys h0
      go_wp2_with fail
      go_ret2
      exact ListPost.ok HN.out HB.out HSL.out
    · have e0 : ¬ y.toList = [] := by rw [ByteArray.toList_eq]; intro e; rw [e] at hys; simp at hys; omega
      have e1 : (y.toList == []) = false := by simpa using e0
      have e3 : y.toList.isEmpty = false := by simpa using e0
      have e2 : (0 : Int) < (y.size : Int) := by omega
      have hne : y.data.toList ≠ [] := by rw [← ByteArray.toList_eq]; exact e0
      have HNE := hide hne
      have HOWN := hide hown
      have HB := hide hb
      obtain ⟨A, cp, hv⟩ := (hown.sl RElt.ok).shape
      subst hv
      clear hys h0 e0 hne hown hb
      obtain ⟨r, hr⟩ : ∃ r, readF y.data.toList = r := ⟨_, rfl⟩
      have HR := hide hr
      clear hr
      obtain ⟨wo, rfl⟩ : ∃ wo : World, wo = wr := ⟨_, rfl⟩
      go_wp2_with fail
      refine (Read_any y (by omega) _).mono ?_
      rintro e w5 ⟨rfl, hb5⟩
      rw [HR.out]
      have HB5 := hide (HB.out.trans (hb5.mono hgs))
      have hs5 := hb5.size
      have HOWN5 := hide (HOWN.out.below RElt.ok (no_lt _) hb5)
      clear hb5
      cases r with
      | error k =>
        have hk : k ≠ 0 := fun h => read_err0 _ (h ▸ HR.out)
        have ht : (k != 0) = true := by simpa using hk
        have HN := hide (show o = .error k by rw [H.out, listF_error HNE.out HR.out]; rfl)
        rw [show readR (.error k) = .tuple #[.agg #[.int .i64 0, .string ⟨#[]⟩, .string ⟨#[]⟩], .string ⟨#[]⟩, .int .i64 k] from rfl]
        clear hk
        go_wp2_with fail
        go_ret2
        exact ListPost.err HN.out ((HBASE.out ▸ HB5.out).alloc (by have := HBASE.out; omega) _)
      | ok p =>
        obtain ⟨⟨t, c, raw⟩, q⟩ := p
        have hlen := read_len HR.out
        obtain ⟨x1, hx1⟩ : ∃ x : ByteArray, x = ⟨c.toArray⟩ := ⟨_, rfl⟩
        obtain ⟨x2, hx2⟩ : ∃ x : ByteArray, x = ⟨raw.toArray⟩ := ⟨_, rfl⟩
        obtain ⟨x3, hx3⟩ : ∃ x : ByteArray, x = ⟨q.toArray⟩ := ⟨_, rfl⟩
        have hd1 : c = x1.data.toList := by rw [hx1]
        have hd2 : raw = x2.data.toList := by rw [hx2]
        have hd3 : q = x3.data.toList := by rw [hx3]
        have hx3s : x3.size < y.size := by
          have := hlen.2.2
          rw [hd3, size_string, size_string] at this
          exact this
        rw [show readR (.ok ((t, c, raw), q)) = .tuple #[.agg #[.int .i64 (t : Int), .string x1, .string x2], .string x3, .int .i64 0] by rw [readR, eltV, hx1, hx2, hx3]]
        have HX := hide (show o = preL (out ++ [(t, x1.data.toList, x2.data.toList)]) (listF x3.data.toList) by rw [H.out, listF_pre HR.out, preL_app, hd1, hd2, hd3])
        clear hlen hx1 hx2 hx3 hd1 hd2 hd3
        go_upto_region 4 with fail
        obtain ⟨wA, hwA⟩ : ∃ W, W = w5.alloc (.cells #[.int .i64 (t : Int), .string x1, .string x2] 38) := ⟨_, rfl⟩
        have n0 : wA.cell? ⟨w5.heap.size, 0, none⟩ = some (.int .i64 (t : Int)) := by rw [hwA, World.cell?_alloc_new]; rfl
        have n1 : wA.cell? ⟨w5.heap.size, 1, none⟩ = some (.string x1) := by rw [hwA, World.cell?_alloc_new]; rfl
        have n2 : wA.cell? ⟨w5.heap.size, 2, none⟩ = some (.string x2) := by rw [hwA, World.cell?_alloc_new]; rfl
        have HBA := hide (show Below base w wA by rw [hwA]; exact HB5.out.alloc (by omega) _)
        have HOA := hide (show Own RElt 3 38 wA base No (.slice A out.length cp) out by rw [hwA]; exact HOWN5.out.alloc RElt.ok (no_lt _) _)
        have hzA : w5.heap.size < wA.heap.size := by rw [hwA]; simp
        rw [← hwA]
        clear hwA
        go_wp2_with (at_builtin; refine wpList_app RElt.ok _ rfl (.tmp 19) (.tmp 21) 41 rfl base 38 (.agg #[.int .i64 0, .string ⟨#[]⟩, .string ⟨#[]⟩]) 40 Tryd.underlying41 info_elt rfl (by decide) No _ out rfl (HOA.out.alloc RElt.ok (no_lt _) _) ⟨_, 0, none⟩ 1 1 [(t, x1.data.toList, x2.data.toList)] rfl rfl (news_elt _ _ _ t x1 x2) (no_lt _) (by simp; omega) (by simp [maxLen]; omega) (by simp; omega) ?_; intro v2 w2 hown2 hg2 hb2 hat2; have hsz2 := hb2.size; simp at hsz2)
        go_roundg x3.size
        case rel => exact ⟨x3, _, rfl, Nat.le_refl _, by simp; omega, hown2, (below_alloc HBA.out (by omega) _).trans hb2, by omega, HX⟩
        case measure => omega

set_option maxRecDepth 100000 in
set_option maxHeartbeats 4000000 in
theorem rList_any (s : ByteArray) (hs : s.size ≤ 1000000000) (w : World) :
    Calls Tryd.prog 30 #[.string s] w (ListPost w (listF s.data.toList)) := by
  obtain ⟨o, ho⟩ : ∃ o, listF s.data.toList = o := ⟨_, rfl⟩
  rw [ho]
  have HO := hide ho
  obtain ⟨base, hbase⟩ : ∃ b, b = w.heap.size := ⟨_, rfl⟩
  have HBASE := hide hbase
  have hgs0 : base ≤ w.heap.size := by omega
  clear ho hbase
  go_enter Tryd.func30, Tryd.ntmps30
  go_wp2_with fail
  go_loopg [0, 4] s.size (fun g x v wr => ∃ (y : ByteArray) (out : List Elt), x = .string y ∧ y.size ≤ g ∧ g + out.length ≤ s.size ∧ Own RElt 3 38 wr base No v out ∧ Below base w wr ∧ base ≤ wr.heap.size ∧ Hid (o = preL out (listF y.data.toList)))
  case atStart => exact ⟨s, [], rfl, Nat.le_refl _, by simp, Own.nil _ _ _ _ _ _, Below.refl _ _, hgs0, hide (by rw [preL_nil, HO.out])⟩
  case round =>
    obtain ⟨y, out, rfl, hyg, hgo, hown, hb, hgs, H⟩ := hrel
    have hys := size_string y
    by_cases h0 : y.size = 0
    · have e1 : y.toList = [] := by rw [ByteArray.toList_eq]; exact List.eq_nil_of_length_eq_zero (by omega)
      have e2 : ¬ (0 : Int) < (y.size : Int) := by omega
      have HN := hide (show o = .ok out by rw [H.out, ← ByteArray.toList_eq, e1, listF_nil, preL, List.append_nil])
      have hsl := (Sl.ok RElt.ok).mono (hown.sl RElt.ok) (S' := Btw w.heap.size wr.heap.size) (fun _ _ => rfl) (fun k hk => by rcases hk with hk | hk; exact hk.elim; rw [HBASE.out] at hk; exact hk)
      obtain ⟨A, cp, hv⟩ := hsl.shape
      subst hv
      have HB := hide (HBASE.out ▸ hb)
      have HSL := hide hsl
      clear hb hsl hown hys h0
      go_wp2_with fail
      go_ret2
      exact ListPost.ok HN.out HB.out HSL.out
    · have e0 : ¬ y.toList = [] := by rw [ByteArray.toList_eq]; intro e; rw [e] at hys; simp at hys; omega
      have e1 : (y.toList == []) = false := by simpa using e0
      have e3 : y.toList.isEmpty = false := by simpa using e0
      have e2 : (0 : Int) < (y.size : Int) := by omega
      have hne : y.data.toList ≠ [] := by rw [← ByteArray.toList_eq]; exact e0
      have HNE := hide hne
      have HOWN := hide hown
      have HB := hide hb
      obtain ⟨A, cp, hv⟩ := (hown.sl RElt.ok).shape
      subst hv
      clear hys h0 e0 hne hown hb
      obtain ⟨r, hr⟩ : ∃ r, readF y.data.toList = r := ⟨_, rfl⟩
      have HR := hide hr
      clear hr
      obtain ⟨wo, rfl⟩ : ∃ wo : World, wo = wr := ⟨_, rfl⟩
      go_wp2_with fail
      refine (rRead_any y (by omega) _).mono ?_
      rintro e w5 ⟨rfl, hb5⟩
      rw [HR.out]
      have HB5 := hide (HB.out.trans (hb5.mono hgs))
      have hs5 := hb5.size
      have HOWN5 := hide (HOWN.out.below RElt.ok (no_lt _) hb5)
      clear hb5
      cases r with
      | error k =>
        have hk : k ≠ 0 := fun h => read_err0 _ (h ▸ HR.out)
        have ht : (k != 0) = true := by simpa using hk
        have HN := hide (show o = .error k by rw [H.out, listF_error HNE.out HR.out]; rfl)
        rw [show readR (.error k) = .tuple #[.agg #[.int .i64 0, .string ⟨#[]⟩, .string ⟨#[]⟩], .string ⟨#[]⟩, .int .i64 k] from rfl]
        clear hk
        go_wp2_with fail
        go_ret2
        exact ListPost.err HN.out ((HBASE.out ▸ HB5.out).alloc (by have := HBASE.out; omega) _)
      | ok p =>
        obtain ⟨⟨t, c, raw⟩, q⟩ := p
        have hlen := read_len HR.out
        obtain ⟨x1, hx1⟩ : ∃ x : ByteArray, x = ⟨c.toArray⟩ := ⟨_, rfl⟩
        obtain ⟨x2, hx2⟩ : ∃ x : ByteArray, x = ⟨raw.toArray⟩ := ⟨_, rfl⟩
        obtain ⟨x3, hx3⟩ : ∃ x : ByteArray, x = ⟨q.toArray⟩ := ⟨_, rfl⟩
        have hd1 : c = x1.data.toList := by rw [hx1]
        have hd2 : raw = x2.data.toList := by rw [hx2]
        have hd3 : q = x3.data.toList := by rw [hx3]
        have hx3s : x3.size < y.size := by
          have := hlen.2.2
          rw [hd3, size_string, size_string] at this
          exact this
        rw [show readR (.ok ((t, c, raw), q)) = .tuple #[.agg #[.int .i64 (t : Int), .string x1, .string x2], .string x3, .int .i64 0] by rw [readR, eltV, hx1, hx2, hx3]]
        have HX := hide (show o = preL (out ++ [(t, x1.data.toList, x2.data.toList)]) (listF x3.data.toList) by rw [H.out, listF_pre HR.out, preL_app, hd1, hd2, hd3])
        clear hlen hx1 hx2 hx3 hd1 hd2 hd3
        go_upto_region 4 with fail
        obtain ⟨wA, hwA⟩ : ∃ W, W = w5.alloc (.cells #[.int .i64 (t : Int), .string x1, .string x2] 38) := ⟨_, rfl⟩
        have n0 : wA.cell? ⟨w5.heap.size, 0, none⟩ = some (.int .i64 (t : Int)) := by rw [hwA, World.cell?_alloc_new]; rfl
        have n1 : wA.cell? ⟨w5.heap.size, 1, none⟩ = some (.string x1) := by rw [hwA, World.cell?_alloc_new]; rfl
        have n2 : wA.cell? ⟨w5.heap.size, 2, none⟩ = some (.string x2) := by rw [hwA, World.cell?_alloc_new]; rfl
        have HBA := hide (show Below base w wA by rw [hwA]; exact HB5.out.alloc (by omega) _)
        have HOA := hide (show Own RElt 3 38 wA base No (.slice A out.length cp) out by rw [hwA]; exact HOWN5.out.alloc RElt.ok (no_lt _) _)
        have hzA : w5.heap.size < wA.heap.size := by rw [hwA]; simp
        rw [← hwA]
        clear hwA
        go_wp2_with (at_builtin; refine wpList_app RElt.ok _ rfl (.tmp 20) (.tmp 22) 41 rfl base 38 (.agg #[.int .i64 0, .string ⟨#[]⟩, .string ⟨#[]⟩]) 40 Tryd.underlying41 info_elt rfl (by decide) No _ out rfl (HOA.out.alloc RElt.ok (no_lt _) _) ⟨_, 0, none⟩ 1 1 [(t, x1.data.toList, x2.data.toList)] rfl rfl (news_elt _ _ _ t x1 x2) (no_lt _) (by simp; omega) (by simp [maxLen]; omega) (by simp; omega) ?_; intro v2 w2 hown2 hg2 hb2 hat2; have hsz2 := hb2.size; simp at hsz2)
        go_roundg x3.size
        case rel => exact ⟨x3, _, rfl, Nat.le_refl _, by simp; omega, hown2, (below_alloc HBA.out (by omega) _).trans hb2, by omega, HX⟩
        case measure => omega
end Go.Proofs.YtbafpgdmnkkclaaDoor

/- Elements: Check, both sides. -/
namespace Go.Proofs.YtbafpgdmnkkclaaDoor
open Go.RowKit

theorem and32 (t : Nat) (h : t < 256) : bits .and .i64 (t : Int) 32 = ((t / 32 % 2 * 32 : Nat) : Int) := by
  have h : ∀ n : Fin 256, bits .and .i64 ((n.1 : Nat) : Int) 32 = ((n.1 / 32 % 2 * 32 : Nat) : Int) := by decide +kernel
  exact h ⟨t, by omega⟩


end Go.Proofs.YtbafpgdmnkkclaaDoor
