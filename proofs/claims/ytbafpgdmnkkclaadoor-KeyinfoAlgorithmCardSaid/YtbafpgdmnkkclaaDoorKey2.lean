/- Keys that the laws make: one drawn from a deck. -/
import Derived.Test.YtbafpgdmnkkclaaDoorSha2
import Derived.BigRegion
import Derived.Test.YtbafpgdmnkkclaaDoorLibR
namespace Go.Proofs.YtbafpgdmnkkclaaDoor
open Go.RowKit

theorem seedL_len (k : Nat) : (seedL k).length = 32 := sum1_len _
/-- a valid key; of what was there only the deck has been written -/
def KeyPost (d : Nat) (w : World) (e : Ending) (w' : World) : Prop :=
  ∃ (h : Nat) (i r : ByteArray), h ≤ 8 ∧ i.size = 16 ∧ r.size = 16 ∧ e = .returned (.agg #[.int .i64 (h : Int), .string i, .string r]) ∧ DeckAt w' d ∧ Ex d w w'

set_option maxRecDepth 100000 in
set_option maxHeartbeats 8000000 in
theorem Key_any (d : Nat) (w : World) (h : DeckAt w d) :
    Calls Tryd.prog 10 #[.pointer (some ⟨d, 0, none⟩)] w (KeyPost d w) := by
  have hdw := h.lt
  have HD0 := hide h
  obtain ⟨W0, hW0⟩ : ∃ W, W = w.alloc (.cells #[.int .i64 0, .string ⟨#[]⟩, .string ⟨#[]⟩] 30) := ⟨_, rfl⟩
  have hd0 : DeckAt W0 d := by rw [hW0]; exact h.alloc _
  have hk0 : KX w.heap.size 0 ⟨#[]⟩ ⟨#[]⟩ W0 := by rw [hW0]; exact KX.new w _ _ _
  have hx0 : Ex d w W0 := by rw [hW0]; exact (Ex.refl d w).alloc _
  have HD1 := hide hd0
  have HK1 := hide hk0
  have HX1 := hide hx0
  clear h hd0 hk0 hx0
  go_enter Tryd.func10, Tryd.ntmps10
  go_upto_region 1 with fail
  rw [← hW0]
  clear hW0
  obtain ⟨g, hg⟩ : ∃ g, w.heap.size = g := ⟨_, rfl⟩
  rw [hg] at HK1 ⊢
  have hgw : w.heap.size ≤ g := by omega
  have hdg : d < g := by omega
  have hgd : g ≠ d := by omega
  clear hg
  go_wp2_with fail
  refine (Next_any d 50 (by omega) (by omega) _ HD1.out).mono ?_
  rintro e w2 ⟨v, hv, rfl, hd2, hx2⟩
  have HD2 := hide hd2
  have HK2 := hide (HK1.out.ex hx2 hgd)
  have HX2 := hide (HX1.out.trans hx2)
  clear hd2 hx2
  go_wp2_with fail
  refine (Seed_any v (by omega) _).mono ?_
  rintro e w3 ⟨rfl, hb3⟩
  have HD3 := hide (HD2.out.below hb3)
  have HK3 := hide (HK2.out.below hb3)
  have HX3 := hide (HX2.out.then_ hb3)
  clear hb3
  have hsl := seedL_len v
  obtain ⟨s, hs⟩ : ∃ s : ByteArray, s = ⟨(seedL v).toArray⟩ := ⟨_, rfl⟩
  have hss : s.size = 32 := by rw [hs, ba_mk, hsl]
  rw [← hs]
  clear hs hsl
  obtain ⟨i, hi⟩ : ∃ i, i = s.extract 0 16 := ⟨_, rfl⟩
  have his : i.size = 16 := by rw [hi, ba_size_ex _ _ _ (by omega)]
  obtain ⟨r, hr⟩ : ∃ r, r = s.extract 16 32 := ⟨_, rfl⟩
  have hrs : r.size = 16 := by rw [hr, ba_size_ex _ _ _ (by omega)]
  have NX := hide (show ∀ W : World, DeckAt W d → Calls Tryd.prog 22 #[.pointer (some ⟨d, 0, none⟩), .int .i64 9] W (NextPost d 9 W) from fun W h => Next_any d 9 (by omega) (by omega) W h)
  have hk3 := HK3.out
  have hd3 := HD3.out
  have hx3 := HX3.out
  have hk3d : KX g 0 ⟨#[]⟩ ⟨#[]⟩ w3.drew := hk3
  have hd3d : DeckAt w3.drew d := hd3
  have hx3d : Ex d w w3.drew := hx3.drew
  go_wp2_with fail
  go_region_held3 (fun W => DeckAt W d ∧ Ex d w W)
    (first | exact ⟨hd9, hx9⟩ | exact ⟨hd3, hx3⟩ | exact ⟨hd3d, hx3d⟩ | exact ⟨((hd9.set_ hdg _).set_ hdg _).set_ hdg _, ((hx9.setNew hgw _).setNew hgw _).setNew hgw _⟩)
    (first
      | (go_at_call 22; (with_reducible refine (NX.out _ hd3d).mono ?_); rintro e w9 ⟨u, hu, rfl, hd9, hx9'⟩; have hk9 := hk3d.ex hx9' hgd; have hx9 := hx3d.trans hx9'; obtain ⟨n0, n1, n2, f0, f1, f2⟩ := hk9.facts)
      | fail)
  all_goals
    have hst := hk9.store (.int .i64 (u : Int)) (.string (s.extract 0 16)) (.string (s.extract 16 32))
    have hdz := ((hd9.set_ hdg (j := 0) (.int .i64 (u : Int))).set_ hdg (j := 1) (.string (s.extract 0 16))).set_ hdg (j := 2) (.string (s.extract 16 32))
    have hxz := ((hx9.setNew hgw (j := 0) (.int .i64 (u : Int))).setNew hgw (j := 1) (.string (s.extract 0 16))).setNew hgw (j := 2) (.string (s.extract 16 32))
    obtain ⟨w10, hw10⟩ : ∃ W, W = ((w9.setCell ⟨g, 0, none⟩ (.int .i64 (u : Int))).setCell ⟨g, 1, none⟩ (.string (s.extract 0 16))).setCell ⟨g, 2, none⟩ (.string (s.extract 16 32)) := ⟨_, rfl⟩
    rw [← hw10] at hst hdz hxz ⊢
    rw [← hi, ← hr] at hst ⊢
    obtain ⟨c0, c1, c2⟩ := hst
    clear n0 n1 n2 f0 f1 f2 hw10
    go_wp2_with fail
    exact bodyPost_ret (v := .agg #[.int .i64 (u : Int), .string i, .string r]) (by simp [results, Tryd.results10, go_sem, c0, c1, c2]) rfl ⟨u, i, r, by omega, his, hrs, rfl, hdz, hxz⟩
end Go.Proofs.YtbafpgdmnkkclaaDoor

/- Keys: the example of the chapter. -/
namespace Go.Proofs.YtbafpgdmnkkclaaDoor
open Go.RowKit

theorem keyW_len {k : Key} (h : chkK k = 0) : (keyW k).length = 52 := by
  have hl := rawK_len h
  rw [keyW, wrapW_len, List.length_append, wrapW_len, List.length_cons, hl]
  decide
theorem encK_ok {k : Key} (h : chkK k = 0) : encK k = (keyW k, 0) := by rw [encK, if_pos h]
theorem made_ok {h : Nat} {i r : ByteArray} (hh : h ≤ 8) (hi : i.size = 16) (hr : r.size = 16) : chkK ((h : Int), i.data.toList, r.data.toList) = 0 := by
  unfold chkK
  rw [if_neg]
  have h1 : i.data.toList.length = 16 := by rw [size_string]; exact hi
  have h2 : r.data.toList.length = 16 := by rw [size_string]; exact hr
  show ¬ ((h : Int) < 0 ∨ 8 < (h : Int) ∨ i.data.toList.length ≠ 16 ∨ r.data.toList.length ≠ 16)
  omega
/-- a made key: what Encode and Decode answer -/
theorem made_back {h : Nat} {i r : ByteArray} (hh : h ≤ 8) (hi : i.size = 16) (hr : r.size = 16) :
    ∃ S : ByteArray, S.size = 52 ∧ wrapR (encK ((h : Int), i.data.toList, r.data.toList)) = .tuple #[.string S, .int .i64 0] ∧
      decKR (decK S.data.toList) = .tuple #[.agg #[.int .i64 (h : Int), .string i, .string r], .int .i64 0] := by
  have hk := made_ok hh hi hr
  refine ⟨⟨(keyW ((h : Int), i.data.toList, r.data.toList)).toArray⟩, by rw [ba_mk, keyW_len hk], by rw [encK_ok hk]; rfl, ?_⟩
  show decKR (decK (keyW _)) = _
  rw [decK_enc hk]
  rfl

set_option maxRecDepth 100000 in
set_option maxHeartbeats 4000000 in
theorem kawake_any (w : World) (hmx : Mx w) (htb : Tb w) : Calls Tryd.prog 7 #[] w fun e w' => e = .returned (.bool true) ∧ Below w.heap.size w w' := by
  have HMX := hide hmx
  have HTB := hide htb
  have hsl := sl_pu (f := intC) (size := 1) (fun _ => rfl) w #[.int .i64 1, .int .i64 3] 3 [1, 3] rfl (by simp [maxLen])
  have HSL := hide hsl
  have hb0 : Below w.heap.size w (w.alloc (.cells #[.int .i64 1, .int .i64 3] 3)) := (Below.refl _ _).alloc (Nat.le_refl _) _
  have HB0 := hide hb0
  clear hmx htb hsl hb0
  go_enter Tryd.func7, Tryd.ntmps7
  go_wp2_with fail
  refine (New_any [1, 3] _ 2 2 _ HSL.out).mono ?_
  rintro e w1 ⟨rfl, hd1, hb1⟩
  have HD1 := hide hd1
  have HB1 := hide (HB0.out.trans (hb1.mono HB0.out.size))
  have hz1 := HB1.out.size
  obtain ⟨d, hd⟩ : ∃ d, d = (w.alloc (.cells #[.int .i64 1, .int .i64 3] 3)).heap.size := ⟨_, rfl⟩
  rw [← hd] at HD1 ⊢
  have hdw : w.heap.size ≤ d := by rw [hd]; simp
  clear hd1 hb1 hd
  go_wp2_with fail
  refine (Key_any d _ HD1.out).mono ?_
  rintro e w2 ⟨h, i, r, hh, hi, hr, rfl, hd2, hx2⟩
  have HB2 := hide (Ex.below HB1.out hz1 hdw hx2)
  obtain ⟨S, hSs, hE, hD⟩ := made_back hh hi hr
  have HE := hide hE
  have HD := hide hD
  obtain ⟨W3, hW3⟩ : ∃ W, W = w2.alloc (.cells #[.int .i64 (h : Int), .string i, .string r] 30) := ⟨_, rfl⟩
  have hk3 := KX.new w2 (h : Int) i r
  have hb3 : Below w.heap.size w W3 := by rw [hW3]; exact HB2.out.alloc HB2.out.size _
  rw [← hW3] at hk3
  have HK3 := hide hk3
  have HB3 := hide hb3
  clear hd2 hx2 hE hD hk3 hb3
  go_upto_region 2 with fail
  rw [← hW3]
  clear hW3
  obtain ⟨g, hg⟩ : ∃ g, w2.heap.size = g := ⟨_, rfl⟩
  rw [hg] at HK3 ⊢
  clear hg
  obtain ⟨n0, n1, n2, -, -, -⟩ := HK3.out.facts
  go_wp2_with fail
  refine (KEncode_any (h : Int) i r _ (HMX.out.below HB3.out)).mono ?_
  rintro e w4 ⟨rfl, hb4⟩
  rw [HE.out]
  have HB4 := hide (HB3.out.trans (hb4.mono HB3.out.size))
  have HK4 := hide (HK3.out.below hb4)
  clear hb4 n0 n1 n2
  go_wp2_with fail
  refine (KDecode_any S (by omega) _ (HTB.out.below HB4.out)).mono ?_
  rintro e w5 ⟨rfl, hb5⟩
  rw [HD.out]
  have HB5 := hide (HB4.out.trans (hb5.mono HB4.out.size))
  have HK5 := hide (HK4.out.below hb5)
  clear hb5
  obtain ⟨W6, hW6⟩ : ∃ W, W = w5.alloc (.cells #[.int .i64 (h : Int), .string i, .string r] 30) := ⟨_, rfl⟩
  have hk6 := KX.new w5 (h : Int) i r
  have hb6 : Below w5.heap.size w5 W6 := by rw [hW6]; exact (Below.refl _ _).alloc (Nat.le_refl _) _
  rw [← hW6] at hk6
  have HK6 := hide hk6
  have HKg := hide (HK5.out.below hb6)
  have HB6 := hide (HB5.out.trans (hb6.mono HB5.out.size))
  clear hk6 hb6
  go_upto_region 4 with fail
  rw [← hW6]
  clear hW6
  obtain ⟨g2, hg2⟩ : ∃ g, w5.heap.size = g := ⟨_, rfl⟩
  rw [hg2] at HK6 ⊢
  clear hg2
  obtain ⟨n0, n1, n2, -, -, -⟩ := HKg.out.facts
  obtain ⟨m0, m1, m2, -, -, -⟩ := HK6.out.facts
  obtain ⟨al, hal⟩ : ∃ A : ByteArray, algA = A := ⟨_, rfl⟩
  have has : al.size = 14 := by rw [← hal]; rfl
  have HAL := hide (fun W h => hal ▸ Algorithm_any W h)
  clear hal
  go_wp2_with fail
  refine (HAL.out _ (HMX.out.below HB6.out)).mono ?_
  rintro e w7 ⟨rfl, hb7⟩
  have HB7 := hide (HB6.out.trans (hb7.mono HB6.out.size))
  clear hb7
  go_wp2_with fail
  go_ret
  exact ⟨rfl, HB7.out⟩
end Go.Proofs.YtbafpgdmnkkclaaDoor
