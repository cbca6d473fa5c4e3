/- Keys that the laws make: one drawn from a deck. -/
import Derived.Test.YtmgnihmjjijdoaaDoorKShaD
import Derived.BigRegion
namespace Go.Proofs.YtmgnihmjjijdoaaDoor
open Go.RowKit
theorem seedL_len (k : Nat) : (seedL k).length = 32 := sum1_len _
def KeyPost (d : Nat) (w : World) (e : Ending) (w' : World) : Prop :=
 ∃ (h : Nat) (i r : ByteArray), h ≤ 8 ∧ i.size = 16 ∧ r.size = 16 ∧ e = .returned (.agg #[.int .i64 (h : Int), .string i, .string r]) ∧ DeckAt w' d ∧ Ex d w w'
set_option maxRecDepth 100000 in
set_option maxHeartbeats 8000000 in
theorem Key_any (d : Nat) (w : World) (h : DeckAt w d) :
  Calls Tryd.prog 6 #[.pointer (some ⟨d, 0, none⟩)] w (KeyPost d w) := by
 have hdw := h.lt
 have HD0 := hide h
 obtain ⟨W0, hW0⟩ : ∃ W, W = w.alloc (.cells #[.int .i64 0, .string ⟨#[]⟩, .string ⟨#[]⟩] 23) := ⟨_, rfl⟩
 have hd0 : DeckAt W0 d := by rw [hW0]; exact h.alloc _
 have hk0 : KX w.heap.size 0 ⟨#[]⟩ ⟨#[]⟩ W0 := by rw [hW0]; exact KX.new w _ _ _
 have hx0 : Ex d w W0 := by rw [hW0]; exact (Ex.refl d w).alloc _
 have HD1 := hide hd0
 have HK1 := hide hk0
 have HX1 := hide hx0
 clear h hd0 hk0 hx0
 go_enter Tryd.func6, Tryd.ntmps6
 go_upto_region 1 with fail
 rw [← hW0]
 clear hW0
 obtain ⟨g, hg⟩ : ∃ g, w.heap.size = g := ⟨_, rfl⟩
 rw [hg] at HK1 ⊢
 have hgw : w.heap.size ≤ g := by omega
 have hdg : d < g := by omega
 have hgd : g ≠ d := by omega
 clear hg
 go_wp2_with fail
 refine (Next_any d 50 (by omega) (by omega) _ HD1.out).mono ?_
 rintro e w2 ⟨v, hv, rfl, hd2, hx2⟩
 have HD2 := hide hd2
 have HK2 := hide (HK1.out.ex hx2 hgd)
 have HX2 := hide (HX1.out.trans hx2)
 clear hd2 hx2
 go_wp2_with fail
 refine (Seed_any v (by omega) _).mono ?_
 rintro e w3 ⟨rfl, hb3⟩
 have HD3 := hide (HD2.out.below hb3)
 have HK3 := hide (HK2.out.below hb3)
 have HX3 := hide (HX2.out.then_ hb3)
 clear hb3
 have hsl := seedL_len v
 obtain ⟨s, hs⟩ : ∃ s : ByteArray, s = ⟨(seedL v).toArray⟩ := ⟨_, rfl⟩
 have hss : s.size = 32 := by rw [hs, ba_mk, hsl]
 rw [← hs]
 clear hs hsl
 obtain ⟨i, hi⟩ : ∃ i, i = s.extract 0 16 := ⟨_, rfl⟩
 have his : i.size = 16 := by rw [hi, ba_size_ex _ _ _ (by omega)]
 obtain ⟨r, hr⟩ : ∃ r, r = s.extract 16 32 := ⟨_, rfl⟩
 have hrs : r.size = 16 := by rw [hr, ba_size_ex _ _ _ (by omega)]
 have NX := hide (show ∀ W : World, DeckAt W d → Calls Tryd.prog 7 #[.pointer (some ⟨d, 0, none⟩), .int .i64 9] W (NextPost d 9 W) from fun W h => Next_any d 9 (by omega) (by omega) W h)
 have hk3 := HK3.out
 have hd3 := HD3.out
 have hx3 := HX3.out
 have hk3d : KX g 0 ⟨#[]⟩ ⟨#[]⟩ w3.drew := hk3
 have hd3d : DeckAt w3.drew d := hd3
 have hx3d : Ex d w w3.drew := hx3.drew
 go_wp2_with fail
 go_region_held3 (fun W => DeckAt W d ∧ Ex d w W)
  (first | exact ⟨hd9, hx9⟩ | exact ⟨hd3, hx3⟩ | exact ⟨hd3d, hx3d⟩ | exact ⟨((hd9.set_ hdg _).set_ hdg _).set_ hdg _, ((hx9.setNew hgw _).setNew hgw _).setNew hgw _⟩)
  (first
   | (go_at_call 7; (with_reducible refine (NX.out _ hd3d).mono ?_); rintro e w9 ⟨u, hu, rfl, hd9, hx9'⟩; have hk9 := hk3d.ex hx9' hgd; have hx9 := hx3d.trans hx9'; obtain ⟨n0, n1, n2, f0, f1, f2⟩ := hk9.facts)
   | fail)
 all_goals
  have hst := hk9.store (.int .i64 (u : Int)) (.string (s.extract 0 16)) (.string (s.extract 16 32))
  have hdz := ((hd9.set_ hdg (j := 0) (.int .i64 (u : Int))).set_ hdg (j := 1) (.string (s.extract 0 16))).set_ hdg (j := 2) (.string (s.extract 16 32))
  have hxz := ((hx9.setNew hgw (j := 0) (.int .i64 (u : Int))).setNew hgw (j := 1) (.string (s.extract 0 16))).setNew hgw (j := 2) (.string (s.extract 16 32))
  obtain ⟨w10, hw10⟩ : ∃ W, W = ((w9.setCell ⟨g, 0, none⟩ (.int .i64 (u : Int))).setCell ⟨g, 1, none⟩ (.string (s.extract 0 16))).setCell ⟨g, 2, none⟩ (.string (s.extract 16 32)) := ⟨_, rfl⟩
  rw [← hw10] at hst hdz hxz ⊢
  rw [← hi, ← hr] at hst ⊢
  obtain ⟨c0, c1, c2⟩ := hst
  clear n0 n1 n2 f0 f1 f2 hw10
  go_wp2_with fail
  exact bodyPost_ret (v := .agg #[.int .i64 (u : Int), .string i, .string r]) (by simp [results, Tryd.results6, go_sem, c0, c1, c2]) rfl ⟨u, i, r, by omega, his, hrs, rfl, hdz, hxz⟩
end Go.Proofs.YtmgnihmjjijdoaaDoor
