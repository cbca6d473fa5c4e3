/- The functions of package subtree: Add. -/
import Derived.Test.YtahamclodagihaaGreatDoorTGnH
namespace Go.Proofs.YtahamclodagihaaGreatDoor
open Go.RowKit
def TB (g : Nat) (u : Value) (W : World) : Prop := W.heap[g]? = some (.cells #[u] 109 (0, 0))
theorem TB.facts {g : Nat} {u : Value} {W : World} (h : TB g u W) : W.cell? ⟨g, 0, none⟩ = some u ∧ W.frozen? ⟨g, 0, none⟩ = false := by
 unfold TB at h
 simp [World.cell?, World.frozen?, h]
theorem TB.lt {g : Nat} {u : Value} {W : World} (h : TB g u W) : g < W.heap.size := (Array.getElem?_eq_some_iff.1 h).1
theorem TB.below {g B : Nat} {u : Value} {W W' : World} (h : TB g u W) (hb : Below B W W') (hg : g < B) : TB g u W' := (hb.block g hg).trans h
theorem TB.store {g : Nat} {u : Value} {W : World} (h : TB g u W) (a : Value) : TB g a (W.setCell ⟨g, 0, none⟩ a) := by
 unfold TB at *
 simp [World.setCell, Array.getElem?_modify, h]
set_option maxRecDepth 100000 in
set_option maxHeartbeats 8000000 in
theorem Add_any (st : List Sub) (p x : List Gen) (B A1 A2 : Option Addr) (d c1 c2 : Nat) (hln : st.length ≤ 1000) (hcp : ∀ s ∈ st, CpS s) (hs : CpS (p, x)) (w : World) (h0 : Sl RSub 2 w (Lt w.heap.size) st [.slice B st.length d])
  (h1 : Sl RGen 3 w (Lt w.heap.size) p [.slice A1 p.length c1]) (h2 : Sl RGen 3 w (Lt w.heap.size) x [.slice A2 x.length c2]) :
  Calls Tryz.prog 76 #[.agg #[.slice B st.length d], .agg #[.slice A1 p.length c1, .slice A2 x.length c2]] w fun e w' => ∃ (B' : Option Addr) (d' : Nat), e = .returned (.agg #[.slice B' (st ++ [(p, x)]).length d']) ∧ Sl RSub 2 w' (Btw w.heap.size w'.heap.size) (st ++ [(p, x)]) [.slice B' (st ++ [(p, x)]).length d'] ∧ Below w.heap.size w w' := by
 obtain ⟨wa, hwa⟩ : ∃ wa, wa = ((w.alloc (.cells #[.slice B st.length d] 109)).alloc (.cells #[.slice A1 p.length c1, .slice A2 x.length c2] 52)).alloc (.cells #[.slice none 0 0] 109) := ⟨_, rfl⟩
 have hz1 : (w.alloc (.cells #[.slice B st.length d] 109)).heap.size = w.heap.size + 1 := by simp
 have hz2 : ((w.alloc (.cells #[.slice B st.length d] 109)).alloc (.cells #[.slice A1 p.length c1, .slice A2 x.length c2] 52)).heap.size = w.heap.size + 2 := by simp
 have y0 : wa.cell? ⟨w.heap.size, 0, none⟩ = some (.slice B st.length d) := by rw [hwa, World.cell?_alloc_lt _ _ _ (by simp; omega), World.cell?_alloc_lt _ _ _ (by simp), World.cell?_alloc_new]; rfl
 have y1 : wa.cell? ⟨w.heap.size + 1, 0, none⟩ = some (.slice A1 p.length c1) := by rw [hwa, World.cell?_alloc_lt _ _ _ (by simp), ← hz1, World.cell?_alloc_new]; rfl
 have y2 : wa.cell? ⟨w.heap.size + 1, 1, none⟩ = some (.slice A2 x.length c2) := by rw [hwa, World.cell?_alloc_lt _ _ _ (by simp), ← hz1, World.cell?_alloc_new]; rfl
 have hg : TB (w.heap.size + 2) (.slice none 0 0) wa := by
  unfold TB
  rw [hwa, ← hz2]
  exact heap_alloc_new _ _
 have hba : Below w.heap.size w wa := by rw [hwa]; exact (((Below.refl _ _).alloc (Nat.le_refl _) _).alloc (by simp) _).alloc (by simp; omega) _
 have hza : wa.heap.size = w.heap.size + 3 := by rw [hwa]; simp
 obtain ⟨gg, hgg⟩ : ∃ gg, gg = w.heap.size + 2 := ⟨_, rfl⟩
 rw [← hgg] at hg
 have hgw : TB gg (.slice none 0 0) wa.drew := hg
 have y0d : wa.drew.cell? ⟨w.heap.size, 0, none⟩ = some (.slice B st.length d) := y0
 have y1d : wa.drew.cell? ⟨w.heap.size + 1, 0, none⟩ = some (.slice A1 p.length c1) := y1
 have y2d : wa.drew.cell? ⟨w.heap.size + 1, 1, none⟩ = some (.slice A2 x.length c2) := y2
 have hbad : Below w.heap.size w wa.drew := hba.drew
 have hzd : wa.drew.heap.size = w.heap.size + 3 := hza
 have K0 := hide ((Sl.ok RSub.ok).below h0 hbad)
 have E0 := hide (eachSub_any st B d hln hcp wa.drew ((Sl.ok RSub.ok).below h0 hbad))
 have E1 := hide (fun W (hb : Below w.heap.size w W) => clone_any p x A1 A2 c1 c2 hs.1 hs.2 W ((Sl.ok RGen.ok).below h1 hb) ((Sl.ok RGen.ok).below h2 hb))
 have HG := hide hg
 have HGW := hide hgw
 have HWA := hide hwa
 have HZA := hide hzd
 have HGG := hide hgg
 have hlc : (st ++ [(p, x)]).length = st.length + 1 := by simp
 clear hwa hg hgw hza hzd hs hcp h0 h1 h2 hgg hz1 hz2
 go_enter Tryz.func76, Tryz.ntmps76
 go_upto_region 1 with (fail)
 rw [← HWA.out, ← HGG.out]
 go_region_law (first
   | (go_simp; go_at_call 138; refine E0.out.mono ?_; rintro e w5 ⟨A5, c5, S5, rfl, hown5, hS5, hb5⟩; have hs1 := cell_grows hb5 _ _ y0d; have hs2 := cell_grows hb5 _ _ y1d; have hs3 := cell_grows hb5 _ _ y2d; have hs4 := hbad.trans (hb5.mono hbad.size))
   | (go_simp; go_at_call 139; refine (E1.out w5 hs4).mono ?_; rintro e w6 ⟨A6, A7, c6, c7, rfl, hsl6, hsl7, hb6⟩; have hs1 := cell_grows hb6 _ _ hs1; have hs2 := cell_grows hb6 _ _ hs2; have hs3 := cell_grows hb6 _ _ hs3; have hs4 := hs4.trans (hb6.mono hs4.size); obtain ⟨S', hc1, hc2, hc3⟩ := sub_step hown5 hS5 hb5.size (Below.refl _ _) hb6 hsl6 hsl7; have hz5 := hb5.size; have hz6 := hb6.size; have hzz := HZA.out; have ha1 := fun ob => (World.cell?_alloc_lt w6 ob ⟨w.heap.size, 0, none⟩ (by simp; omega)).trans hs1; have ha2 := fun ob => (World.cell?_alloc_lt w6 ob ⟨w.heap.size + 1, 0, none⟩ (by simp; omega)).trans hs2; have ha3 := fun ob => (World.cell?_alloc_lt w6 ob ⟨w.heap.size + 1, 1, none⟩ (by simp; omega)).trans hs3; have ha4 := fun ob => hs4.alloc hs4.size ob)
   | (refine step_app RSub.ok _ ?_ (.tmp 7) (.tmp 10) 107 ?_ wa.drew.heap.size 52 (.agg #[.slice none 0 0, .slice none 0 0]) 48 Tryz.underlying107 info_sub rfl (by decide) S' (.slice A5 st.length c5) st ?_ hc1 ⟨w6.heap.size, 0, none⟩ 1 1 [(p, x)] ?_ rfl ?_ (fun b hb => (hc3 b hb).2) ?_ ?_ ?_ ?_; rfl; rfl; rfl; rfl; exact hc2; (simp; omega); (simp [maxLen]; omega); (rw [World.size_alloc]; omega); intro v7 w7 hown7 hgr7 hb7 hat7; obtain ⟨A8, c8, hv8⟩ := (hown7.sl RSub.ok).shape; obtain ⟨n8, hn8⟩ : ∃ n8, (st ++ [((p, x) : Sub)]).length = n8 := ⟨_, rfl⟩; rw [hn8] at hv8; subst hv8; have HN8 := hide hn8; clear hn8; have hs1 := (hb7.cell (p := ⟨w.heap.size, 0, none⟩) (by show w.heap.size < wa.drew.heap.size; omega)).trans (ha1 _); have hs2 := (hb7.cell (p := ⟨w.heap.size + 1, 0, none⟩) (by show w.heap.size + 1 < wa.drew.heap.size; omega)).trans (ha2 _); have hs3 := (hb7.cell (p := ⟨w.heap.size + 1, 1, none⟩) (by show w.heap.size + 1 < wa.drew.heap.size; omega)).trans (ha3 _); have hs4 := (ha4 _).trans (hb7.mono (by omega)); have hg7 := (((HGW.out.below hb5 (by have := HGG.out; omega)).below hb6 (by have := HGG.out; omega)).below ((Below.refl _ _).alloc (Nat.le_refl _) (.cells #[.slice A6 p.length c6, .slice A7 x.length c7] 52)) (by have := HGG.out; omega)).below hb7 (by have := HGG.out; omega); have q1 := hg7.facts.1; have q2 := hg7.facts.2))
 all_goals
  have hst := hg7.store (.slice A8 n8 c8)
  have hz7 := hb7.size
  rw [World.size_alloc] at hz7
  have hgk := HGG.out
  have hrng : ∀ k, (S' k ∨ (wa.drew.heap.size ≤ k ∧ k < w7.heap.size)) → wa.drew.heap.size ≤ k ∧ k < w7.heap.size := fun k hk => by
   rcases hk with hk | hk
   ·have := hc3 k hk
    rw [World.size_alloc] at this
    omega
   ·exact hk
  have hsl := (Sl.ok RSub.ok).mono (hown7.sl RSub.ok) (w' := w7.setCell ⟨gg, 0, none⟩ (.slice A8 n8 c8)) (S' := Btw w.heap.size (w7.setCell ⟨gg, 0, none⟩ (.slice A8 n8 c8)).heap.size)
   (fun k hk => Below.heap_setCell _ ⟨gg, 0, none⟩ _ k (by show k ≠ gg; have := hrng k hk; omega)) (fun k hk => ⟨by have := hrng k hk; omega, by have := (hrng k hk).2; simp; omega⟩)
  have hbz := hs4.setCell (p := ⟨gg, 0, none⟩) (by show w.heap.size ≤ gg; omega) (.slice A8 n8 c8)
  obtain ⟨W3, hW3⟩ : ∃ W3, W3 = w7.setCell ⟨gg, 0, none⟩ (.slice A8 n8 c8) := ⟨_, rfl⟩
  rw [← hW3] at hst hsl hbz
  try rw [← hW3]
  have q8 := hst.facts.1
  go_wp2_with fail
  exact bodyPost_ret (v := .agg #[.slice A8 n8 c8]) (by simp [results, Tryz.results76, go_sem, q8]) rfl ⟨A8, c8, by rw [HN8.out], by rw [HN8.out]; exact hsl, hbz⟩
end Go.Proofs.YtahamclodagihaaGreatDoor
