/- The laws of layer 9: short, some. -/
import Derived.Test.YtmgnihmjjijdoaaGreatDoorGnZ
namespace Go.Proofs.YtmgnihmjjijdoaaGreatDoor
open Go.RowKit
theorem one_gen9 {w : World} {S : Nat → Prop} {g : Gen} {t : ByteArray} {A : Option Addr} {c : Nat} {T : TypeId} (ht : t.data.toList = g.2.1) (h1 : Sl RRdn 1 w S g.2.2 [.slice A g.2.2.length c]) (hS : ∀ k, S k → k < w.heap.size) :
    Sl RGen 3 (w.alloc (.cells #[.int .i64 g.1, .string t, .slice A g.2.2.length c] T)) (Lt (w.alloc (.cells #[.int .i64 g.1, .string t, .slice A g.2.2.length c] T)).heap.size) [g] [.slice (some ⟨w.heap.size, 0, none⟩) [g].length 1] := by
  refine ⟨_, _, rfl, Nat.le_refl _, by simp [maxLen], fun _ => ⟨w.heap.size, 0, rfl, by show w.heap.size < _; simp, fun i x hx => ?_⟩⟩
  match i, hx with
  | 0, hx =>
    simp at hx; subst hx
    refine ⟨[.int .i64 g.1, .string t, .slice A g.2.2.length c], ⟨_, by rw [← ht], (Sl.ok RRdn.ok).mono h1 (fun k hk => Below.heap_alloc _ _ k (hS k hk)) (fun k hk => by show k < _; have := hS k hk; simp; omega)⟩, fun j u hu => ?_⟩
    rw [World.cell?_alloc_new]
    match j, hu with
    | 0, hu => simpa using hu
    | 1, hu => simpa using hu
    | 2, hu => simpa using hu
set_option maxRecDepth 100000 in
set_option maxHeartbeats 4000000 in
theorem short9_any (g : Gen) (t : ByteArray) (A : Option Addr) (c : Nat) (q : Bool) (hq : shortGs [g] = q) (ht : t.data.toList = g.2.1) (w : World) (h : Sl RRdn 1 w (Lt w.heap.size) g.2.2 [.slice A g.2.2.length c]) :
  Calls Tryz.prog 5 #[.agg #[.int .i64 g.1, .string t, .slice A g.2.2.length c]] w fun e w' => e = .returned (.bool q) ∧ Below w.heap.size w w' := by
 obtain ⟨wa, hwa⟩ : ∃ wa, wa = w.alloc (.cells #[.int .i64 g.1, .string t, .slice A g.2.2.length c] 26) := ⟨_, rfl⟩
 obtain ⟨c0, c1, c2⟩ := gen_cells9 hwa
 have hba : Below w.heap.size w wa := by rw [hwa]; exact (Below.refl _ _).alloc (Nat.le_refl _) _
 have hb2 : Below wa.heap.size wa (wa.alloc (.cells #[.int .i64 g.1, .string t, .slice A g.2.2.length c] 26)) := (Below.refl _ _).alloc (Nat.le_refl _) _
 have SN := hide (show Calls Tryz.prog 23 #[.slice (some ⟨wa.heap.size, 0, none⟩) 1 1] (wa.alloc (.cells #[.int .i64 g.1, .string t, .slice A g.2.2.length c] 26)) _ from ShortNames_any [g] (some ⟨wa.heap.size, 0, none⟩) 1 q hq _ (one_gen9 ht ((Sl.ok RRdn.ok).below h hba) (fun k hk => hk)))
 have HB2 := hide (hba.trans (hb2.mono hba.size))
 have HWA := hide hwa
 clear hq ht h hwa hba hb2
 go_enter Tryz.func5, Tryz.ntmps5
 go_upto_region 1 with (fail)
 rw [← HWA.out]
 go_wp2_with fail
 refine SN.out.mono ?_
 rintro e w2 ⟨rfl, hb2⟩
 go_wp2_with fail
 go_ret
 exact ⟨rfl, HB2.out.trans (hb2.mono HB2.out.size)⟩
theorem field_text (k : Int) (t : ByteArray) (A : Option Addr) (n c : Nat) (W : World) : (Instr.field 26 (.agg #[.int .i64 k, .string t, .slice A n c]) 1).run Tryz.prog W = .ok (.string t) W := by kernel_rfl
theorem GB.store0 {g : Nat} {k : Int} {t : ByteArray} {v : Value} {W : World} (h : GB g k t v W) (a : Int) : GB g a t v (W.setCell ⟨g, 0, none⟩ (.int .i64 a)) := by
 unfold GB at *
 simp [World.setCell, Array.getElem?_modify, h]
theorem GB.store1 {g : Nat} {k : Int} {t : ByteArray} {v : Value} {W : World} (h : GB g k t v W) (a : ByteArray) : GB g k a v (W.setCell ⟨g, 1, none⟩ (.string a)) := by
 unfold GB at *
 simp [World.setCell, Array.getElem?_modify, h]
def SomeSt (d g2 g3 : Nat) (w : World) (k : Int) (t : ByteArray) (n : Name) (A : Option Addr) (c : Nat) (W : World) : Prop :=
 GB g2 0 ⟨#[]⟩ (.slice none 0 0) W ∧ GB g3 k t (.slice A n.length c) W ∧ Sl RRdn 1 W (fun j => g2 < j ∧ j < W.heap.size ∧ j ≠ g3) n [.slice A n.length c] ∧ DeckAt W d ∧ Ex d w W ∧ SmallG (k, t.data.toList, n)
section
variable {d g2 g3 : Nat} {w W W' : World} {k : Int} {t : ByteArray} {n : Name} {A : Option Addr} {c : Nat}
theorem SomeSt.ex (h : SomeSt d g2 g3 w k t n A c W) (hx : Ex d W W') (hdk : DeckAt W' d) (h2 : d < g2) (h3 : d < g3) : SomeSt d g2 g3 w k t n A c W' := by
 obtain ⟨h1, h2', h3', -, h5, h6⟩ := h
 have hz := hx.size
 exact ⟨h1.ex hx (by omega), h2'.ex hx (by omega), (Sl.ok RRdn.ok).mono h3' (fun j hj => hx.at_ hj.2.1 (by have := hj.1; omega)) (fun j hj => ⟨hj.1, by have := hj.2.1; omega, hj.2.2⟩), hdk, h5.trans hx, h6⟩
theorem SomeSt.set3 {k' : Int} {t' : ByteArray} {n' : Name} {A' : Option Addr} {c' : Nat} (h : SomeSt d g2 g3 w k t n A c W) (hg : SmallG (k', t'.data.toList, n')) (hsl : Sl RRdn 1 W (fun j => g2 < j ∧ j < W.heap.size ∧ j ≠ g3) n' [.slice A' n'.length c']) (h23 : g2 < g3) (hd : d < g3) (hw : w.heap.size ≤ g3) :
  SomeSt d g2 g3 w k' t' n' A' c' (((W.setCell ⟨g3, 0, none⟩ (.int .i64 k')).setCell ⟨g3, 1, none⟩ (.string t')).setCell ⟨g3, 2, none⟩ (.slice A' n'.length c')) := by
 obtain ⟨h1, h2, h3, h4, h5, h6⟩ := h
 have hz : (((W.setCell ⟨g3, 0, none⟩ (.int .i64 k')).setCell ⟨g3, 1, none⟩ (.string t')).setCell ⟨g3, 2, none⟩ (.slice A' n'.length c')).heap.size = W.heap.size := by simp
 refine ⟨((h1.other (by omega)).other (by omega)).other (by omega), h2.store k' t' (.slice A' n'.length c'), (Sl.ok RRdn.ok).mono hsl (fun j hj => ?_) (fun j hj => ⟨hj.1, by rw [hz]; exact hj.2.1, hj.2.2⟩), ((h4.set_ hd _).set_ hd _).set_ hd _, ((h5.setNew hw _).setNew hw _).setNew hw _, hg⟩
 exact (Below.heap_setCell _ ⟨g3, 2, none⟩ _ j hj.2.2).trans ((Below.heap_setCell _ ⟨g3, 1, none⟩ _ j hj.2.2).trans (Below.heap_setCell _ ⟨g3, 0, none⟩ _ j hj.2.2))
theorem SomeSt.set1 {t' : ByteArray} (h : SomeSt d g2 g3 w k t n A c W) (ht : t'.data.toList.length ≤ 100000) (h23 : g2 < g3) (hd : d < g3) (hw : w.heap.size ≤ g3) : SomeSt d g2 g3 w k t' n A c (W.setCell ⟨g3, 1, none⟩ (.string t')) := by
 obtain ⟨h1, h2, h3, h4, h5, h6⟩ := h
 exact ⟨h1.other (by omega), h2.store1 t', (Sl.ok RRdn.ok).mono h3 (fun j hj => Below.heap_setCell _ ⟨g3, 1, none⟩ _ j hj.2.2) (fun j hj => ⟨hj.1, by have := hj.2.1; simpa using this, hj.2.2⟩), h4.set_ hd _, h5.setNew hw _, ⟨ht, h6.2⟩⟩
theorem SomeSt.set2 {n' : Name} {A' : Option Addr} {c' : Nat} (h : SomeSt d g2 g3 w k t n A c W) (hn : SmallN n') (hsl : Sl RRdn 1 W (fun j => g2 < j ∧ j < W.heap.size ∧ j ≠ g3) n' [.slice A' n'.length c']) (h23 : g2 < g3) (hd : d < g3) (hw : w.heap.size ≤ g3) :
  SomeSt d g2 g3 w k t n' A' c' (W.setCell ⟨g3, 2, none⟩ (.slice A' n'.length c')) := by
 obtain ⟨h1, h2, h3, h4, h5, h6⟩ := h
 exact ⟨h1.other (by omega), h2.store2 _, (Sl.ok RRdn.ok).mono hsl (fun j hj => Below.heap_setCell _ ⟨g3, 2, none⟩ _ j hj.2.2) (fun j hj => ⟨hj.1, by have := hj.2.1; simpa using this, hj.2.2⟩), h4.set_ hd _, h5.setNew hw _, ⟨h6.1, hn⟩⟩
theorem SomeSt.set0 {k' : Int} (h : SomeSt d g2 g3 w k t n A c W) (h23 : g2 < g3) (hd : d < g3) (hw : w.heap.size ≤ g3) : SomeSt d g2 g3 w k' t n A c (W.setCell ⟨g3, 0, none⟩ (.int .i64 k')) := by
 obtain ⟨h1, h2, h3, h4, h5, h6⟩ := h
 exact ⟨h1.other (by omega), h2.store0 k', (Sl.ok RRdn.ok).mono h3 (fun j hj => Below.heap_setCell _ ⟨g3, 0, none⟩ _ j hj.2.2) (fun j hj => ⟨hj.1, by have := hj.2.1; simpa using this, hj.2.2⟩), h4.set_ hd _, h5.setNew hw _, h6⟩
theorem SomeSt.fin (h : SomeSt d g2 g3 w k t n A c W) (hd : d < g2) (hw : w.heap.size ≤ g2) :
  GB g2 k t (.slice A n.length c) (((W.setCell ⟨g2, 0, none⟩ (.int .i64 k)).setCell ⟨g2, 1, none⟩ (.string t)).setCell ⟨g2, 2, none⟩ (.slice A n.length c)) ∧
  ∀ e, e = .returned (.agg #[.int .i64 k, .string t, .slice A n.length c]) → GenPost SmallG d w e (((W.setCell ⟨g2, 0, none⟩ (.int .i64 k)).setCell ⟨g2, 1, none⟩ (.string t)).setCell ⟨g2, 2, none⟩ (.slice A n.length c)) := by
 obtain ⟨h1, h2, h3, h4, h5, h6⟩ := h
 have hz : (((W.setCell ⟨g2, 0, none⟩ (.int .i64 k)).setCell ⟨g2, 1, none⟩ (.string t)).setCell ⟨g2, 2, none⟩ (.slice A n.length c)).heap.size = W.heap.size := by simp
 refine ⟨h1.store k t _, fun e he => ⟨(k, t.data.toList, n), t, A, c, h6, rfl, he, (Sl.ok RRdn.ok).mono h3 (fun j hj => ?_) (fun j hj => ⟨by have := hj.1; omega, by rw [hz]; exact hj.2.1⟩), ((h4.set_ hd _).set_ hd _).set_ hd _, ((h5.setNew hw _).setNew hw _).setNew hw _⟩⟩
 have hne : j ≠ g2 := by have := hj.1; omega
 exact (Below.heap_setCell _ ⟨g2, 2, none⟩ _ j hne).trans ((Below.heap_setCell _ ⟨g2, 1, none⟩ _ j hne).trans (Below.heap_setCell _ ⟨g2, 0, none⟩ _ j hne))
end
set_option maxRecDepth 100000 in
set_option maxHeartbeats 8000000 in
theorem some_any (d : Nat) (w : World) (h : DeckAt w d) : Calls Tryz.prog 8 #[.pointer (some ⟨d, 0, none⟩)] w (GenPost SmallG d w) := by
 have hd := h.lt
 obtain ⟨wa, hwa⟩ : ∃ wa, wa = w.alloc (.cells #[.int .i64 0, .string ⟨#[]⟩, .slice none 0 0] 26) := ⟨_, rfl⟩
 obtain ⟨g2, hg2⟩ : ∃ g, g = w.heap.size := ⟨_, rfl⟩
 have hgb2 : GB g2 0 ⟨#[]⟩ (.slice none 0 0) wa := by rw [hwa, hg2]; exact heap_alloc_new w _
 have hdka : DeckAt wa d := by rw [hwa]; exact h.alloc _
 have hexa : Ex d w wa := by rw [hwa]; exact (Ex.refl d w).alloc _
 have hza : wa.heap.size = w.heap.size + 1 := by rw [hwa]; simp
 have hd2 : d < g2 := by omega
 have hw2 : w.heap.size ≤ g2 := by omega
 have hg2a : g2 < wa.heap.size := by omega
 have HGB2 := hide hgb2
 have HDKA := hide hdka
 have HEXA := hide hexa
 have HWA := hide hwa
 have HG2 := hide hg2
 clear h hwa hgb2 hdka hexa hg2
 go_enter Tryz.func8, Tryz.ntmps8
 go_upto_region 1 with (fail)
 rw [← HWA.out, ← HG2.out]
 go_wp2_with fail
 refine (General_any d wa HDKA.out).mono ?_
 rintro e w1 ⟨gn, t, A, c, hg, ht, rfl, hsl, hdk, hex⟩
 have hz1 := hex.size
 obtain ⟨g3, hg3⟩ : ∃ g, g = w1.heap.size := ⟨_, rfl⟩
 obtain ⟨w2, hw2'⟩ : ∃ w2, w2 = w1.alloc (.cells #[.int .i64 gn.1, .string t, .slice A gn.2.2.length c] 26) := ⟨_, rfl⟩
 have h23 : g2 < g3 := by omega
 have hd3 : d < g3 := by omega
 have hw3 : w.heap.size ≤ g3 := by omega
 have H2 := hide (show SomeSt d g2 g3 w gn.1 t gn.2.2 A c w2 from ⟨by rw [hw2']; exact (HGB2.out.ex hex (by omega)).alloc _, by rw [hw2', hg3]; exact heap_alloc_new w1 _, (Sl.ok RRdn.ok).mono hsl (fun j hj => by rw [hw2']; exact Below.heap_alloc _ _ j hj.2) (fun j hj => ⟨by have := hj.1; omega, by rw [hw2']; have := hj.2; simp; omega, by have := hj.2; omega⟩), by rw [hw2']; exact hdk.alloc _, by rw [hw2']; exact (HEXA.out.trans hex).alloc _, by
  have := hg.small
  exact ⟨by rw [ht]; exact this.1, this.2⟩⟩)
 have HW2 := hide hw2'
 have HG3 := hide hg3
 clear hg ht hsl hdk hex hz1 hw2' hg3 hza
 go_upto_region 2 with (fail)
 rw [← HW2.out, ← HG3.out]
 go_wp2_with fail
 refine (Next_any d 2 (by omega) (by omega) w2 H2.out.2.2.2.1).mono ?_
 rintro e w3 ⟨v, hv, rfl, hdk3, hex3⟩
 have H3 := hide (H2.out.ex hex3 hdk3 hd2 hd3)
 clear hdk3 hex3
 by_cases v1 : v = 1
 ·subst v1
  clear hv
  go_wp2_with fail
  refine (Base_any d w3 H3.out.2.2.2.1).mono ?_
  rintro e w4 ⟨gb, tb, Ab, cb, hgb, htb, rfl, hslb, hdk4, hex4⟩
  have H4 := hide (H3.out.ex hex4 hdk4 hd2 hd3)
  have h3s := H3.out.2.1.lt
  have HSL := hide (show Sl RRdn 1 w4 (fun j => g2 < j ∧ j < w4.heap.size ∧ j ≠ g3) gb.2.2 [.slice Ab gb.2.2.length cb] from (Sl.ok RRdn.ok).mono hslb (fun _ _ => rfl) (fun j hj => ⟨by have := hj.1; omega, hj.2, by have := hj.1; omega⟩))
  have HSG := hide (show SmallG (gb.1, tb.data.toList, gb.2.2) from ⟨by rw [htb]; exact hgb.small.1, hgb.small.2⟩)
  clear hgb htb hslb hdk4 hex4 h3s
  obtain ⟨s0, s1, s2, sf0, sf1, sf2⟩ := H4.out.2.1.facts
  have H5 := hide (H4.out.set3 HSG.out HSL.out h23 hd3 hw3)
  obtain ⟨w5, hw5⟩ : ∃ w5, w5 = ((w4.setCell ⟨g3, 0, none⟩ (.int .i64 gb.1)).setCell ⟨g3, 1, none⟩ (.string tb)).setCell ⟨g3, 2, none⟩ (.slice Ab gb.2.2.length cb) := ⟨_, rfl⟩
  rw [← hw5] at H5
  have HW5 := hide hw5
  clear hw5
  go_upto_region 4 with (fail)
  rw [← HW5.out]
  clear s0 s1 s2 sf0 sf1 sf2
  go_wp2_with fail
  refine (Next_any d 12 (by omega) (by omega) w5 H5.out.2.2.2.1).mono ?_
  rintro e w4 ⟨v, hv, rfl, hdk4, hex4⟩
  have H4 := hide (H5.out.ex hex4 hdk4 hd2 hd3)
  clear hdk4 hex4
  by_cases v0 : v = 0
  ·subst v0
   clear hv
   obtain ⟨s0, s1, s2, sf0, sf1, sf2⟩ := H4.out.2.1.facts
   go_wp2_with fail
   refine (General_any d w4 H4.out.2.2.2.1).mono ?_
   rintro e w5 ⟨gg, tt, AA, cc, hgg, htt, rfl, hsll, hdk5, hex5⟩
   have hfl := field_text gg.1 tt AA gg.2.2.length cc
   have H5 := hide (H4.out.ex hex5 hdk5 hd2 hd3)
   have HTT := hide (show tt.data.toList.length ≤ 100000 by rw [htt]; exact hgg.small.1)
   clear hgg htt hsll hdk5 hex5 s0 s1 s2 sf0 sf1 sf2
   obtain ⟨s0, s1, s2, sf0, sf1, sf2⟩ := H5.out.2.1.facts
   have H6 := hide (H5.out.set1 (t' := tt) HTT.out h23 hd3 hw3)
   obtain ⟨w6, hw6⟩ : ∃ w6, w6 = w5.setCell ⟨g3, 1, none⟩ (.string tt) := ⟨_, rfl⟩
   rw [← hw6] at H6
   have HW6 := hide hw6
   clear hw6
   go_upto_region 11 with (fail)
   rw [← HW6.out]
   clear s0 s1 s2 sf0 sf1 sf2
   obtain ⟨s0, s1, s2, -, -, -⟩ := H6.out.2.1.facts
   obtain ⟨r0, r1, r2, rf0, rf1, rf2⟩ := H6.out.1.facts
   obtain ⟨hst, hpost⟩ := H6.out.fin hd2 hw2
   go_wp2_with fail
   obtain ⟨q0, q1, q2, -, -, -⟩ := hst.facts
   exact bodyPost_ret (v := .agg #[.int .i64 gb.1, .string tt, .slice Ab gb.2.2.length cb]) (by simp [results, Tryz.results8, go_sem, q0, q1, q2]) rfl (hpost _ rfl)
  ·by_cases v1 : v = 1
   ·subst v1
    clear hv v0
    go_wp2_with fail
    refine (Name_any d w4 H4.out.2.2.2.1).mono ?_
    rintro e w5 ⟨nn, vn, hgn, rfl, hsll, hdk5, hex5⟩
    obtain ⟨AA, cc, hvn⟩ := hsll.shape
    subst hvn
    have H5 := hide (H4.out.ex hex5 hdk5 hd2 hd3)
    have h4s := H4.out.2.1.lt
    have HSL := hide (show Sl RRdn 1 w5 (fun j => g2 < j ∧ j < w5.heap.size ∧ j ≠ g3) nn [.slice AA nn.length cc] from (Sl.ok RRdn.ok).mono hsll (fun _ _ => rfl) (fun j hj => ⟨by have := hj.1; omega, hj.2, by have := hj.1; omega⟩))
    have HNN := hide (show SmallN nn from hgn.bnd.small (by omega))
    clear hgn hsll hdk5 hex5 h4s
    obtain ⟨s0, s1, s2, sf0, sf1, sf2⟩ := H5.out.2.1.facts
    have H6 := hide (H5.out.set2 HNN.out HSL.out h23 hd3 hw3)
    obtain ⟨w6, hw6⟩ : ∃ w6, w6 = w5.setCell ⟨g3, 2, none⟩ (.slice AA nn.length cc) := ⟨_, rfl⟩
    rw [← hw6] at H6
    have HW6 := hide hw6
    clear hw6
    go_upto_region 11 with (fail)
    rw [← HW6.out]
    clear s0 s1 s2 sf0 sf1 sf2
    obtain ⟨s0, s1, s2, -, -, -⟩ := H6.out.2.1.facts
    obtain ⟨r0, r1, r2, rf0, rf1, rf2⟩ := H6.out.1.facts
    obtain ⟨hst, hpost⟩ := H6.out.fin hd2 hw2
    go_wp2_with fail
    obtain ⟨q0, q1, q2, -, -, -⟩ := hst.facts
    exact bodyPost_ret (v := .agg #[.int .i64 gb.1, .string tb, .slice AA nn.length cc]) (by simp [results, Tryz.results8, go_sem, q0, q1, q2]) rfl (hpost _ rfl)
   ·by_cases v2 : v = 2
    ·subst v2
     clear hv v0 v1
     go_wp2_with fail
     refine (Next_any d 10 (by omega) (by omega) w4 H4.out.2.2.2.1).mono ?_
     rintro e w5 ⟨vv, hvv, rfl, hdk5, hex5⟩
     have H5 := hide (H4.out.ex hex5 hdk5 hd2 hd3)
     clear hdk5 hex5
     obtain ⟨s0, s1, s2, sf0, sf1, sf2⟩ := H5.out.2.1.facts
     have H6 := hide (H5.out.set0 (k' := (vv : Int)) h23 hd3 hw3)
     obtain ⟨w6, hw6⟩ : ∃ w6, w6 = w5.setCell ⟨g3, 0, none⟩ (.int .i64 (vv : Int)) := ⟨_, rfl⟩
     rw [← hw6] at H6
     have HW6 := hide hw6
     clear hw6
     go_upto_region 11 with (fail)
     rw [← HW6.out]
     clear s0 s1 s2 sf0 sf1 sf2
     obtain ⟨s0, s1, s2, -, -, -⟩ := H6.out.2.1.facts
     obtain ⟨r0, r1, r2, rf0, rf1, rf2⟩ := H6.out.1.facts
     obtain ⟨hst, hpost⟩ := H6.out.fin hd2 hw2
     go_wp2_with fail
     obtain ⟨q0, q1, q2, -, -, -⟩ := hst.facts
     exact bodyPost_ret (v := .agg #[.int .i64 (vv : Int), .string tb, .slice Ab gb.2.2.length cb]) (by simp [results, Tryz.results8, go_sem, q0, q1, q2]) rfl (hpost _ rfl)
    ·have t0 : ((v : Int) == 0) = false := beq_false_of_ne (by omega)
     have t1 : ((v : Int) == 1) = false := beq_false_of_ne (by omega)
     have t2 : ((v : Int) == 2) = false := beq_false_of_ne (by omega)
     clear v0 v1 v2 hv
     go_upto_region 11 with (fail)
     obtain ⟨s0, s1, s2, -, -, -⟩ := H4.out.2.1.facts
     obtain ⟨r0, r1, r2, rf0, rf1, rf2⟩ := H4.out.1.facts
     obtain ⟨hst, hpost⟩ := H4.out.fin hd2 hw2
     go_wp2_with fail
     obtain ⟨q0, q1, q2, -, -, -⟩ := hst.facts
     exact bodyPost_ret (v := .agg #[.int .i64 gb.1, .string tb, .slice Ab gb.2.2.length cb]) (by simp [results, Tryz.results8, go_sem, q0, q1, q2]) rfl (hpost _ rfl)
 ·have t0 : ((v : Int) == 1) = false := beq_false_of_ne (by omega)
  clear v1 hv
  go_upto_region 4 with (fail)
  clear t0
  go_wp2_with fail
  refine (Next_any d 12 (by omega) (by omega) w3 H3.out.2.2.2.1).mono ?_
  rintro e w4 ⟨v, hv, rfl, hdk4, hex4⟩
  have H4 := hide (H3.out.ex hex4 hdk4 hd2 hd3)
  clear hdk4 hex4
  by_cases v0 : v = 0
  ·subst v0
   clear hv
   obtain ⟨s0, s1, s2, sf0, sf1, sf2⟩ := H4.out.2.1.facts
   go_wp2_with fail
   refine (General_any d w4 H4.out.2.2.2.1).mono ?_
   rintro e w5 ⟨gg, tt, AA, cc, hgg, htt, rfl, hsll, hdk5, hex5⟩
   have hfl := field_text gg.1 tt AA gg.2.2.length cc
   have H5 := hide (H4.out.ex hex5 hdk5 hd2 hd3)
   have HTT := hide (show tt.data.toList.length ≤ 100000 by rw [htt]; exact hgg.small.1)
   clear hgg htt hsll hdk5 hex5 s0 s1 s2 sf0 sf1 sf2
   obtain ⟨s0, s1, s2, sf0, sf1, sf2⟩ := H5.out.2.1.facts
   have H6 := hide (H5.out.set1 (t' := tt) HTT.out h23 hd3 hw3)
   obtain ⟨w6, hw6⟩ : ∃ w6, w6 = w5.setCell ⟨g3, 1, none⟩ (.string tt) := ⟨_, rfl⟩
   rw [← hw6] at H6
   have HW6 := hide hw6
   clear hw6
   go_upto_region 11 with (fail)
   rw [← HW6.out]
   clear s0 s1 s2 sf0 sf1 sf2
   obtain ⟨s0, s1, s2, -, -, -⟩ := H6.out.2.1.facts
   obtain ⟨r0, r1, r2, rf0, rf1, rf2⟩ := H6.out.1.facts
   obtain ⟨hst, hpost⟩ := H6.out.fin hd2 hw2
   go_wp2_with fail
   obtain ⟨q0, q1, q2, -, -, -⟩ := hst.facts
   exact bodyPost_ret (v := .agg #[.int .i64 gn.1, .string tt, .slice A gn.2.2.length c]) (by simp [results, Tryz.results8, go_sem, q0, q1, q2]) rfl (hpost _ rfl)
  ·by_cases v1 : v = 1
   ·subst v1
    clear hv v0
    go_wp2_with fail
    refine (Name_any d w4 H4.out.2.2.2.1).mono ?_
    rintro e w5 ⟨nn, vn, hgn, rfl, hsll, hdk5, hex5⟩
    obtain ⟨AA, cc, hvn⟩ := hsll.shape
    subst hvn
    have H5 := hide (H4.out.ex hex5 hdk5 hd2 hd3)
    have h4s := H4.out.2.1.lt
    have HSL := hide (show Sl RRdn 1 w5 (fun j => g2 < j ∧ j < w5.heap.size ∧ j ≠ g3) nn [.slice AA nn.length cc] from (Sl.ok RRdn.ok).mono hsll (fun _ _ => rfl) (fun j hj => ⟨by have := hj.1; omega, hj.2, by have := hj.1; omega⟩))
    have HNN := hide (show SmallN nn from hgn.bnd.small (by omega))
    clear hgn hsll hdk5 hex5 h4s
    obtain ⟨s0, s1, s2, sf0, sf1, sf2⟩ := H5.out.2.1.facts
    have H6 := hide (H5.out.set2 HNN.out HSL.out h23 hd3 hw3)
    obtain ⟨w6, hw6⟩ : ∃ w6, w6 = w5.setCell ⟨g3, 2, none⟩ (.slice AA nn.length cc) := ⟨_, rfl⟩
    rw [← hw6] at H6
    have HW6 := hide hw6
    clear hw6
    go_upto_region 11 with (fail)
    rw [← HW6.out]
    clear s0 s1 s2 sf0 sf1 sf2
    obtain ⟨s0, s1, s2, -, -, -⟩ := H6.out.2.1.facts
    obtain ⟨r0, r1, r2, rf0, rf1, rf2⟩ := H6.out.1.facts
    obtain ⟨hst, hpost⟩ := H6.out.fin hd2 hw2
    go_wp2_with fail
    obtain ⟨q0, q1, q2, -, -, -⟩ := hst.facts
    exact bodyPost_ret (v := .agg #[.int .i64 gn.1, .string t, .slice AA nn.length cc]) (by simp [results, Tryz.results8, go_sem, q0, q1, q2]) rfl (hpost _ rfl)
   ·by_cases v2 : v = 2
    ·subst v2
     clear hv v0 v1
     go_wp2_with fail
     refine (Next_any d 10 (by omega) (by omega) w4 H4.out.2.2.2.1).mono ?_
     rintro e w5 ⟨vv, hvv, rfl, hdk5, hex5⟩
     have H5 := hide (H4.out.ex hex5 hdk5 hd2 hd3)
     clear hdk5 hex5
     obtain ⟨s0, s1, s2, sf0, sf1, sf2⟩ := H5.out.2.1.facts
     have H6 := hide (H5.out.set0 (k' := (vv : Int)) h23 hd3 hw3)
     obtain ⟨w6, hw6⟩ : ∃ w6, w6 = w5.setCell ⟨g3, 0, none⟩ (.int .i64 (vv : Int)) := ⟨_, rfl⟩
     rw [← hw6] at H6
     have HW6 := hide hw6
     clear hw6
     go_upto_region 11 with (fail)
     rw [← HW6.out]
     clear s0 s1 s2 sf0 sf1 sf2
     obtain ⟨s0, s1, s2, -, -, -⟩ := H6.out.2.1.facts
     obtain ⟨r0, r1, r2, rf0, rf1, rf2⟩ := H6.out.1.facts
     obtain ⟨hst, hpost⟩ := H6.out.fin hd2 hw2
     go_wp2_with fail
     obtain ⟨q0, q1, q2, -, -, -⟩ := hst.facts
     exact bodyPost_ret (v := .agg #[.int .i64 (vv : Int), .string t, .slice A gn.2.2.length c]) (by simp [results, Tryz.results8, go_sem, q0, q1, q2]) rfl (hpost _ rfl)
    ·have t0 : ((v : Int) == 0) = false := beq_false_of_ne (by omega)
     have t1 : ((v : Int) == 1) = false := beq_false_of_ne (by omega)
     have t2 : ((v : Int) == 2) = false := beq_false_of_ne (by omega)
     clear v0 v1 v2 hv
     go_upto_region 11 with (fail)
     obtain ⟨s0, s1, s2, -, -, -⟩ := H4.out.2.1.facts
     obtain ⟨r0, r1, r2, rf0, rf1, rf2⟩ := H4.out.1.facts
     obtain ⟨hst, hpost⟩ := H4.out.fin hd2 hw2
     go_wp2_with fail
     obtain ⟨q0, q1, q2, -, -, -⟩ := hst.facts
     exact bodyPost_ret (v := .agg #[.int .i64 gn.1, .string t, .slice A gn.2.2.length c]) (by simp [results, Tryz.results8, go_sem, q0, q1, q2]) rfl (hpost _ rfl)
end Go.Proofs.YtmgnihmjjijdoaaGreatDoor
