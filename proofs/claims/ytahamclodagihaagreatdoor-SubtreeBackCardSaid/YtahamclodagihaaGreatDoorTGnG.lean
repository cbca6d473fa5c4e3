/- The functions of package subtree: clone. -/
import Derived.Test.YtahamclodagihaaGreatDoorTGGnC
import Derived.Deep.RegionHeld3
namespace Go.Proofs.YtahamclodagihaaGreatDoor
open Go.RowKit
def SB (g : Nat) (u v : Value) (W : World) : Prop := W.heap[g]? = some (.cells #[u, v] 52 (0, 0))
theorem SB.facts {g : Nat} {u v : Value} {W : World} (h : SB g u v W) : W.cell? ⟨g, 0, none⟩ = some u ∧ W.cell? ⟨g, 1, none⟩ = some v ∧ W.frozen? ⟨g, 0, none⟩ = false ∧ W.frozen? ⟨g, 1, none⟩ = false := by
 unfold SB at h
 simp [World.cell?, World.frozen?, h]
theorem SB.lt {g : Nat} {u v : Value} {W : World} (h : SB g u v W) : g < W.heap.size := (Array.getElem?_eq_some_iff.1 h).1
theorem SB.below {g : Nat} {u v : Value} {W W' : World} (h : SB g u v W) (hb : Below W.heap.size W W') : SB g u v W' := (hb.block g h.lt).trans h
theorem SB.store {g : Nat} {u v : Value} {W : World} (h : SB g u v W) (a b : Value) : SB g a b ((W.setCell ⟨g, 0, none⟩ a).setCell ⟨g, 1, none⟩ b) := by
 unfold SB at *
 simp [World.setCell, Array.getElem?_modify, h]
def EachPost (l : List Gen) (w0 W : World) (e : Ending) (w' : World) : Prop :=
 ∃ (B' : Option Addr) (d' : Nat), e = .returned (.slice B' l.length d') ∧ Sl RGen 3 w' (Btw W.heap.size w'.heap.size) l [.slice B' l.length d'] ∧ Below W.heap.size W w' ∧ Below w0.heap.size w0 w'
theorem stSub {w W : World} {g gg : Nat} {u v a b : Value} (h1 : W.cell? ⟨g, 0, none⟩ = some u) (h2 : W.cell? ⟨g, 1, none⟩ = some v) (h3 : Below w.heap.size w W) (hg : g ≠ gg) (hw : w.heap.size ≤ gg) :
  ((W.setCell ⟨gg, 0, none⟩ a).setCell ⟨gg, 1, none⟩ b).cell? ⟨g, 0, none⟩ = some u ∧ ((W.setCell ⟨gg, 0, none⟩ a).setCell ⟨gg, 1, none⟩ b).cell? ⟨g, 1, none⟩ = some v ∧ Below w.heap.size w ((W.setCell ⟨gg, 0, none⟩ a).setCell ⟨gg, 1, none⟩ b) := by
 have key : ∀ j, ((W.setCell ⟨gg, 0, none⟩ a).setCell ⟨gg, 1, none⟩ b).cell? ⟨g, j, none⟩ = W.cell? ⟨g, j, none⟩ := fun j =>
  (World.cell?_of_block (a := ⟨g, j, none⟩) (Below.heap_setCell _ ⟨gg, 1, none⟩ b g hg)).trans (World.cell?_of_block (a := ⟨g, j, none⟩) (Below.heap_setCell _ ⟨gg, 0, none⟩ a g hg))
 exact ⟨(key 0).trans h1, (key 1).trans h2, (h3.setCell (p := ⟨gg, 0, none⟩) hw a).setCell (p := ⟨gg, 1, none⟩) hw b⟩
theorem sl_st2 {α : Type} {R : Rep α} {size : Nat} (hR : RepOk R size) {W : World} {g B B0 : Nat} {l : List α} {v a b : Value} (h : Sl R size W (Btw B0 W.heap.size) l [v]) (hg : g < B0) (hB : B ≤ B0) :
  Sl R size ((W.setCell ⟨g, 0, none⟩ a).setCell ⟨g, 1, none⟩ b) (Btw B ((W.setCell ⟨g, 0, none⟩ a).setCell ⟨g, 1, none⟩ b).heap.size) l [v] :=
 (Sl.ok hR).mono h (fun k hk => by
  have hne : k ≠ g := by have := hk.1; omega
  rw [Below.heap_setCell _ ⟨g, 1, none⟩ b k hne, Below.heap_setCell _ ⟨g, 0, none⟩ a k hne]) (fun k hk => ⟨by have := hk.1; omega, by have := hk.2; simp; omega⟩)
theorem sl_btw {α : Type} {R : Rep α} {size : Nat} (hR : RepOk R size) {W W' : World} {B : Nat} {l : List α} {v : Value} (h : Sl R size W (Btw B W.heap.size) l [v]) (hb : Below W.heap.size W W') : Sl R size W' (Btw B W'.heap.size) l [v] :=
 (Sl.ok hR).mono h (fun k hk => hb.block k hk.2) (fun _ hk => ⟨hk.1, Nat.lt_of_lt_of_le hk.2 hb.size⟩)
def CpL (l : List Gen) : Prop := l.length ≤ 1000 ∧ ∀ g ∈ l, CpN g.2.2
theorem each_held {l : List Gen} {B : Option Addr} {d : Nat} {w0 W : World} (hl : CpL l) (h2 : Sl RGen 3 w0 (Lt w0.heap.size) l [.slice B l.length d]) (hb : Below w0.heap.size w0 W) :
  Calls Tryz.prog 202 #[.slice B l.length d, .func (.func 203) #[] #[]] W (EachPost l w0 W) :=
 (eachGen_any l B d hl.1 hl.2 W ((Sl.ok RGen.ok).below h2 hb)).mono fun _ _ ⟨B', d', he, hs, hbb⟩ => ⟨B', d', he, hs, hbb, hb.trans (hbb.mono hb.size)⟩
set_option maxRecDepth 100000 in
set_option maxHeartbeats 8000000 in
theorem clone_any (p x : List Gen) (A B : Option Addr) (c d : Nat) (hp : CpL p) (hx : CpL x) (w : World) (h1 : Sl RGen 3 w (Lt w.heap.size) p [.slice A p.length c]) (h2 : Sl RGen 3 w (Lt w.heap.size) x [.slice B x.length d]) :
  Calls Tryz.prog 139 #[.agg #[.slice A p.length c, .slice B x.length d]] w fun e w' => ∃ (A' B' : Option Addr) (c' d' : Nat), e = .returned (.agg #[.slice A' p.length c', .slice B' x.length d']) ∧
   Sl RGen 3 w' (Btw w.heap.size w'.heap.size) p [.slice A' p.length c'] ∧ Sl RGen 3 w' (Btw w.heap.size w'.heap.size) x [.slice B' x.length d'] ∧ Below w.heap.size w w' := by
 obtain ⟨wa, hwa⟩ : ∃ wa, wa = (w.alloc (.cells #[.slice A p.length c, .slice B x.length d] 52)).alloc (.cells #[.slice none 0 0, .slice none 0 0] 52) := ⟨_, rfl⟩
 have hg1 : SB w.heap.size (.slice A p.length c) (.slice B x.length d) wa := by
  unfold SB
  rw [hwa, Below.heap_alloc _ _ _ (by simp)]
  exact heap_alloc_new w _
 have hg2 : SB (w.heap.size + 1) (.slice none 0 0) (.slice none 0 0) wa := by
  unfold SB
  rw [hwa, show w.heap.size + 1 = (w.alloc (.cells #[.slice A p.length c, .slice B x.length d] 52)).heap.size by simp]
  exact heap_alloc_new _ _
 have hba : Below w.heap.size w wa := by rw [hwa]; exact ((Below.refl _ _).alloc (Nat.le_refl _) _).alloc (by simp) _
 have hza : wa.heap.size = w.heap.size + 2 := by rw [hwa]; simp
 obtain ⟨gg, hgg⟩ : ∃ gg, gg = w.heap.size + 1 := ⟨_, rfl⟩
 rw [← hgg] at hg2
 obtain ⟨y0, y1, -, -⟩ := hg1.facts
 have y0d : wa.drew.cell? ⟨w.heap.size, 0, none⟩ = some (.slice A p.length c) := y0
 have y1d : wa.drew.cell? ⟨w.heap.size, 1, none⟩ = some (.slice B x.length d) := y1
 have hbad : Below w.heap.size w wa.drew := hba.drew
 have hne : w.heap.size ≠ gg := by omega
 have hle : w.heap.size ≤ gg := by omega
 have hba2 : Below wa.heap.size wa wa.drew := (Below.refl _ _).drew
 have HG2 := hide hg2
 have E1 := hide (fun W hb => each_held (W := W) hp ((Sl.ok RGen.ok).below h1 hba) hb)
 have E2 := hide (fun W hb => each_held (W := W) hx ((Sl.ok RGen.ok).below h2 hba) hb)
 have HWA := hide hwa
 have HZA := hide hza
 have HGG := hide hgg
 clear hwa hg1 hg2 hza hp hx h1 h2 hgg
 go_enter Tryz.func139, Tryz.ntmps139
 go_upto_region 1 with (fail)
 rw [← HWA.out, ← HGG.out]
 go_region_held3 (fun W => W.cell? ⟨w.heap.size, 0, none⟩ = some (.slice A p.length c) ∧ W.cell? ⟨w.heap.size, 1, none⟩ = some (.slice B x.length d) ∧ Below w.heap.size w W)
  (first | exact ⟨hs1, hs2, hs3⟩ | exact stSub hs1 hs2 hs3 hne hle | exact ⟨y0, y1, hba⟩ | exact ⟨y0d, y1d, hbad⟩)
  (first
   | (go_at_call_of 202 (Value.slice A p.length c); refine (E1.out wa.drew hba2).mono ?_; rintro e w5 ⟨A5, c5, rfl, hsl5, hb5, hbw5⟩; have hs1 := cell_grows hb5 _ _ y0d; have hs2 := cell_grows hb5 _ _ y1d; have hs3 := hbad.trans (hb5.mono hbad.size))
   | (go_at_call_of 202 (Value.slice B x.length d); refine (E2.out w5 hbw5).mono ?_; rintro e w6 ⟨A6, c6, rfl, hsl6, hb6, hbw6⟩; have hs1 := cell_grows hb6 _ _ hs1; have hs2 := cell_grows hb6 _ _ hs2; have hs3 := hs3.trans (hb6.mono hs3.size); have hgr := HG2.out.below hbw6; have q0 := hgr.facts.1; have q1 := hgr.facts.2.1; have q2 := hgr.facts.2.2.1; have q3 := hgr.facts.2.2.2)
   | fail)
 all_goals
  go_wp2_with fail
  have hst := hgr.store (.slice A5 p.length c5) (.slice A6 x.length c6)
  have hbz := (stSub (a := .slice A5 p.length c5) (b := .slice A6 x.length c6) hs1 hs2 hs3 hne hle).2.2
  have hz1 : wa.drew.heap.size = w.heap.size + 2 := HZA.out
  have hz2 := hb5.size
  have hp5 := sl_st2 RGen.ok (g := gg) (B := w.heap.size) (a := .slice A5 p.length c5) (b := .slice A6 x.length c6) (sl_btw RGen.ok hsl5 hb6) (by have := HGG.out; omega) (by omega)
  have hx6 := sl_st2 RGen.ok (g := gg) (B := w.heap.size) (a := .slice A5 p.length c5) (b := .slice A6 x.length c6) hsl6 (by have := HGG.out; omega) (by omega)
  obtain ⟨W3, hW3⟩ : ∃ W3, W3 = (w6.setCell ⟨gg, 0, none⟩ (.slice A5 p.length c5)).setCell ⟨gg, 1, none⟩ (.slice A6 x.length c6) := ⟨_, rfl⟩
  rw [← hW3] at hst hbz hp5 hx6 ⊢
  obtain ⟨q8, q9, -, -⟩ := hst.facts
  exact bodyPost_ret (v := .agg #[.slice A5 p.length c5, .slice A6 x.length c6]) (by simp [results, Tryz.results139, go_sem, q8, q9]) rfl ⟨A5, A6, c5, c6, rfl, hp5, hx6, hbz⟩
end Go.Proofs.YtahamclodagihaaGreatDoor
