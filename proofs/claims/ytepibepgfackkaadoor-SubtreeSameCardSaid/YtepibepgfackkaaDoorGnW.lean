/- The law SubtreeSame, its walk. -/
import Derived.Test.YtepibepgfackkaaDoorGnK
import Derived.Test.YtepibepgfackkaaDoorGnM
import Derived.Test.YtepibepgfackkaaDoorGnT
import Derived.Deep.RegionHeld3
namespace Go.Proofs.YtepibepgfackkaaDoor
open Go.RowKit

theorem eight_held {P : Program} {f : FuncId} {args : Array Value} {W wx : World} {q : Bool} {g4 g5 g9 : Nat} {u4 l5 p5 x5 k9 t9 v9 : Value} (hc : Calls P f args W fun e w' => e = .returned (.bool q) ∧ Below W.heap.size W w')
    (h1 : W.cell? ⟨g4, 0, none⟩ = some u4) (h2 : W.cell? ⟨g5, 0, none⟩ = some l5) (h3 : W.cell? ⟨g5, 1, none⟩ = some p5) (h4 : W.cell? ⟨g5, 2, none⟩ = some x5) (h5 : W.cell? ⟨g9, 0, none⟩ = some k9) (h6 : W.cell? ⟨g9, 1, none⟩ = some t9) (h7 : W.cell? ⟨g9, 2, none⟩ = some v9) (h8 : Below wx.heap.size wx W) :
    Calls P f args W fun e w' => e = .returned (.bool q) ∧ w'.cell? ⟨g4, 0, none⟩ = some u4 ∧ w'.cell? ⟨g5, 0, none⟩ = some l5 ∧ w'.cell? ⟨g5, 1, none⟩ = some p5 ∧ w'.cell? ⟨g5, 2, none⟩ = some x5 ∧ w'.cell? ⟨g9, 0, none⟩ = some k9 ∧ w'.cell? ⟨g9, 1, none⟩ = some t9 ∧ w'.cell? ⟨g9, 2, none⟩ = some v9 ∧ Below wx.heap.size wx w' :=
  hc.mono fun _ _ ⟨he, hb⟩ => ⟨he, cell_grows hb _ _ h1, cell_grows hb _ _ h2, cell_grows hb _ _ h3, cell_grows hb _ _ h4, cell_grows hb _ _ h5, cell_grows hb _ _ h6, cell_grows hb _ _ h7, h8.trans (hb.mono h8.size)⟩
theorem permits_n2 (g : Gen) (t : ByteArray) (A : Option Addr) (c : Nat) (st : List Sub) (B : Option Addr) (d : Nat) (ht : t.data.toList = g.2.1) (hg : SmallG g) (hl : SmallS st) (q : Bool) (hq : permitsG st g = q) (w : World) (hmx : Mx w)
    (h1 : Sl RRdn 1 w (Lt w.heap.size) g.2.2 [.slice A g.2.2.length c]) (h2 : Sl RSub 2 w (Lt w.heap.size) st [.slice B st.length d]) :
    Calls Tryd.prog 29 #[.agg #[.slice B st.length d], .agg #[.int .i64 g.1, .string t, .slice A g.2.2.length c]] w fun e w' => e = .returned (.bool q) ∧ Below w.heap.size w w' := permits_any g t A c st B d ht hg hl q hq w hmx h1 h2
theorem gen_cells {w W : World} {t : ByteArray} {k : Int} {v : Value} {T : TypeId} (h : W = w.alloc (.cells #[.int .i64 k, .string t, v] T)) :
    W.cell? ⟨w.heap.size, 0, none⟩ = some (.int .i64 k) ∧ W.cell? ⟨w.heap.size, 1, none⟩ = some (.string t) ∧ W.cell? ⟨w.heap.size, 2, none⟩ = some v := by
  subst h
  refine ⟨?_, ?_, ?_⟩ <;> (rw [World.cell?_alloc_new]; rfl)
theorem sl_alloc2 {α : Type} {R : Rep α} {size : Nat} (hR : RepOk R size) {w : World} {B : Nat} {l : List α} {v : Value} (h : Sl R size w (Btw B w.heap.size) l [v]) (o : Obj) : Sl R size (w.alloc o) (Btw B (w.alloc o).heap.size) l [v] :=
  (Sl.ok hR).mono h (fun j hj => Below.heap_alloc _ _ j hj.2) (fun j hj => ⟨hj.1, by have := hj.2; simp; omega⟩)

set_option maxRecDepth 100000 in
set_option maxHeartbeats 16000000 in
theorem SubtreeSame_any (l : List Int) (A0 : Option Addr) (n0 c0 : Nat) (w : World) (hmx : Mx w) (h : Sl RInt 1 w (Lt w.heap.size) l [.slice A0 n0 c0]) :
    Calls Tryd.prog 8 #[.slice A0 n0 c0] w fun e w' => e = .returned (.bool true) ∧ Below w.heap.size w w' := by
  have HMX := hide hmx
  have K := hide h
  clear hmx h
  go_enter Tryd.func8, Tryd.ntmps8
  go_wp2_with fail
  refine (New_any l A0 n0 c0 _ K.out).mono ?_
  rintro e w1 ⟨rfl, hdk1, hb1⟩
  obtain ⟨d, hd⟩ : ∃ d, d = w.heap.size := ⟨_, rfl⟩
  rw [← hd] at hdk1 ⊢
  have HB1 := hide hb1
  have HDK1 := hide hdk1
  have HD := hide hd
  clear hb1 hdk1 hd
  go_wp2_with fail
  refine (state_any d _ HDK1.out).mono ?_
  rintro e w2 ⟨st, A, c, hgst, rfl, hsl2, hdk2, hex2⟩
  have hst4 : st.length ≤ 4 := hgst.1
  have hdw1 := HDK1.out.lt
  have hz2 := hex2.size
  obtain ⟨g4, hg4⟩ : ∃ g4, g4 = w2.heap.size := ⟨_, rfl⟩
  obtain ⟨w3, hw3⟩ : ∃ w3, w3 = w2.alloc (.cells #[.slice A st.length c] 53) := ⟨_, rfl⟩
  have hz3 : w3.heap.size = w2.heap.size + 1 := by rw [hw3]; simp
  have ht4 : TB g4 (.slice A st.length c) w3 := by
    unfold TB
    rw [hw3, hg4]
    exact heap_alloc_new w2 _
  have hs4 : Sl RSub 2 w3 (fun j => j < g4 ∧ j ≠ d) st [.slice A st.length c] := (Sl.ok RSub.ok).mono hsl2 (fun j hj => by rw [hw3, Below.heap_alloc _ _ _ hj.2]) (fun j hj => ⟨by have := hj.2; omega, by have := hj.1; omega⟩)
  have hdk3 : DeckAt w3 d := by rw [hw3]; exact hdk2.alloc _
  have hex3 : Ex d w1 w3 := by rw [hw3]; exact hex2.alloc _
  have hb3 : Below w.heap.size w w3 := Ex.below HB1.out HB1.out.size (by rw [HD.out]; exact Nat.le_refl _) hex3
  have RD := hide (Reduce_any st A c w3 (HMX.out.below hb3) hgst ((Sl.ok RSub.ok).mono hs4 (fun _ _ => rfl) (fun j hj => by show j < _; have := hj.1; omega)))
  obtain ⟨y4, -⟩ := ht4.facts
  have HDK3 := hide hdk3
  have HEX3 := hide hex3
  have HT4 := hide ht4
  have HS4 := hide hs4
  have HGS := hide hgst
  have hd4 : d < g4 := by omega
  have h43 : g4 < w3.heap.size := by omega
  have HG4 := hide hg4
  have HW3 := hide hw3
  clear hsl2 hdk2 hex2 ht4 hs4 hgst hg4 hz3 hw3 hdk3 hex3 hb3
  go_upto_region 3 with (fail)
  rw [← HW3.out, ← HG4.out]
  go_wp2_with fail
  refine RD.out.mono ?_
  rintro e w5 ⟨L, P, X, cl, cp, cx, rfl, hslL, hslP, hslX, hb5⟩
  obtain ⟨lim, hlim⟩ : ∃ l, redLim st = l := ⟨_, rfl⟩
  obtain ⟨per, hper⟩ : ∃ l, redPer st lim = l := ⟨_, rfl⟩
  obtain ⟨ex, hex⟩ : ∃ l, redEx st = l := ⟨_, rfl⟩
  rw [hlim] at hslL hslP
  rw [hper] at hslP
  rw [hex] at hslX
  rw [hlim, hper, hex]
  have hgb1 : ∀ s ∈ st, GoodBs s.1 := fun s hs => (HGS.out.2 s hs).2.2.1
  have hgb2 : ∀ s ∈ st, GoodBs s.2 := fun s hs => (HGS.out.2 s hs).2.2.2
  have hpg : GoodBs per := by
    rw [← hper]
    exact (perLim_good (fun s hs => ⟨(HGS.out.2 s hs).1, hgb1 s hs⟩) lim [] (fun b hb => by cases hb)).1
  have hxg : GoodBs ex := by
    rw [← hex]
    exact (exAll_both st [] (fun b hb => by cases hb) (fun s hs => ⟨(HGS.out.2 s hs).2.1, hgb2 s hs⟩)).1
  have LAW := hide (fun g (hg : GoodGen g) => (show permitsR lim per ex g = permitsG st g by
    have := permitsR_reduce hgb1 hgb2 hg
    rw [hlim, hper, hex] at this
    exact this))
  have HPG := hide hpg
  have HXG := hide hxg
  obtain ⟨w7, hw7⟩ : ∃ w7, w7 = w5.alloc (.cells #[.slice L lim.length cl, .slice P per.length cp, .slice X ex.length cx] 65) := ⟨_, rfl⟩
  obtain ⟨g5, hg5⟩ : ∃ g5, g5 = w5.heap.size := ⟨_, rfl⟩
  have hb37 : Below w3.heap.size w3 w7 := by rw [hw7]; exact hb5.alloc hb5.size _
  have hr5 : RB g5 (.slice L lim.length cl) (.slice P per.length cp) (.slice X ex.length cx) w7 := by
    unfold RB
    rw [hw7, hg5]
    exact heap_alloc_new w5 _
  obtain ⟨x1, -⟩ := (HT4.out.base hb37 h43).facts
  obtain ⟨x2, x3, x4, -, -, -⟩ := hr5.facts
  have hz5 := hb5.size
  have hd3 : d < w3.heap.size := by omega
  have hd5 : g5 ≠ d := by omega
  have hd4n : g4 ≠ d := by omega
  have hz7 : w7.heap.size = w5.heap.size + 1 := by rw [hw7]; simp
  have ND : ∀ j, Btw w3.heap.size w5.heap.size j → Nd d w7.heap.size j := fun j hj => ⟨by have := hj.2; omega, by have := hj.1; omega⟩
  have KL := hide ((Sl.ok RInt.ok).mono hslL (w' := w7) (fun j hj => by rw [hw7]; exact Below.heap_alloc _ _ j hj.2) ND)
  have KP := hide ((Sl.ok RGen.ok).mono hslP (w' := w7) (fun j hj => by rw [hw7]; exact Below.heap_alloc _ _ j hj.2) ND)
  have KX := hide ((Sl.ok RGen.ok).mono hslX (w' := w7) (fun j hj => by rw [hw7]; exact Below.heap_alloc _ _ j hj.2) ND)
  have KS := hide ((Sl.ok RSub.ok).mono HS4.out (w' := w7) (S' := Nd d w7.heap.size) (fun j hj => hb37.block j (by have := hj.1; omega)) (fun j hj => ⟨by have := hj.1; have := hb37.size; omega, hj.2⟩))
  have HDK7 := hide (HDK3.out.below hb37)
  have HEX7 := hide (HEX3.out.then_ hb37)
  have HW7 := hide hw7
  have HG5 := hide hg5
  clear hslL hslP hslX hb5 hlim hper hex hgb1 hgb2 hpg hxg hb37 hr5 hz5 hz7 ND hw7 hg5 y4
  go_upto_region 4 with (fail)
  rw [← HW7.out, ← HG5.out]
  go_wp2_with fail
  go_loopw [6] (fun i wr => ∃ k : Nat, k ≤ 8 ∧ i = .int .i64 k ∧ DeckAt wr d ∧ Ex d w7 wr) (fun i _ => 8 - (intOf i).toNat)
  case atStart => exact ⟨0, by omega, rfl, HDK7.out, Ex.refl _ _⟩
  case round =>
    obtain ⟨k, hk, rfl, hdk, hex⟩ := hrel
    have HDK := hide hdk
    have HEX := hide hex
    clear hdk hex
    by_cases hlt : k < 8
    · have hlt' : (k : Int) < 8 := by omega
      go_wp2_with fail
      refine (General_any d _ HDK.out).mono ?_
      rintro e w8 ⟨g, t, A9, c9, hgg, ht, rfl, hsl9, hdk8, hex8⟩
      have hx9 : Ex d w7 (w8.alloc (.cells #[.int .i64 g.1, .string t, .slice A9 g.2.2.length c9] 61)) := (HEX.out.trans hex8).alloc _
      have hdk9 : DeckAt (w8.alloc (.cells #[.int .i64 g.1, .string t, .slice A9 g.2.2.length c9] 61)) d := hdk8.alloc _
      obtain ⟨b1, b2, b3⟩ := gen_cells (w := w8) (k := g.1) (t := t) (v := .slice A9 g.2.2.length c9) (T := 61) rfl
      have hn9 := sl_alloc2 RRdn.ok hsl9 (.cells #[.int .i64 g.1, .string t, .slice A9 g.2.2.length c9] 61)
      obtain ⟨w9, hw9⟩ : ∃ w9, w9 = w8.alloc (.cells #[.int .i64 g.1, .string t, .slice A9 g.2.2.length c9] 61) := ⟨_, rfl⟩
      rw [← hw9] at hx9 hdk9 b1 b2 b3 hn9
      have HW9 := hide hw9
      have HX9 := hide hx9
      have HDK9 := hide hdk9
      have HGG := hide hgg
      have HT := hide ht
      have HN9 := hide hn9
      clear hw9 hdk9 hgg ht hn9 hsl9 hdk8 hex8
      go_upto_region 8 with (fail)
      rw [← HW9.out]
      obtain ⟨g9, hg9⟩ : ∃ g9, g9 = w8.heap.size := ⟨_, rfl⟩
      rw [← hg9] at b1 b2 b3 ⊢
      clear hg9
      have a1 := (hx9.cell (p := ⟨g4, 0, none⟩) (World.block_lt_of_cell? w7 _ x1) hd4n).trans x1
      have a2 := (hx9.cell (p := ⟨g5, 0, none⟩) (World.block_lt_of_cell? w7 _ x2) hd5).trans x2
      have a3 := (hx9.cell (p := ⟨g5, 1, none⟩) (World.block_lt_of_cell? w7 _ x3) hd5).trans x3
      have a4 := (hx9.cell (p := ⟨g5, 2, none⟩) (World.block_lt_of_cell? w7 _ x4) hd5).trans x4
      obtain ⟨q, hq⟩ : ∃ q, permitsG st g = q := ⟨_, rfl⟩
      have hqr : permitsR lim per ex g = q := by rw [LAW.out g HGG.out, hq]
      have hb9 : Below w.heap.size w w9 := Ex.below HB1.out HB1.out.size (by rw [HD.out]; exact Nat.le_refl _) (HEX7.out.trans hx9)
      have SN := hide (fun W (hb : Below w9.heap.size w9 W) => (Sl.ok RRdn.ok).below ((Sl.ok RRdn.ok).mono HN9.out (fun _ _ => rfl) (fun j hj => hj.2) : Sl RRdn 1 w9 (Lt w9.heap.size) g.2.2 [.slice A9 g.2.2.length c9]) hb)
      have SS := hide (fun W (hb : Below w9.heap.size w9 W) => (Sl.ok RSub.ok).below ((Sl.ok RSub.ok).lt ((Sl.ok RSub.ok).ex KS.out hx9)) hb)
      have SL := hide (fun W (hb : Below w9.heap.size w9 W) => (Sl.ok RInt.ok).below ((Sl.ok RInt.ok).lt ((Sl.ok RInt.ok).ex KL.out hx9)) hb)
      have SP := hide (fun W (hb : Below w9.heap.size w9 W) => (Sl.ok RGen.ok).below ((Sl.ok RGen.ok).lt ((Sl.ok RGen.ok).ex KP.out hx9)) hb)
      have SX := hide (fun W (hb : Below w9.heap.size w9 W) => (Sl.ok RGen.ok).below ((Sl.ok RGen.ok).lt ((Sl.ok RGen.ok).ex KX.out hx9)) hb)
      have MX := hide (fun W (hb : Below w9.heap.size w9 W) => HMX.out.below (hb9.trans (hb.mono hb9.size)))
      have PE := hide (fun W h1 h2 h3 h4 h5 h6 h7 h8 => eight_held (wx := w9) (g4 := g4) (g5 := g5) (g9 := g9) (u4 := .slice A st.length c) (l5 := .slice L lim.length cl) (p5 := .slice P per.length cp) (x5 := .slice X ex.length cx) (k9 := .int .i64 g.1) (t9 := .string t) (v9 := .slice A9 g.2.2.length c9) (permits_n2 g t A9 c9 st A c HT.out HGG.out.small HGS.out.small q hq W (MX.out W h8) (SN.out W h8) (SS.out W h8)) h1 h2 h3 h4 h5 h6 h7 h8)
      have PR := hide (fun W h1 h2 h3 h4 h5 h6 h7 h8 => eight_held (wx := w9) (g4 := g4) (g5 := g5) (g9 := g9) (u4 := .slice A st.length c) (l5 := .slice L lim.length cl) (p5 := .slice P per.length cp) (x5 := .slice X ex.length cx) (k9 := .int .i64 g.1) (t9 := .string t) (v9 := .slice A9 g.2.2.length c9) (permitsR_any g t A9 c9 lim per ex L P X cl cp cx HT.out HGG.out.small HPG.out.small HXG.out.small q hqr W (MX.out W h8) (SN.out W h8) (SL.out W h8) (SP.out W h8) (SX.out W h8)) h1 h2 h3 h4 h5 h6 h7 h8)
      have a8 : Below w9.heap.size w9 w9 := Below.refl _ _
      have a8d : Below w9.heap.size w9 w9.drew := a8.drew
      have a1d : w9.drew.cell? ⟨g4, 0, none⟩ = some (.slice A st.length c) := a1
      have a2d : w9.drew.cell? ⟨g5, 0, none⟩ = some (.slice L lim.length cl) := a2
      have a3d : w9.drew.cell? ⟨g5, 1, none⟩ = some (.slice P per.length cp) := a3
      have a4d : w9.drew.cell? ⟨g5, 2, none⟩ = some (.slice X ex.length cx) := a4
      have b1d : w9.drew.cell? ⟨g9, 0, none⟩ = some (.int .i64 g.1) := b1
      have b2d : w9.drew.cell? ⟨g9, 1, none⟩ = some (.string t) := b2
      have b3d : w9.drew.cell? ⟨g9, 2, none⟩ = some (.slice A9 g.2.2.length c9) := b3
      have hqq : (q != q) = false := by simp
      clear hq hqr hb9 hx9 x1 x2 x3 x4
      go_region_held3 (fun W => W.cell? ⟨g4, 0, none⟩ = some (.slice A st.length c) ∧ W.cell? ⟨g5, 0, none⟩ = some (.slice L lim.length cl) ∧ W.cell? ⟨g5, 1, none⟩ = some (.slice P per.length cp) ∧ W.cell? ⟨g5, 2, none⟩ = some (.slice X ex.length cx) ∧ W.cell? ⟨g9, 0, none⟩ = some (.int .i64 g.1) ∧ W.cell? ⟨g9, 1, none⟩ = some (.string t) ∧ W.cell? ⟨g9, 2, none⟩ = some (.slice A9 g.2.2.length c9) ∧ Below w9.heap.size w9 W)
        (first | exact ⟨hs1, hs2, hs3, hs4, hs5, hs6, hs7, hs8⟩ | exact ⟨a1, a2, a3, a4, b1, b2, b3, a8⟩ | exact ⟨a1d, a2d, a3d, a4d, b1d, b2d, b3d, a8d⟩)
        (first
          | (go_at_call 29; (first | (with_reducible refine (PE.out _ hs1 hs2 hs3 hs4 hs5 hs6 hs7 hs8).mono ?_) | (with_reducible refine (PE.out w9.drew a1d a2d a3d a4d b1d b2d b3d a8d).mono ?_) | fail); rintro e wn ⟨rfl, hs1, hs2, hs3, hs4, hs5, hs6, hs7, hs8⟩)
          | (go_at_call 32; (first | (with_reducible refine (PR.out _ hs1 hs2 hs3 hs4 hs5 hs6 hs7 hs8).mono ?_) | (with_reducible refine (PR.out w9.drew a1d a2d a3d a4d b1d b2d b3d a8d).mono ?_) | fail); rintro e wn ⟨rfl, hs1, hs2, hs3, hs4, hs5, hs6, hs7, hs8⟩)
          | fail)
      all_goals
        go_wp2_with fail
        go_roundw
        case rel => exact ⟨k + 1, by omega, by go_num, HDK9.out.below hs8, HX9.out.then_ hs8⟩
        case measure => simp [intOf]; omega
    · obtain rfl : k = 8 := by omega
      have HB := hide (Ex.below HB1.out HB1.out.size (by rw [HD.out]; exact Nat.le_refl _) (HEX7.out.trans HEX.out))
      have AW := hide (sawake_any wr (HMX.out.below HB.out))
      go_wp2_with fail
      refine AW.out.mono ?_
      rintro e w9 ⟨rfl, hb9⟩
      have HB9 := hide (HB.out.trans (hb9.mono HB.out.size))
      clear hb9
      go_wp2_with fail
      go_ret
      exact ⟨rfl, HB9.out⟩
end Go.Proofs.YtepibepgfackkaaDoor
