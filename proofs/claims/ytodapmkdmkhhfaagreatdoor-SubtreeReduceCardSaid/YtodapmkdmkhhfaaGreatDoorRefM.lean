/- The law SubtreeAll, its walk. -/
import Derived.Test.YtodapmkdmkhhfaaGreatDoorRefK
import Derived.Test.YtodapmkdmkhhfaaGreatDoorRefL
import Derived.Test.YtodapmkdmkhhfaaGreatDoorGn5
import Derived.Deep.RegionHeld3
namespace Go.Proofs.YtodapmkdmkhhfaaGreatDoor
open Go.RowKit

theorem gens_hi (A : Option Addr) (n c v : Nat) (hv : v ≤ c) (W : World) : (Instr.slice 25 (.slice A n c) none (some (.int .i64 (v : Int))) none).run Tryz.prog W = .ok (.slice A v c) W := by
  have ht : Tryz.prog.underlying 25 = some (.slice (Tryz.prog.elem 25)) := by kernel_rfl
  have hh := run_slice_h (P := Tryz.prog) (w := W) 25 A n c ht .i64 (v : Int) (by omega) (by omega)
  refine hh.trans ?_
  have hs : (sizeOf (Tryz.prog.elem 25)).run Tryz.prog W = .ok 3 W := by kernel_rfl
  rw [hs]
  cases A <;> simp [Result.andThen, sliced, Addr.add]
theorem two_gens {w : World} {S : Nat → Prop} {g1 g2 : Gen} {t1 t2 : ByteArray} {A1 A2 : Option Addr} {c1 c2 : Nat} {T : TypeId} (ht1 : t1.data.toList = g1.2.1) (ht2 : t2.data.toList = g2.2.1) (h1 : Sl RRdn 1 w S g1.2.2 [.slice A1 g1.2.2.length c1]) (h2 : Sl RRdn 1 w S g2.2.2 [.slice A2 g2.2.2.length c2]) (hS : ∀ k, S k → k < w.heap.size) :
    Sl RGen 3 (w.alloc (.cells #[.int .i64 g1.1, .string t1, .slice A1 g1.2.2.length c1, .int .i64 g2.1, .string t2, .slice A2 g2.2.2.length c2] T)) (fun k => S k ∨ k = w.heap.size) [g1, g2] [.slice (some ⟨w.heap.size, 0, none⟩) 2 2] := by
  refine ⟨_, _, rfl, Nat.le_refl _, by simp [maxLen], fun _ => ⟨w.heap.size, 0, rfl, .inr rfl, fun i x hx => ?_⟩⟩
  have key : ∀ {g : Gen} {A : Option Addr} {c : Nat}, Sl RRdn 1 w S g.2.2 [.slice A g.2.2.length c] → Sl RRdn 1 (w.alloc (.cells #[.int .i64 g1.1, .string t1, .slice A1 g1.2.2.length c1, .int .i64 g2.1, .string t2, .slice A2 g2.2.2.length c2] T)) (fun k => S k ∨ k = w.heap.size) g.2.2 [.slice A g.2.2.length c] := fun h =>
    (Sl.ok RRdn.ok).mono h (fun k hk => Below.heap_alloc _ _ k (hS k hk)) (fun k hk => .inl hk)
  match i, hx with
  | 0, hx =>
    simp at hx; subst hx
    refine ⟨[.int .i64 g1.1, .string t1, .slice A1 g1.2.2.length c1], ⟨_, by rw [← ht1], key h1⟩, fun j u hu => ?_⟩
    rw [World.cell?_alloc_new]
    match j, hu with
    | 0, hu => simpa using hu
    | 1, hu => simpa using hu
    | 2, hu => simpa using hu
  | 1, hx =>
    simp at hx; subst hx
    refine ⟨[.int .i64 g2.1, .string t2, .slice A2 g2.2.2.length c2], ⟨_, by rw [← ht2], key h2⟩, fun j u hu => ?_⟩
    rw [World.cell?_alloc_new]
    match j, hu with
    | 0, hu => simpa using hu
    | 1, hu => simpa using hu
    | 2, hu => simpa using hu

theorem five_held {P : Program} {f : FuncId} {args : Array Value} {W wx : World} {q : Bool} {g3 g8 g9 : Nat} {u3 u8 u9 : Value} (hc : Calls P f args W fun e w' => e = .returned (.bool q) ∧ Below W.heap.size W w')
    (h1 : W.cell? ⟨g3, 0, none⟩ = some u3) (h2 : W.cell? ⟨g8, 0, none⟩ = some u8) (h3 : W.cell? ⟨g9, 0, none⟩ = some u9) (h4 : Below wx.heap.size wx W) :
    Calls P f args W fun e w' => e = .returned (.bool q) ∧ w'.cell? ⟨g3, 0, none⟩ = some u3 ∧ w'.cell? ⟨g8, 0, none⟩ = some u8 ∧ w'.cell? ⟨g9, 0, none⟩ = some u9 ∧ Below wx.heap.size wx w' :=
  hc.mono fun _ _ ⟨he, hb⟩ => ⟨he, cell_grows hb _ _ h1, cell_grows hb _ _ h2, cell_grows hb _ _ h3, h4.trans (hb.mono h4.size)⟩


set_option maxRecDepth 100000 in
set_option maxHeartbeats 16000000 in
theorem SubtreeAll_any (raw : Name) (names : List Gen) (l : List Int) (A1 A2 A0 : Option Addr) (c1 c2 n0 c0 : Nat) (w : World) (hmx : Mx w) (h1 : Sl RRdn 1 w (Lt w.heap.size) raw [.slice A1 raw.length c1]) (h2 : Sl RGen 3 w (Lt w.heap.size) names [.slice A2 names.length c2]) (h : Sl RInt 1 w (Lt w.heap.size) l [.slice A0 n0 c0]) :
    Calls Tryz.prog 4 #[.agg #[.slice A1 raw.length c1], .slice A2 names.length c2, .slice A0 n0 c0] w fun e w' => e = .returned (.bool true) ∧ Below w.heap.size w w' := by
  have HMX := hide hmx
  have K0 := hide h
  have K1 := hide h1
  have K2 := hide h2
  obtain ⟨wa, hwa⟩ : ∃ wa, wa = w.alloc (.cells #[.slice A1 raw.length c1] 30) := ⟨_, rfl⟩
  have hnb : NB w.heap.size (.slice A1 raw.length c1) wa := by rw [hwa]; exact heap_alloc_new w _
  have hba : Below w.heap.size w wa := by rw [hwa]; exact (Below.refl _ _).alloc (Nat.le_refl _) _
  obtain ⟨g3, hg3⟩ : ∃ g, g = w.heap.size := ⟨_, rfl⟩
  rw [← hg3] at hnb
  obtain ⟨y3, -⟩ := hnb.facts
  have hgl : g3 < wa.heap.size := by rw [hwa, hg3]; simp
  have HBA := hide hba
  have HWA := hide hwa
  have HG3 := hide hg3
  obtain ⟨p1, hp1⟩ : ∃ p, shortN raw = p := ⟨_, rfl⟩
  obtain ⟨p2, hp2⟩ : ∃ p, shortGs names = p := ⟨_, rfl⟩
  have HP1 := hide hp1
  have HP2 := hide hp2
  clear hmx h h1 h2 hwa hnb hba hg3 hp1 hp2
  go_enter Tryz.func4, Tryz.ntmps4
  go_upto_region 1 with (fail)
  rw [← HWA.out, ← HG3.out]
  go_wp2_with fail
  refine (Short_any raw A1 c1 _ ((Sl.ok RRdn.ok).below K1.out HBA.out) p1 HP1.out).mono ?_
  rintro e w1 ⟨rfl, hb1⟩
  have HB1 := hide (HBA.out.trans (hb1.mono HBA.out.size))
  have y31 := cell_grows hb1 _ _ y3
  clear hb1 y3
  cases p1
  · go_wp2_with fail
    refine (sawake_any _ (HMX.out.below HB1.out)).mono ?_
    rintro e wz ⟨rfl, hbz⟩
    go_wp2_with fail
    go_ret
    exact ⟨rfl, HB1.out.trans (hbz.mono HB1.out.size)⟩
  · go_wp2_with fail
    refine (ShortNames_any names A2 c2 p2 HP2.out _ ((Sl.ok RGen.ok).below K2.out HB1.out)).mono ?_
    rintro e w2 ⟨rfl, hb2⟩
    have HB2 := hide (HB1.out.trans (hb2.mono HB1.out.size))
    have y32 := cell_grows hb2 _ _ y31
    clear hb2 y31
    cases p2
    · go_wp2_with fail
      refine (sawake_any _ (HMX.out.below HB2.out)).mono ?_
      rintro e wz ⟨rfl, hbz⟩
      go_wp2_with fail
      go_ret
      exact ⟨rfl, HB2.out.trans (hbz.mono HB2.out.size)⟩
    · have hsr := shortN_small HP1.out
      have hsn := shortGs_small HP2.out
      have HSR := hide hsr
      have HSN := hide hsn
      clear hsr hsn
      go_wp2_with fail
      refine (New_any l A0 n0 c0 _ ((Sl.ok RInt.ok).below K0.out HB2.out)).mono ?_
      rintro e w3 ⟨rfl, hdk3, hb3⟩
      obtain ⟨d, hd⟩ : ∃ d, d = w2.heap.size := ⟨_, rfl⟩
      rw [← hd] at hdk3 ⊢
      have hg3d : g3 ≠ d := by have := World.block_lt_of_cell? w2 ⟨g3, 0, none⟩ y32; intro e; rw [hd] at e; simp at this; omega
      have hwd : w.heap.size ≤ d := by rw [hd]; exact HB2.out.size
      have y33 := cell_grows hb3 _ _ y32
      have HB3 := hide (HB2.out.trans (hb3.mono HB2.out.size))
      have HDK3 := hide hdk3
      clear hb3 hdk3 y32 hd
      go_wp2_with fail
      refine (state_any d _ HDK3.out).mono ?_
      rintro e w4 ⟨st, A, c, hgst, rfl, hsl4, hdk4, hex4⟩
      have hd3 := HDK3.out.lt
      have hs4 := hex4.size
      obtain ⟨w5, hw5⟩ : ∃ w5, w5 = w4.alloc (.cells #[.slice A st.length c] 24) := ⟨_, rfl⟩
      obtain ⟨g8, hg8⟩ : ∃ g, g = w4.heap.size := ⟨_, rfl⟩
      have ht8 : TB g8 (.slice A st.length c) w5 := by rw [hw5, hg8]; exact heap_alloc_new w4 _
      have HT8 := hide ht8
      have KS := hide (show Sl RSub 2 w5 (fun k => k < g8 ∧ k ≠ d) st [.slice A st.length c] from (Sl.ok RSub.ok).mono hsl4 (fun k hk => by rw [hw5]; exact Below.heap_alloc _ _ k hk.2) (fun k hk => ⟨by have := hk.2; omega, by have := hk.1; omega⟩))
      have HDK5 := hide (show DeckAt w5 d by rw [hw5]; exact hdk4.alloc _)
      have HEX5 := hide (show Ex d w3 w5 by rw [hw5]; exact hex4.alloc _)
      have HGST := hide hgst
      have hd8 : d < g8 := by omega
      have HW5 := hide hw5
      have HG8 := hide hg8
      clear hgst hsl4 hdk4 hex4 hw5 hg8 ht8 hs4
      go_upto_region 5 with (fail)
      rw [← HW5.out, ← HG8.out]
      go_wp2_with fail
      refine (Name_any d _ HDK5.out).mono ?_
      rintro e w6 ⟨n, vn, hgn, rfl, hsl6, hdk6, hex6⟩
      obtain ⟨A6, c6, hvn⟩ := hsl6.shape
      subst hvn
      have hs6 := hex6.size
      have hd5 := HDK5.out.lt
      obtain ⟨w7, hw7⟩ : ∃ w7, w7 = w6.alloc (.cells #[.slice A6 n.length c6] 30) := ⟨_, rfl⟩
      obtain ⟨g9, hg9⟩ : ∃ g, g = w6.heap.size := ⟨_, rfl⟩
      have HN9 := hide (show NB g9 (.slice A6 n.length c6) w7 by rw [hw7, hg9]; exact heap_alloc_new w6 _)
      have KN := hide (show Sl RRdn 1 w7 (fun k => k < g9 ∧ k ≠ d) n [.slice A6 n.length c6] from (Sl.ok RRdn.ok).mono hsl6 (fun k hk => by rw [hw7]; exact Below.heap_alloc _ _ k hk.2) (fun k hk => ⟨by have := hk.2; omega, by have := hk.1; omega⟩))
      have HDK7 := hide (show DeckAt w7 d by rw [hw7]; exact hdk6.alloc _)
      have HEX7 := hide (show Ex d w5 w7 by rw [hw7]; exact hex6.alloc _)
      have HGN := hide hgn
      have hd9 : d < g9 := by omega
      have HW7 := hide hw7
      have HG9 := hide hg9
      clear hgn hsl6 hdk6 hex6 hw7 hg9 hs6
      go_upto_region 6 with (fail)
      rw [← HW7.out, ← HG9.out]
      go_wp2_with fail
      refine (General_any d _ HDK7.out).mono ?_
      rintro e wA ⟨ga, ta, Aa, ca, hga, hta, rfl, hsla, hdkA, hexA⟩
      have HDKA := hide hdkA
      clear hdkA
      go_wp2_with fail
      refine (General_any d _ HDKA.out).mono ?_
      rintro e wB ⟨gb, tb, Ab, cb, hgb, htb, rfl, hslb, hdkB, hexB⟩
      have hd7 := HDK7.out.lt
      have hzA := hexA.size
      have hzB := hexB.size
      have hsa2 : Sl RRdn 1 wB (Nd d wB.heap.size) ga.2.2 [.slice Aa ga.2.2.length ca] := (Sl.ok RRdn.ok).mono hsla (fun k hk => hexB.at_ hk.2 (by have := hk.1; omega)) (fun k hk => ⟨by have := hk.2; omega, by have := hk.1; omega⟩)
      have hsb2 : Sl RRdn 1 wB (Nd d wB.heap.size) gb.2.2 [.slice Ab gb.2.2.length cb] := (Sl.ok RRdn.ok).mono hslb (fun _ _ => rfl) (fun k hk => ⟨hk.2, by have := hk.1; omega⟩)
      have htwo := two_gens (T := 32) hta htb hsa2 hsb2 (fun k hk => hk.1)
      obtain ⟨wD, hwD⟩ : ∃ wD, wD = wB.alloc (.cells #[.int .i64 ga.1, .string ta, .slice Aa ga.2.2.length ca, .int .i64 gb.1, .string tb, .slice Ab gb.2.2.length cb] 32) := ⟨_, rfl⟩
      rw [← hwD] at htwo
      have hzD : wD.heap.size = wB.heap.size + 1 := by rw [hwD]; simp
      have HTWO := hide (show Sl RGen 3 wD (Nd d wD.heap.size) [ga, gb] [.slice (some ⟨wB.heap.size, 0, none⟩) 2 2] from (Sl.ok RGen.ok).mono htwo (fun _ _ => rfl) (fun k hk => by
        rcases hk with hk | hk
        · exact ⟨by have := hk.1; omega, hk.2⟩
        · exact ⟨by omega, by omega⟩))
      have HDKD := hide (show DeckAt wD d by rw [hwD]; exact hdkB.alloc _)
      have HEXD := hide (show Ex d w7 wD by rw [hwD]; exact (hexA.trans hexB).alloc _)
      have HGA := hide hga
      have HGB := hide hgb
      have HWD := hide hwD
      obtain ⟨gS, hgS⟩ : ∃ g, g = wB.heap.size := ⟨_, rfl⟩
      rw [← hgS] at HTWO
      have HGS := hide hgS
      clear hga hgb hta htb hsla hslb hexA hexB hsa2 hsb2 htwo hwD hzD hdkB hzA hzB hgS
      go_wp2_with fail
      rw [← HWD.out, ← HGS.out]
      refine (Next_any d 3 (by omega) (by omega) _ HDKD.out).mono ?_
      rintro e wx ⟨v, hv, rfl, hdkx, hexx⟩
      have hgh := gens_hi (some ⟨gS, 0, none⟩) 2 2 v (by omega)
      obtain ⟨some_, hsome⟩ : ∃ s, [ga, gb].take v = s := ⟨_, rfl⟩
      have hsl_ : some_.length = v := by rw [← hsome, List.length_take]; simp; omega
      have hsome2 : Sl RGen 3 wD (Nd d wD.heap.size) some_ [.slice (some ⟨gS, 0, none⟩) v 2] := by
        have h1 : Sl RGen 3 wD (Nd d wD.heap.size) ([ga, gb].take v ++ [ga, gb].drop v) [.slice (some ⟨gS, 0, none⟩) 2 2] := by rw [List.take_append_drop]; exact HTWO.out
        have h2 := h1.take_
        rw [hsome, hsl_] at h2
        exact h2
      have hsmall : SmallGs some_ := fun g hg => by
        rw [← hsome] at hg
        have := List.mem_of_mem_take hg
        simp only [List.mem_cons, List.not_mem_nil, or_false] at this
        rcases this with rfl | rfl
        · exact HGA.out.small
        · exact HGB.out.small
      have hexD := HEXD.out
      have hex7x : Ex d w7 wx := hexD.trans hexx
      have hex5x : Ex d w5 wx := HEX7.out.trans hex7x
      have hex3x : Ex d w3 wx := HEX5.out.trans hex5x
      have a3 : wx.cell? ⟨g3, 0, none⟩ = some (.slice A1 raw.length c1) := (hex3x.cell (p := ⟨g3, 0, none⟩) (World.block_lt_of_cell? w3 _ y33) hg3d).trans y33
      have a8 : wx.cell? ⟨g8, 0, none⟩ = some (.slice A st.length c) := (HT8.out.ex hex5x (by omega)).facts.1
      have a9 : wx.cell? ⟨g9, 0, none⟩ = some (.slice A6 n.length c6) := (HN9.out.ex hex7x (by omega)).facts.1
      have hbx : Below w.heap.size w wx := Ex.below HB3.out HB3.out.size hwd hex3x
      have SS := hide (fun W (hb : Below wx.heap.size wx W) => (Sl.ok RSub.ok).below ((Sl.ok RSub.ok).mono KS.out (fun k hk => hex5x.at_ (by have := hk.1; have := HT8.out.lt; omega) hk.2) (S' := Lt wx.heap.size) (fun k hk => by show k < _; have := hk.1; have := HT8.out.lt; have := hex5x.size; omega)) hb)
      have SN := hide (fun W (hb : Below wx.heap.size wx W) => (Sl.ok RRdn.ok).below ((Sl.ok RRdn.ok).mono KN.out (fun k hk => hex7x.at_ (by have := hk.1; have := HN9.out.lt; omega) hk.2) (S' := Lt wx.heap.size) (fun k hk => by show k < _; have := hk.1; have := HN9.out.lt; have := hex7x.size; omega)) hb)
      have SG := hide (fun W (hb : Below wx.heap.size wx W) => (Sl.ok RGen.ok).below ((Sl.ok RGen.ok).lt ((Sl.ok RGen.ok).ex hsome2 hexx)) hb)
      have SR := hide (fun W (hb : Below wx.heap.size wx W) => (Sl.ok RRdn.ok).below K1.out (hbx.trans (hb.mono hbx.size)))
      have SM := hide (fun W (hb : Below wx.heap.size wx W) => (Sl.ok RGen.ok).below K2.out (hbx.trans (hb.mono hbx.size)))
      have MX := hide (fun W (hb : Below wx.heap.size wx W) => HMX.out.below (hbx.trans (hb.mono hbx.size)))
      have HBX := hide hbx
      have hsmN : SmallN n := HGN.out.bnd.small (by omega)
      have hsmS : SmallS st := HGST.out.small
      obtain ⟨q1, hq1⟩ : ∃ q, permitsAllG st raw names = q := ⟨_, rfl⟩
      obtain ⟨q2, hq2⟩ : ∃ q, permitsAllG st n some_ = q := ⟨_, rfl⟩
      obtain ⟨q3, hq3⟩ : ∃ q, permitsAllG st n [] = q := ⟨_, rfl⟩
      have AW := hide (fun W h1 h2 h3 h4 => five_held (wx := wx) (g3 := g3) (g8 := g8) (g9 := g9) (u3 := .slice A1 raw.length c1) (u8 := .slice A st.length c) (u9 := .slice A6 n.length c6) (sawake_any W (MX.out W h4)) h1 h2 h3 h4)
      have P1 := hide (fun W h1 h2 h3 h4 => five_held (wx := wx) (g3 := g3) (g8 := g8) (g9 := g9) (u3 := .slice A1 raw.length c1) (u8 := .slice A st.length c) (u9 := .slice A6 n.length c6) (permitsAll_any st raw names A A1 A2 c c1 c2 hsmS HSR.out HSN.out q1 hq1 W (MX.out W h4) (SS.out W h4) (SR.out W h4) (SM.out W h4)) h1 h2 h3 h4)
      have R1 := hide (fun W h1 h2 h3 h4 => five_held (wx := wx) (g3 := g3) (g8 := g8) (g9 := g9) (u3 := .slice A1 raw.length c1) (u8 := .slice A st.length c) (u9 := .slice A6 n.length c6) (rPermitsAll_any st raw names A A1 A2 c c1 c2 hsmS HSR.out HSN.out q1 hq1 W (MX.out W h4) (SS.out W h4) (SR.out W h4) (SM.out W h4)) h1 h2 h3 h4)
      have P2 := hide (fun W h1 h2 h3 h4 => five_held (wx := wx) (g3 := g3) (g8 := g8) (g9 := g9) (u3 := .slice A1 raw.length c1) (u8 := .slice A st.length c) (u9 := .slice A6 n.length c6) (hsl_ ▸ permitsAll_any st n some_ A A6 (some ⟨gS, 0, none⟩) c c6 2 hsmS hsmN hsmall q2 hq2 W (MX.out W h4) (SS.out W h4) (SN.out W h4) (hsl_.symm ▸ SG.out W h4)) h1 h2 h3 h4)
      have R2 := hide (fun W h1 h2 h3 h4 => five_held (wx := wx) (g3 := g3) (g8 := g8) (g9 := g9) (u3 := .slice A1 raw.length c1) (u8 := .slice A st.length c) (u9 := .slice A6 n.length c6) (hsl_ ▸ rPermitsAll_any st n some_ A A6 (some ⟨gS, 0, none⟩) c c6 2 hsmS hsmN hsmall q2 hq2 W (MX.out W h4) (SS.out W h4) (SN.out W h4) (hsl_.symm ▸ SG.out W h4)) h1 h2 h3 h4)
      have P3 := hide (fun W h1 h2 h3 h4 => five_held (wx := wx) (g3 := g3) (g8 := g8) (g9 := g9) (u3 := .slice A1 raw.length c1) (u8 := .slice A st.length c) (u9 := .slice A6 n.length c6) (show Calls Tryz.prog 23 #[.agg #[.slice A st.length c], .agg #[.slice A6 n.length c6], .slice none 0 0] W (fun e w' => e = .returned (.bool q3) ∧ Below W.heap.size W w') from permitsAll_any st n [] A A6 none c c6 0 hsmS hsmN (fun g hg => by cases hg) q3 hq3 W (MX.out W h4) (SS.out W h4) (SN.out W h4) (Sl.nil _ _ _ _)) h1 h2 h3 h4)
      have R3 := hide (fun W h1 h2 h3 h4 => five_held (wx := wx) (g3 := g3) (g8 := g8) (g9 := g9) (u3 := .slice A1 raw.length c1) (u8 := .slice A st.length c) (u9 := .slice A6 n.length c6) (show Calls Tryz.prog 24 #[.agg #[.slice A st.length c], .agg #[.slice A6 n.length c6], .slice none 0 0] W (fun e w' => e = .returned (.bool q3) ∧ Below W.heap.size W w') from rPermitsAll_any st n [] A A6 none c c6 0 hsmS hsmN (fun g hg => by cases hg) q3 hq3 W (MX.out W h4) (SS.out W h4) (SN.out W h4) (Sl.nil _ _ _ _)) h1 h2 h3 h4)
      have t1 : (q1 == q1) = true := by simp
      have t2 : (q2 == q2) = true := by simp
      have t3 : (q3 == q3) = true := by simp
      have b4 : Below wx.heap.size wx wx := Below.refl _ _
      have b4d : Below wx.heap.size wx wx.drew := b4.drew
      have a3d : wx.drew.cell? ⟨g3, 0, none⟩ = some (.slice A1 raw.length c1) := a3
      have a8d : wx.drew.cell? ⟨g8, 0, none⟩ = some (.slice A st.length c) := a8
      have a9d : wx.drew.cell? ⟨g9, 0, none⟩ = some (.slice A6 n.length c6) := a9
      clear hq1 hq2 hq3 hsmS hsmN hbx hex3x hex5x hex7x hexD hexx hdkx hsome hsl_ hsome2 hsmall y33
      go_upto_region 7 with (fail)
      go_region_held3 (fun W => W.cell? ⟨g3, 0, none⟩ = some (.slice A1 raw.length c1) ∧ W.cell? ⟨g8, 0, none⟩ = some (.slice A st.length c) ∧ W.cell? ⟨g9, 0, none⟩ = some (.slice A6 n.length c6) ∧ Below wx.heap.size wx W)
        (first | exact ⟨hs1, hs2, hs3, hs4⟩ | exact ⟨a3, a8, a9, b4⟩ | exact ⟨a3d, a8d, a9d, b4d⟩)
        (first
          | (go_at_call 10; (first | (with_reducible refine (AW.out _ hs1 hs2 hs3 hs4).mono ?_) | (with_reducible refine (AW.out wx.drew a3d a8d a9d b4d).mono ?_) | fail); rintro e wn ⟨rfl, hs1, hs2, hs3, hs4⟩)
          | (go_at_call 23; (first | (with_reducible refine (P1.out _ hs1 hs2 hs3 hs4).mono ?_) | (with_reducible refine (P2.out _ hs1 hs2 hs3 hs4).mono ?_) | (with_reducible refine (P3.out _ hs1 hs2 hs3 hs4).mono ?_) | fail); rintro e wn ⟨rfl, hs1, hs2, hs3, hs4⟩)
          | (go_at_call 24; (first | (with_reducible refine (R1.out _ hs1 hs2 hs3 hs4).mono ?_) | (with_reducible refine (R2.out _ hs1 hs2 hs3 hs4).mono ?_) | (with_reducible refine (R3.out _ hs1 hs2 hs3 hs4).mono ?_) | fail); rintro e wn ⟨rfl, hs1, hs2, hs3, hs4⟩)
          | fail)
      all_goals
        go_wp2_with fail
        go_ret
        exact ⟨rfl, HBX.out.trans (hs4.mono HBX.out.size)⟩
end Go.Proofs.YtodapmkdmkhhfaaGreatDoor
