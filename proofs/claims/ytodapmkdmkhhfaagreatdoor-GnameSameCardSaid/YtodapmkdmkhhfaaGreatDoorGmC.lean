/- The law GnameSame, its walk. -/
import Derived.Test.YtodapmkdmkhhfaaGreatDoorGmA
import Derived.Test.YtodapmkdmkhhfaaGreatDoorGn3
namespace Go.Proofs.YtodapmkdmkhhfaaGreatDoor
open Go.RowKit

def GoodH (h : Gen) : Prop := GoodGen h ∨ ∃ t ∈ gDns, h = (2, t.map low, [])
def gDnsL : List (List UInt8) := gDns ++ gDns.map (fun t => t.map low)
def mailC (t u : List UInt8) : Bool := if (mailB t && mailB u) = true then mmB t u else eqF t u
theorem sm_within : ∀ t ∈ gMail, ∀ u ∈ gMail, mailC t u = true → ∀ c ∈ bMail, mwB t c = mwB u c := by decide +kernel
theorem sm_symm : ∀ t ∈ gMail, ∀ u ∈ gMail, mailC t u = true → mailC u t = true := by decide +kernel
theorem sm_refl : ∀ t ∈ gMail, mailC t t = true := by decide +kernel
theorem sd_within : ∀ t ∈ gDns, ∀ u ∈ gDnsL, eqF t u = true → ∀ c ∈ bDns, dnsWB t c = dnsWB u c := by decide +kernel
theorem eqF_symm {t u : List UInt8} (h : eqF t u = true) : eqF u t = true := by
  unfold eqF at *
  exact beq_iff_eq.2 (eq_of_beq h).symm
theorem eqF_refl (t : List UInt8) : eqF t t = true := by unfold eqF; simp
theorem goodH_form {h : Gen} (hh : GoodH h) : (∃ t ∈ gMail, h = (1, t, [])) ∨ (∃ t ∈ gDnsL, h = (2, t, [])) ∨ (∃ t ∈ gAddr, h = (7, t, [])) ∨ ∃ n, GoodN n ∧ h = (4, [], n) := by
  rcases hh with (⟨t, ht, h⟩ | ⟨t, ht, h⟩ | ⟨t, ht, h⟩ | ⟨n, hn, h⟩) | ⟨t, ht, h⟩
  · exact .inl ⟨t, ht, h⟩
  · exact .inr (.inl ⟨t, List.mem_append_left _ ht, h⟩)
  · exact .inr (.inr (.inl ⟨t, ht, h⟩))
  · exact .inr (.inr (.inr ⟨n, hn, h⟩))
  · exact .inr (.inl ⟨_, List.mem_append_right _ (List.mem_map_of_mem ht), h⟩)
theorem same_within {g h c : Gen} (hg : GoodGen g) (hh : GoodH h) (hc : GoodBase c) (hs : sameG g h = true) : withinG g c = withinG h c := by
  have hk := sameG_kind hs
  by_cases hgx : g.1 = c.1
  · rcases hg with ⟨tg, hg, rfl⟩ | ⟨tg, hg, rfl⟩ | ⟨tg, hg, rfl⟩ | ⟨tg, hg, rfl⟩ <;>
      rcases goodH_form hh with ⟨th, hm, rfl⟩ | ⟨th, hm, rfl⟩ | ⟨th, hm, rfl⟩ | ⟨th, hm, rfl⟩ <;> (first | (exfalso; revert hk; simp; done) | skip) <;>
      rcases hc with ⟨tc, hc, rfl⟩ | ⟨tc, hc, rfl⟩ | ⟨tc, hc, rfl⟩ | ⟨tc, hc, rfl⟩ <;> (first | (exfalso; revert hgx; simp; done) | skip)
    · exact sm_within tg hg th hm hs tc hc
    · exact sd_within tg hg th hm hs tc hc
    · have : tg = th := by
        have h' : (tg == th) = true := hs
        simpa using h'
      rw [this]
    · have h' : NSame tg th := (matchN_iff _ _).1 hs
      show withinN tg tc = withinN th tc
      rw [Bool.eq_iff_iff, withinN_iff, withinN_iff]
      exact ⟨fun h2 => h'.symm.pre.trans h2, fun h2 => h'.pre.trans h2⟩
  · rw [withinG_off hgx, withinG_off (by rw [← hk]; exact hgx)]
theorem same_symm {g h : Gen} (hg : GoodGen g) (hh : GoodH h) (hs : sameG g h = true) : sameG h g = true := by
  have hk := sameG_kind hs
  rcases hg with ⟨tg, hg, rfl⟩ | ⟨tg, hg, rfl⟩ | ⟨tg, hg, rfl⟩ | ⟨tg, hg, rfl⟩ <;>
    rcases goodH_form hh with ⟨th, hm, rfl⟩ | ⟨th, hm, rfl⟩ | ⟨th, hm, rfl⟩ | ⟨th, hm, rfl⟩ <;> (first | (exfalso; revert hk; simp; done) | skip)
  · exact sm_symm tg hg th hm hs
  · exact eqF_symm (t := tg) (u := th) hs
  · have : tg = th := by
      have h' : (tg == th) = true := hs
      simpa using h'
    rw [this] at hs ⊢
    exact hs
  · have h' : matchN tg th = true := hs
    show matchN th tg = true
    rw [matchN_symm]; exact h'
theorem same_refl {g : Gen} (hg : GoodGen g) : sameG g g = true := by
  rcases hg with ⟨tg, hg, rfl⟩ | ⟨tg, hg, rfl⟩ | ⟨tg, hg, rfl⟩ | ⟨tg, hg, rfl⟩
  · exact sm_refl tg hg
  · exact eqF_refl tg
  · show (tg == tg) = true
    simp
  · exact (matchN_iff _ _).2 (NSame.refl tg)
theorem GoodH.small {h : Gen} (hh : GoodH h) : SmallG h := by
  rcases hh with hh | ⟨t, ht, rfl⟩
  · exact hh.small
  · have : GoodGen (2, t, []) := .inr (.inl ⟨t, ht, rfl⟩)
    have h2 := this.small
    exact ⟨by show (t.map low).length ≤ 100000; rw [List.length_map]; exact h2.1, h2.2⟩

set_option maxRecDepth 100000 in
set_option maxHeartbeats 16000000 in
theorem GnameSame_any (l : List Int) (A0 : Option Addr) (n0 c0 : Nat) (w : World) (hmx : Mx w) (h : Sl RInt 1 w (Lt w.heap.size) l [.slice A0 n0 c0]) :
    Calls Tryz.prog 7 #[.slice A0 n0 c0] w fun e w' => e = .returned (.bool true) ∧ Below w.heap.size w w' := by
  have HMX := hide hmx
  have K0 := hide h
  clear hmx h
  go_enter Tryz.func7, Tryz.ntmps7
  go_wp2_with fail
  refine (New_any l A0 n0 c0 _ K0.out).mono ?_
  rintro e w3 ⟨rfl, hdk3, hb3⟩
  obtain ⟨d, hd⟩ : ∃ d, d = w.heap.size := ⟨_, rfl⟩
  rw [← hd] at hdk3 ⊢
  have hwd : w.heap.size ≤ d := by omega
  have HB3 := hide hb3
  have HDK3 := hide hdk3
  have HD := hide hd
  clear hb3 hdk3 hd
  try rw [HD.out]
  try rw [← HD.out]
  go_wp2_with fail
  refine (General_any d _ HDK3.out).mono ?_
  rintro e w4 ⟨x8, t8, A8, c8, hg8, ht8, rfl, hsl8, hdk4, hex4⟩
  have HDK4 := hide hdk4
  clear hdk4
  go_wp2_with fail
  refine (General_any d _ HDK4.out).mono ?_
  rintro e w5 ⟨x9, t9, A9, c9, hg9, ht9, rfl, hsl9, hdk5, hex5⟩
  obtain ⟨w7, hw7⟩ : ∃ w7, w7 = (w5.alloc (.cells #[.int .i64 x8.1, .string t8, .slice A8 x8.2.2.length c8] 32)).alloc (.cells #[.int .i64 x9.1, .string t9, .slice A9 x9.2.2.length c9] 32) := ⟨_, rfl⟩
  obtain ⟨g4, hg4'⟩ : ∃ g, g = w5.heap.size := ⟨_, rfl⟩
  obtain ⟨g5, hg5'⟩ : ∃ g, g = w5.heap.size + 1 := ⟨_, rfl⟩
  have hz7 : w7.heap.size = w5.heap.size + 2 := by rw [hw7]; simp
  have hex47 : Ex d w4 w7 := by rw [hw7]; exact ((hex5.alloc _).alloc _)
  have hex57 : Ex d w5 w7 := by rw [hw7]; exact (((Ex.refl d w5).alloc _).alloc _)
  have hex37 : Ex d w3 w7 := hex4.trans hex47
  have hd3 := HDK3.out.lt
  have hd4 := HDK4.out.lt
  have hz4 := hex4.size
  have hz5 := hex5.size
  have hd4g : d < g4 := by omega
  have hd5g : d < g5 := by omega
  have h45 : g4 ≠ g5 := by omega
  have h45' : g4 < g5 := by omega
  have hwg5 : w.heap.size ≤ g5 := by omega
  have h57 : g5 < w7.heap.size := by omega
  have h47 : g4 < w7.heap.size := by omega
  have I4 := hide (show GB g4 x8.1 t8 (.slice A8 x8.2.2.length c8) w7 by
    unfold GB
    rw [hw7, hg4', Below.heap_alloc _ _ _ (by simp <;> omega)]
    exact heap_alloc_new w5 _)
  have I5 := hide (show GB g5 x9.1 t9 (.slice A9 x9.2.2.length c9) w7 by
    unfold GB
    rw [hw7, hg5', show w5.heap.size + 1 = (w5.alloc (.cells #[.int .i64 x8.1, .string t8, .slice A8 x8.2.2.length c8] 32)).heap.size by simp]
    exact heap_alloc_new _ _)
  have IS8 := hide (show Sl RRdn 1 w7 (fun j => j < g4 ∧ j ≠ d) x8.2.2 [.slice A8 x8.2.2.length c8] from (Sl.ok RRdn.ok).mono hsl8 (fun j hj => hex47.at_ hj.2 (by have := hj.1; omega)) (fun j hj => ⟨by have := hj.2; omega, by have := hj.1; omega⟩))
  have IS9 := hide (show Sl RRdn 1 w7 (fun j => j < g4 ∧ j ≠ d) x9.2.2 [.slice A9 x9.2.2.length c9] from (Sl.ok RRdn.ok).mono hsl9 (fun j hj => hex57.at_ hj.2 (by have := hj.1; omega)) (fun j hj => ⟨by have := hj.2; omega, by have := hj.1; omega⟩))
  have IDK := hide (show DeckAt w7 d by rw [hw7]; exact (hdk5.alloc _).alloc _)
  have IB := hide (show Below w.heap.size w w7 from Ex.below HB3.out HB3.out.size hwd hex37)
  have h8e : (x8.1, t8.data.toList, x8.2.2) = x8 := by rw [ht8]
  have h9e : (x9.1, t9.data.toList, x9.2.2) = x9 := by rw [ht9]
  have HGG := hide (show GoodGen (x8.1, t8.data.toList, x8.2.2) by rw [h8e]; exact hg8)
  have HG9 := hide (show GoodGen (x9.1, t9.data.toList, x9.2.2) by rw [h9e]; exact hg9)
  have HW7 := hide hw7
  have HG4' := hide hg4'
  have HG5' := hide hg5'
  clear hg8 hg9 ht8 ht9 hsl8 hsl9 hex4 hex5 hdk5 hw7 hg4' hg5' hz7 hex47 hex57 hex37 hd3 hd4 hz4 hz5 h8e h9e
  go_upto_region 3 with (fail)
  rw [← HW7.out, ← HG5'.out, ← HG4'.out]
  go_wp2_with fail
  refine (Next_any d 2 (by omega) (by omega) w7 IDK.out).mono ?_
  rintro e w8 ⟨v, hv, rfl, hdk8, hex8⟩
  have J4 := hide (I4.out.ex hex8 (by omega))
  have J5 := hide (I5.out.ex hex8 (by omega))
  have hz8 := hex8.size
  have JS8 := hide (show Sl RRdn 1 w8 (fun j => j < g4 ∧ j ≠ d) x8.2.2 [.slice A8 x8.2.2.length c8] from (Sl.ok RRdn.ok).mono IS8.out (fun j hj => hex8.at_ (by have := hj.1; omega) hj.2) (fun _ hj => hj))
  have JS9 := hide (show Sl RRdn 1 w8 (fun j => j < g4 ∧ j ≠ d) x9.2.2 [.slice A9 x9.2.2.length c9] from (Sl.ok RRdn.ok).mono IS9.out (fun j hj => hex8.at_ (by have := hj.1; omega) hj.2) (fun _ hj => hj))
  have JB := hide (show Below w.heap.size w w8 from Ex.below IB.out IB.out.size hwd hex8)
  have JDK := hide hdk8
  have h48 : g4 < w8.heap.size := by omega
  have h58 : g5 < w8.heap.size := by omega
  clear hdk8 hex8 hz8
  by_cases v1 : v = 1
  · subst v1
    clear hv
    obtain ⟨a0, a1, a2, -, -, -⟩ := J4.out.facts
    obtain ⟨b0, b1, b2, bf0, bf1, bf2⟩ := J5.out.facts
    obtain ⟨w9, hw9⟩ : ∃ w9, w9 = ((w8.setCell ⟨g5, 0, none⟩ (.int .i64 x8.1)).setCell ⟨g5, 1, none⟩ (.string t8)).setCell ⟨g5, 2, none⟩ (.slice A8 x8.2.2.length c8) := ⟨_, rfl⟩
    have hz9 : w9.heap.size = w8.heap.size := by rw [hw9]; simp
    have hoff : ∀ j, j ≠ g5 → w9.heap[j]? = w8.heap[j]? := fun j hj => by
      rw [hw9]
      exact (Below.heap_setCell _ ⟨g5, 2, none⟩ _ j hj).trans ((Below.heap_setCell _ ⟨g5, 1, none⟩ _ j hj).trans (Below.heap_setCell _ ⟨g5, 0, none⟩ _ j hj))
    have HG4 := hide (show GB g4 x8.1 t8 (.slice A8 x8.2.2.length c8) w9 from (hoff g4 h45).trans J4.out)
    have HG5 := hide (show GB g5 x8.1 t8 (.slice A8 x8.2.2.length c8) w9 by rw [hw9]; exact J5.out.store x8.1 t8 _)
    have LS8 := hide (show Sl RRdn 1 w9 (fun j => j < g4 ∧ j ≠ d) x8.2.2 [.slice A8 x8.2.2.length c8] from (Sl.ok RRdn.ok).mono JS8.out (fun j hj => hoff j (by have := hj.1; have := h45; omega)) (fun _ hj => hj))
    have HBX := hide (show Below w.heap.size w w9 by rw [hw9]; exact ((JB.out.setCell (p := ⟨g5, 0, none⟩) hwg5 _).setCell (p := ⟨g5, 1, none⟩) hwg5 _).setCell (p := ⟨g5, 2, none⟩) hwg5 _)
    have HDX := hide (show DeckAt w9 d by rw [hw9]; exact ((JDK.out.set_ hd5g _).set_ hd5g _).set_ hd5g _)
    have HSG := hide (show Sl RRdn 1 w9 (Nd d w9.heap.size) x8.2.2 [.slice A8 x8.2.2.length c8] from (Sl.ok RRdn.ok).mono LS8.out (fun _ _ => rfl) (fun j hj => ⟨by have := hj.1; omega, hj.2⟩))
    have HW9 := hide hw9
    clear hw9 hoff
    go_upto_region 5 with (fail)
    rw [← HW9.out]
    clear a0 a1 a2 b0 b1 b2 bf0 bf1 bf2
    obtain ⟨b0, b1, b2, bf0, bf1, bf2⟩ := HG5.out.facts
    obtain ⟨a0, a1, a2, -, -, -⟩ := HG4.out.facts
    by_cases k2 : x8.1 = 2
    · have t2 : (x8.1 == 2) = true := by simpa using k2
      have hgz := size_of_list (t := t8) rfl HGG.out.small.1
      have h8f : ∃ t ∈ gDns, (x8.1, t8.data.toList, x8.2.2) = ((2, t, []) : Gen) := by
        rcases HGG.out with ⟨t, ht, h⟩ | ⟨t, ht, h⟩ | ⟨t, ht, h⟩ | ⟨n, hn, h⟩
        · simp only [Prod.mk.injEq] at h; omega
        · exact ⟨t, ht, h⟩
        · simp only [Prod.mk.injEq] at h; omega
        · simp only [Prod.mk.injEq] at h; omega
      obtain ⟨td, htd, h8f⟩ := h8f
      simp only [Prod.mk.injEq] at h8f
      have HTD := hide h8f
      clear h8f
      go_wp2_with fail
      refine (Lower_any t8 (by omega) _).mono ?_
      rintro e wl ⟨rfl, hbl⟩
      obtain ⟨tl, htl⟩ : ∃ tl : ByteArray, tl = ⟨(t8.data.toList.map low).toArray⟩ := ⟨_, rfl⟩
      rw [← htl]
      have htl2 : tl.data.toList = t8.data.toList.map low := by rw [htl]
      have hn8 : x8.2.2 = [] := HTD.out.2.2
      have hk8 : x8.1 = 2 := HTD.out.1
      have ht8' : t8.data.toList = td := HTD.out.2.1
      obtain ⟨wm, hwm⟩ : ∃ wm, wm = wl.setCell ⟨g5, 1, none⟩ (.string tl) := ⟨_, rfl⟩
      have hG4l := HG4.out.below hbl
      have hG5l := HG5.out.below hbl
      have hzl := hbl.size
      have HG4m := hide (show GB g4 x8.1 t8 (.slice A8 x8.2.2.length c8) wm by rw [hwm]; exact hG4l.other h45)
      have HG5m := hide (show GB g5 x8.1 tl (.slice A8 x8.2.2.length c8) wm by rw [hwm]; exact hG5l.store1 tl)
      have HBXm := hide (show Below w.heap.size w wm by rw [hwm]; exact (HBX.out.trans (hbl.mono HBX.out.size)).setCell (p := ⟨g5, 1, none⟩) hwg5 _)
      have HDXm := hide (show DeckAt wm d by rw [hwm]; exact (HDX.out.below hbl).set_ hd5g _)
      have HSGm := hide (show Sl RRdn 1 wm (Nd d wm.heap.size) x8.2.2 [.slice A8 x8.2.2.length c8] from (Sl.ok RRdn.ok).mono LS8.out (fun j hj => by rw [hwm]; exact (Below.heap_setCell _ ⟨g5, 1, none⟩ _ j (by have := hj.1; show j ≠ g5; omega)).trans (hbl.block j (by have := hj.1; omega))) (fun j hj => ⟨by rw [hwm]; have := hj.1; simp; omega, hj.2⟩))
      have HGHm := hide (show GoodH (x8.1, tl.data.toList, x8.2.2) from .inr ⟨td, htd, by rw [htl2, hn8, hk8, ht8']⟩)
      obtain ⟨c0', c1', c2', cf0, cf1, cf2⟩ := hG5l.facts
      have HWM := hide hwm
      clear a0 a1 a2 b0 b1 b2 bf0 bf1 bf2 hbl htl htl2 hn8 hk8 ht8' hwm hG4l hG5l hzl htd hgz k2 HG4 HG5 HBX HDX HSG
      go_upto_region 7 with (fail)
      rw [← HWM.out]
      clear c0' c1' c2' cf0 cf1 cf2
      have HG4 := HG4m
      have HG5 := HG5m
      have HBX := HBXm
      have HDX := HDXm
      have HSG := HSGm
      have HSH := HSGm
      have HGH := HGHm
      obtain ⟨q, hq⟩ : ∃ q, sameG (x8.1, t8.data.toList, x8.2.2) (x8.1, tl.data.toList, x8.2.2) = q := ⟨_, rfl⟩
      have hgz := size_of_list (t := t8) rfl HGG.out.small.1
      have hhz := size_of_list (t := tl) rfl HGH.out.small.1
      have SM := hide (gSame_any x8.1 x8.1 t8 tl x8.2.2 x8.2.2 A8 A8 c8 c8 hgz hhz HGG.out.small.2 HGH.out.small.2 q hq wm (HMX.out.below HBX.out) ((Sl.ok RRdn.ok).lt HSG.out) ((Sl.ok RRdn.ok).lt HSH.out))
      have HQ := hide hq
      obtain ⟨a0, a1, a2, -, -, -⟩ := HG4.out.facts
      obtain ⟨b0, b1, b2, -, -, -⟩ := HG5.out.facts
      have hdX := HDX.out.lt
      clear hq
      go_wp2_with fail
      refine SM.out.mono ?_
      rintro e wY ⟨rfl, hbY⟩
      have HBY := hide (HBX.out.trans (hbY.mono HBX.out.size))
      have M4 := hide (HG4.out.below hbY)
      have M5 := hide (HG5.out.below hbY)
      have MSG := hide (show Sl RRdn 1 wY (Nd d wY.heap.size) x8.2.2 [.slice A8 x8.2.2.length c8] from (Sl.ok RRdn.ok).ex HSG.out (Ex.of_below hbY))
      have MSH := hide (show Sl RRdn 1 wY (Nd d wY.heap.size) x8.2.2 [.slice A8 x8.2.2.length c8] from (Sl.ok RRdn.ok).ex HSH.out (Ex.of_below hbY))
      have MDK := hide (HDX.out.below hbY)
      clear hbY a0 a1 a2 b0 b1 b2 SM
      cases q
      · go_wp2_with fail
        refine (awake9_any _ (HMX.out.below HBY.out)).mono ?_
        rintro e wz ⟨rfl, hbz⟩
        go_wp2_with fail
        go_ret
        exact ⟨rfl, HBY.out.trans (hbz.mono HBY.out.size)⟩
      · obtain ⟨hg0, hhg0⟩ : ∃ y : Gen, y = (x8.1, tl.data.toList, x8.2.2) := ⟨_, rfl⟩
        have HWI := hide (show ∀ c : Gen, GoodBase c → withinG (x8.1, t8.data.toList, x8.2.2) c = withinG hg0 c from fun c hc => (same_within (c := c) HGG.out HGH.out hc HQ.out).trans (congrArg (withinG · c) hhg0.symm))
        have HHG := hide hhg0
        clear hhg0
        have HSY := hide (same_symm HGG.out HGH.out HQ.out)
        have HRF := hide (same_refl HGG.out)
        go_wp2_with fail
        go_loopw [6] (fun i wr => ∃ k : Nat, k ≤ 6 ∧ i = .int .i64 k ∧ Ex d wY wr ∧ DeckAt wr d) (fun i _ => 6 - (intOf i).toNat)
        case atStart => exact ⟨0, Nat.zero_le _, rfl, Ex.refl _ _, MDK.out⟩
        case round =>
          obtain ⟨k, hk, rfl, hex, hdk⟩ := hrel
          obtain ⟨wi, rfl⟩ : ∃ wi : World, wi = wr := ⟨_, rfl⟩
          by_cases hk6 : k < 6
          · have hk6' : (k : Int) < 6 := by omega
            have HEX := hide hex
            have HDK := hide hdk
            clear hex hdk
            go_wp2_with fail
            refine (Base_any d wi HDK.out).mono ?_
            rintro e wB ⟨cg, tc, Ac, cc, hgc, htc, rfl, hslc, hdkB, hexB⟩
            have hdi := HDK.out.lt
            have hzi := HEX.out.size
            have hzB := hexB.size
            have hexYB : Ex d wY wB := HEX.out.trans hexB
            obtain ⟨wC, hwC⟩ : ∃ wC, wC = wB.alloc (.cells #[.int .i64 cg.1, .string tc, .slice Ac cg.2.2.length cc] 32) := ⟨_, rfl⟩
            obtain ⟨g7, hg7⟩ : ∃ g, g = wB.heap.size := ⟨_, rfl⟩
            have hexYC : Ex d wY wC := by rw [hwC]; exact hexYB.alloc _
            have hgb7 : GB g7 cg.1 tc (.slice Ac cg.2.2.length cc) wC := by rw [hwC, hg7]; exact heap_alloc_new wB _
            have hbC : Below w.heap.size w wC := Ex.below HBY.out HBY.out.size hwd hexYC
            have hcC : Sl RRdn 1 wC (Lt wC.heap.size) cg.2.2 [.slice Ac cg.2.2.length cc] := (Sl.ok RRdn.ok).mono hslc (fun j hj => by rw [hwC]; exact Below.heap_alloc _ _ j hj.2) (fun j hj => by have := hj.2; show j < _; rw [hwC]; simp; omega)
            have hgC : Sl RRdn 1 wC (Lt wC.heap.size) x8.2.2 [.slice A8 x8.2.2.length c8] := (Sl.ok RRdn.ok).lt ((Sl.ok RRdn.ok).ex MSG.out hexYC)
            have hhC : Sl RRdn 1 wC (Lt wC.heap.size) x8.2.2 [.slice A8 x8.2.2.length c8] := (Sl.ok RRdn.ok).lt ((Sl.ok RRdn.ok).ex MSH.out hexYC)
            obtain ⟨q, hq⟩ : ∃ q, withinG (x8.1, t8.data.toList, x8.2.2) (cg.1, tc.data.toList, cg.2.2) = q := ⟨_, rfl⟩
            have hce : (cg.1, tc.data.toList, cg.2.2) = cg := by rw [htc]
            have hq2 : withinG (x8.1, tl.data.toList, x8.2.2) (cg.1, tc.data.toList, cg.2.2) = q := by
              rw [← HHG.out, hce]; rw [hce] at hq; exact (HWI.out cg hgc).symm.trans hq
            have htz := size_of_list htc hgc.small.1
            have HDKC := hide (show DeckAt wC d by rw [hwC]; exact hdkB.alloc _)
            have HEXC := hide hexYC
            have hmC := HMX.out.below hbC
            have C1 := hide (fun W (h1 : W.cell? ⟨g4, 0, none⟩ = some (.int .i64 x8.1)) (h2 : W.cell? ⟨g4, 1, none⟩ = some (.string t8)) (h3 : W.cell? ⟨g4, 2, none⟩ = some (.slice A8 x8.2.2.length c8)) (h4 : W.cell? ⟨g5, 0, none⟩ = some (.int .i64 x8.1)) (h5 : W.cell? ⟨g5, 1, none⟩ = some (.string tl)) (h6 : W.cell? ⟨g5, 2, none⟩ = some (.slice A8 x8.2.2.length c8)) (h7 : W.cell? ⟨g7, 0, none⟩ = some (.int .i64 cg.1)) (h8 : W.cell? ⟨g7, 1, none⟩ = some (.string tc)) (h9 : W.cell? ⟨g7, 2, none⟩ = some (.slice Ac cg.2.2.length cc)) (h10 : Below wC.heap.size wC W) => (gWithin_any x8.1 cg.1 t8 tc x8.2.2 cg.2.2 A8 Ac c8 cc hgz htz HGG.out.small.2 hgc.small.2 q hq W (hmC.below h10) ((Sl.ok RRdn.ok).below hgC h10) ((Sl.ok RRdn.ok).below hcC h10)).mono (R' := fun e W' => e = .returned (.bool q) ∧ W'.cell? ⟨g4, 0, none⟩ = some (.int .i64 x8.1) ∧ W'.cell? ⟨g4, 1, none⟩ = some (.string t8) ∧ W'.cell? ⟨g4, 2, none⟩ = some (.slice A8 x8.2.2.length c8) ∧ W'.cell? ⟨g5, 0, none⟩ = some (.int .i64 x8.1) ∧ W'.cell? ⟨g5, 1, none⟩ = some (.string tl) ∧ W'.cell? ⟨g5, 2, none⟩ = some (.slice A8 x8.2.2.length c8) ∧ W'.cell? ⟨g7, 0, none⟩ = some (.int .i64 cg.1) ∧ W'.cell? ⟨g7, 1, none⟩ = some (.string tc) ∧ W'.cell? ⟨g7, 2, none⟩ = some (.slice Ac cg.2.2.length cc) ∧ Below wC.heap.size wC W') fun _ _ ⟨he, hb9⟩ => ⟨he, cell_grows hb9 _ _ h1, cell_grows hb9 _ _ h2, cell_grows hb9 _ _ h3, cell_grows hb9 _ _ h4, cell_grows hb9 _ _ h5, cell_grows hb9 _ _ h6, cell_grows hb9 _ _ h7, cell_grows hb9 _ _ h8, cell_grows hb9 _ _ h9, h10.trans (hb9.mono h10.size)⟩)
            have C2 := hide (fun W (h1 : W.cell? ⟨g4, 0, none⟩ = some (.int .i64 x8.1)) (h2 : W.cell? ⟨g4, 1, none⟩ = some (.string t8)) (h3 : W.cell? ⟨g4, 2, none⟩ = some (.slice A8 x8.2.2.length c8)) (h4 : W.cell? ⟨g5, 0, none⟩ = some (.int .i64 x8.1)) (h5 : W.cell? ⟨g5, 1, none⟩ = some (.string tl)) (h6 : W.cell? ⟨g5, 2, none⟩ = some (.slice A8 x8.2.2.length c8)) (h7 : W.cell? ⟨g7, 0, none⟩ = some (.int .i64 cg.1)) (h8 : W.cell? ⟨g7, 1, none⟩ = some (.string tc)) (h9 : W.cell? ⟨g7, 2, none⟩ = some (.slice Ac cg.2.2.length cc)) (h10 : Below wC.heap.size wC W) => (gWithin_any x8.1 cg.1 tl tc x8.2.2 cg.2.2 A8 Ac c8 cc hhz htz HGH.out.small.2 hgc.small.2 q hq2 W (hmC.below h10) ((Sl.ok RRdn.ok).below hhC h10) ((Sl.ok RRdn.ok).below hcC h10)).mono (R' := fun e W' => e = .returned (.bool q) ∧ W'.cell? ⟨g4, 0, none⟩ = some (.int .i64 x8.1) ∧ W'.cell? ⟨g4, 1, none⟩ = some (.string t8) ∧ W'.cell? ⟨g4, 2, none⟩ = some (.slice A8 x8.2.2.length c8) ∧ W'.cell? ⟨g5, 0, none⟩ = some (.int .i64 x8.1) ∧ W'.cell? ⟨g5, 1, none⟩ = some (.string tl) ∧ W'.cell? ⟨g5, 2, none⟩ = some (.slice A8 x8.2.2.length c8) ∧ W'.cell? ⟨g7, 0, none⟩ = some (.int .i64 cg.1) ∧ W'.cell? ⟨g7, 1, none⟩ = some (.string tc) ∧ W'.cell? ⟨g7, 2, none⟩ = some (.slice Ac cg.2.2.length cc) ∧ Below wC.heap.size wC W') fun _ _ ⟨he, hb9⟩ => ⟨he, cell_grows hb9 _ _ h1, cell_grows hb9 _ _ h2, cell_grows hb9 _ _ h3, cell_grows hb9 _ _ h4, cell_grows hb9 _ _ h5, cell_grows hb9 _ _ h6, cell_grows hb9 _ _ h7, cell_grows hb9 _ _ h8, cell_grows hb9 _ _ h9, h10.trans (hb9.mono h10.size)⟩)
            obtain ⟨f1, f2, f3, -, -, -⟩ := (M4.out.ex hexYC (by omega)).facts
            obtain ⟨f4, f5, f6, -, -, -⟩ := (M5.out.ex hexYC (by omega)).facts
            obtain ⟨f7, f8, f9, -, -, -⟩ := hgb7.facts
            have f10 : Below wC.heap.size wC wC := Below.refl _ _
            have f1d : wC.drew.cell? ⟨g4, 0, none⟩ = some (.int .i64 x8.1) := f1
            have f2d : wC.drew.cell? ⟨g4, 1, none⟩ = some (.string t8) := f2
            have f3d : wC.drew.cell? ⟨g4, 2, none⟩ = some (.slice A8 x8.2.2.length c8) := f3
            have f4d : wC.drew.cell? ⟨g5, 0, none⟩ = some (.int .i64 x8.1) := f4
            have f5d : wC.drew.cell? ⟨g5, 1, none⟩ = some (.string tl) := f5
            have f6d : wC.drew.cell? ⟨g5, 2, none⟩ = some (.slice A8 x8.2.2.length c8) := f6
            have f7d : wC.drew.cell? ⟨g7, 0, none⟩ = some (.int .i64 cg.1) := f7
            have f8d : wC.drew.cell? ⟨g7, 1, none⟩ = some (.string tc) := f8
            have f9d : wC.drew.cell? ⟨g7, 2, none⟩ = some (.slice Ac cg.2.2.length cc) := f9
            have f10d : Below wC.heap.size wC wC.drew := f10.drew
            have t1 : (q != q) = false := by simp
            have HWC := hide hwC
            have HG7 := hide hg7
            clear hgc htc hslc hdkB hexB hdi hzi hzB hexYB hwC hg7 hexYC hgb7 hbC hcC hgC hhC hq hce hq2 htz hmC
            go_upto_region 13 with (fail)
            rw [← HWC.out, ← HG7.out]
            go_region_held3 (fun W => W.cell? ⟨g4, 0, none⟩ = some (.int .i64 x8.1) ∧ W.cell? ⟨g4, 1, none⟩ = some (.string t8) ∧ W.cell? ⟨g4, 2, none⟩ = some (.slice A8 x8.2.2.length c8) ∧ W.cell? ⟨g5, 0, none⟩ = some (.int .i64 x8.1) ∧ W.cell? ⟨g5, 1, none⟩ = some (.string tl) ∧ W.cell? ⟨g5, 2, none⟩ = some (.slice A8 x8.2.2.length c8) ∧ W.cell? ⟨g7, 0, none⟩ = some (.int .i64 cg.1) ∧ W.cell? ⟨g7, 1, none⟩ = some (.string tc) ∧ W.cell? ⟨g7, 2, none⟩ = some (.slice Ac cg.2.2.length cc) ∧ Below wC.heap.size wC W)
              (first | exact ⟨hs1, hs2, hs3, hs4, hs5, hs6, hs7, hs8, hs9, hs10⟩ | exact ⟨f1, f2, f3, f4, f5, f6, f7, f8, f9, f10⟩ | exact ⟨f1d, f2d, f3d, f4d, f5d, f6d, f7d, f8d, f9d, f10d⟩)
              (first
                | (go_at_call 37; (first | (with_reducible refine (C1.out _ hs1 hs2 hs3 hs4 hs5 hs6 hs7 hs8 hs9 hs10).mono ?_) | (with_reducible refine (C2.out _ hs1 hs2 hs3 hs4 hs5 hs6 hs7 hs8 hs9 hs10).mono ?_) | (with_reducible refine (C1.out wC.drew f1d f2d f3d f4d f5d f6d f7d f8d f9d f10d).mono ?_) | (with_reducible refine (C2.out wC.drew f1d f2d f3d f4d f5d f6d f7d f8d f9d f10d).mono ?_) | fail); rintro e wn ⟨rfl, hs1, hs2, hs3, hs4, hs5, hs6, hs7, hs8, hs9, hs10⟩)
                | fail)
            all_goals
              have HEN := hide (HEXC.out.then_ hs10)
              have HDN := hide (HDKC.out.below hs10)
              go_wp2_with fail
              go_roundw
              case rel => exact ⟨k + 1, by omega, by go_num, HEN.out, HDN.out⟩
              case measure => (simp [intOf] <;> omega)
          · have hbI : Below w.heap.size w wi := Ex.below HBY.out HBY.out.size hwd hex
            have HBI := hide hbI
            have N4 := hide (M4.out.ex hex (by omega))
            have N5 := hide (M5.out.ex hex (by omega))
            have NSG := hide (show Sl RRdn 1 wi (Lt wi.heap.size) x8.2.2 [.slice A8 x8.2.2.length c8] from (Sl.ok RRdn.ok).lt ((Sl.ok RRdn.ok).ex MSG.out hex))
            have NSH := hide (show Sl RRdn 1 wi (Lt wi.heap.size) x8.2.2 [.slice A8 x8.2.2.length c8] from (Sl.ok RRdn.ok).lt ((Sl.ok RRdn.ok).ex MSH.out hex))
            clear hex hdk hbI
            go_wp2_with fail
            refine (awake9_any _ (HMX.out.below HBI.out)).mono ?_
            rintro e wz ⟨rfl, hbz⟩
            have HBZ := hide (HBI.out.trans (hbz.mono HBI.out.size))
            have HZ := hide hbz
            obtain ⟨a0, a1, a2, -, -, -⟩ := (N4.out.below hbz).facts
            obtain ⟨b0, b1, b2, -, -, -⟩ := (N5.out.below hbz).facts
            clear hbz
            go_wp2_with fail
            refine (gSame_any x8.1 x8.1 tl t8 x8.2.2 x8.2.2 A8 A8 c8 c8 hhz hgz HGH.out.small.2 HGG.out.small.2 true HSY.out wz (HMX.out.below HBZ.out) ((Sl.ok RRdn.ok).below NSH.out HZ.out) ((Sl.ok RRdn.ok).below NSG.out HZ.out)).mono ?_
            rintro e wq ⟨rfl, hbq⟩
            have HBQ := hide (HBZ.out.trans (hbq.mono HBZ.out.size))
            have HZ2 := hide (HZ.out.trans (hbq.mono HZ.out.size))
            have a0 := cell_grows hbq _ _ a0
            have a1 := cell_grows hbq _ _ a1
            have a2 := cell_grows hbq _ _ a2
            clear hbq b0 b1 b2
            go_wp2_with fail
            refine (gSame_any x8.1 x8.1 t8 t8 x8.2.2 x8.2.2 A8 A8 c8 c8 hgz hgz HGG.out.small.2 HGG.out.small.2 true HRF.out wq (HMX.out.below HBQ.out) ((Sl.ok RRdn.ok).below NSG.out HZ2.out) ((Sl.ok RRdn.ok).below NSG.out HZ2.out)).mono ?_
            rintro e wp ⟨rfl, hbp⟩
            have HBP := hide (HBQ.out.trans (hbp.mono HBQ.out.size))
            clear hbp a0 a1 a2
            go_wp2_with fail
            go_ret
            exact ⟨rfl, HBP.out⟩
    · have t2 : (x8.1 == 2) = false := by simpa using k2
      have HGH := hide (show GoodH (x8.1, t8.data.toList, x8.2.2) from .inl HGG.out)
      have HSH := HSG
      clear k2
      go_upto_region 7 with (fail)
      clear a0 a1 a2 b0 b1 b2 bf0 bf1 bf2
      obtain ⟨q, hq⟩ : ∃ q, sameG (x8.1, t8.data.toList, x8.2.2) (x8.1, t8.data.toList, x8.2.2) = q := ⟨_, rfl⟩
      have hgz := size_of_list (t := t8) rfl HGG.out.small.1
      have hhz := size_of_list (t := t8) rfl HGH.out.small.1
      have SM := hide (gSame_any x8.1 x8.1 t8 t8 x8.2.2 x8.2.2 A8 A8 c8 c8 hgz hhz HGG.out.small.2 HGH.out.small.2 q hq w9 (HMX.out.below HBX.out) ((Sl.ok RRdn.ok).lt HSG.out) ((Sl.ok RRdn.ok).lt HSH.out))
      have HQ := hide hq
      obtain ⟨a0, a1, a2, -, -, -⟩ := HG4.out.facts
      obtain ⟨b0, b1, b2, -, -, -⟩ := HG5.out.facts
      have hdX := HDX.out.lt
      clear hq
      go_wp2_with fail
      refine SM.out.mono ?_
      rintro e wY ⟨rfl, hbY⟩
      have HBY := hide (HBX.out.trans (hbY.mono HBX.out.size))
      have M4 := hide (HG4.out.below hbY)
      have M5 := hide (HG5.out.below hbY)
      have MSG := hide (show Sl RRdn 1 wY (Nd d wY.heap.size) x8.2.2 [.slice A8 x8.2.2.length c8] from (Sl.ok RRdn.ok).ex HSG.out (Ex.of_below hbY))
      have MSH := hide (show Sl RRdn 1 wY (Nd d wY.heap.size) x8.2.2 [.slice A8 x8.2.2.length c8] from (Sl.ok RRdn.ok).ex HSH.out (Ex.of_below hbY))
      have MDK := hide (HDX.out.below hbY)
      clear hbY a0 a1 a2 b0 b1 b2 SM
      cases q
      · go_wp2_with fail
        refine (awake9_any _ (HMX.out.below HBY.out)).mono ?_
        rintro e wz ⟨rfl, hbz⟩
        go_wp2_with fail
        go_ret
        exact ⟨rfl, HBY.out.trans (hbz.mono HBY.out.size)⟩
      · obtain ⟨hg0, hhg0⟩ : ∃ y : Gen, y = (x8.1, t8.data.toList, x8.2.2) := ⟨_, rfl⟩
        have HWI := hide (show ∀ c : Gen, GoodBase c → withinG (x8.1, t8.data.toList, x8.2.2) c = withinG hg0 c from fun c hc => (same_within (c := c) HGG.out HGH.out hc HQ.out).trans (congrArg (withinG · c) hhg0.symm))
        have HHG := hide hhg0
        clear hhg0
        have HSY := hide (same_symm HGG.out HGH.out HQ.out)
        have HRF := hide (same_refl HGG.out)
        go_wp2_with fail
        go_loopw [6] (fun i wr => ∃ k : Nat, k ≤ 6 ∧ i = .int .i64 k ∧ Ex d wY wr ∧ DeckAt wr d) (fun i _ => 6 - (intOf i).toNat)
        case atStart => exact ⟨0, Nat.zero_le _, rfl, Ex.refl _ _, MDK.out⟩
        case round =>
          obtain ⟨k, hk, rfl, hex, hdk⟩ := hrel
          obtain ⟨wi, rfl⟩ : ∃ wi : World, wi = wr := ⟨_, rfl⟩
          by_cases hk6 : k < 6
          · have hk6' : (k : Int) < 6 := by omega
            have HEX := hide hex
            have HDK := hide hdk
            clear hex hdk
            go_wp2_with fail
            refine (Base_any d wi HDK.out).mono ?_
            rintro e wB ⟨cg, tc, Ac, cc, hgc, htc, rfl, hslc, hdkB, hexB⟩
            have hdi := HDK.out.lt
            have hzi := HEX.out.size
            have hzB := hexB.size
            have hexYB : Ex d wY wB := HEX.out.trans hexB
            obtain ⟨wC, hwC⟩ : ∃ wC, wC = wB.alloc (.cells #[.int .i64 cg.1, .string tc, .slice Ac cg.2.2.length cc] 32) := ⟨_, rfl⟩
            obtain ⟨g7, hg7⟩ : ∃ g, g = wB.heap.size := ⟨_, rfl⟩
            have hexYC : Ex d wY wC := by rw [hwC]; exact hexYB.alloc _
            have hgb7 : GB g7 cg.1 tc (.slice Ac cg.2.2.length cc) wC := by rw [hwC, hg7]; exact heap_alloc_new wB _
            have hbC : Below w.heap.size w wC := Ex.below HBY.out HBY.out.size hwd hexYC
            have hcC : Sl RRdn 1 wC (Lt wC.heap.size) cg.2.2 [.slice Ac cg.2.2.length cc] := (Sl.ok RRdn.ok).mono hslc (fun j hj => by rw [hwC]; exact Below.heap_alloc _ _ j hj.2) (fun j hj => by have := hj.2; show j < _; rw [hwC]; simp; omega)
            have hgC : Sl RRdn 1 wC (Lt wC.heap.size) x8.2.2 [.slice A8 x8.2.2.length c8] := (Sl.ok RRdn.ok).lt ((Sl.ok RRdn.ok).ex MSG.out hexYC)
            have hhC : Sl RRdn 1 wC (Lt wC.heap.size) x8.2.2 [.slice A8 x8.2.2.length c8] := (Sl.ok RRdn.ok).lt ((Sl.ok RRdn.ok).ex MSH.out hexYC)
            obtain ⟨q, hq⟩ : ∃ q, withinG (x8.1, t8.data.toList, x8.2.2) (cg.1, tc.data.toList, cg.2.2) = q := ⟨_, rfl⟩
            have hce : (cg.1, tc.data.toList, cg.2.2) = cg := by rw [htc]
            have hq2 : withinG (x8.1, t8.data.toList, x8.2.2) (cg.1, tc.data.toList, cg.2.2) = q := by
              rw [← HHG.out, hce]; rw [hce] at hq; exact (HWI.out cg hgc).symm.trans hq
            have htz := size_of_list htc hgc.small.1
            have HDKC := hide (show DeckAt wC d by rw [hwC]; exact hdkB.alloc _)
            have HEXC := hide hexYC
            have hmC := HMX.out.below hbC
            have C1 := hide (fun W (h1 : W.cell? ⟨g4, 0, none⟩ = some (.int .i64 x8.1)) (h2 : W.cell? ⟨g4, 1, none⟩ = some (.string t8)) (h3 : W.cell? ⟨g4, 2, none⟩ = some (.slice A8 x8.2.2.length c8)) (h4 : W.cell? ⟨g5, 0, none⟩ = some (.int .i64 x8.1)) (h5 : W.cell? ⟨g5, 1, none⟩ = some (.string t8)) (h6 : W.cell? ⟨g5, 2, none⟩ = some (.slice A8 x8.2.2.length c8)) (h7 : W.cell? ⟨g7, 0, none⟩ = some (.int .i64 cg.1)) (h8 : W.cell? ⟨g7, 1, none⟩ = some (.string tc)) (h9 : W.cell? ⟨g7, 2, none⟩ = some (.slice Ac cg.2.2.length cc)) (h10 : Below wC.heap.size wC W) => (gWithin_any x8.1 cg.1 t8 tc x8.2.2 cg.2.2 A8 Ac c8 cc hgz htz HGG.out.small.2 hgc.small.2 q hq W (hmC.below h10) ((Sl.ok RRdn.ok).below hgC h10) ((Sl.ok RRdn.ok).below hcC h10)).mono (R' := fun e W' => e = .returned (.bool q) ∧ W'.cell? ⟨g4, 0, none⟩ = some (.int .i64 x8.1) ∧ W'.cell? ⟨g4, 1, none⟩ = some (.string t8) ∧ W'.cell? ⟨g4, 2, none⟩ = some (.slice A8 x8.2.2.length c8) ∧ W'.cell? ⟨g5, 0, none⟩ = some (.int .i64 x8.1) ∧ W'.cell? ⟨g5, 1, none⟩ = some (.string t8) ∧ W'.cell? ⟨g5, 2, none⟩ = some (.slice A8 x8.2.2.length c8) ∧ W'.cell? ⟨g7, 0, none⟩ = some (.int .i64 cg.1) ∧ W'.cell? ⟨g7, 1, none⟩ = some (.string tc) ∧ W'.cell? ⟨g7, 2, none⟩ = some (.slice Ac cg.2.2.length cc) ∧ Below wC.heap.size wC W') fun _ _ ⟨he, hb9⟩ => ⟨he, cell_grows hb9 _ _ h1, cell_grows hb9 _ _ h2, cell_grows hb9 _ _ h3, cell_grows hb9 _ _ h4, cell_grows hb9 _ _ h5, cell_grows hb9 _ _ h6, cell_grows hb9 _ _ h7, cell_grows hb9 _ _ h8, cell_grows hb9 _ _ h9, h10.trans (hb9.mono h10.size)⟩)
            have C2 := hide (fun W (h1 : W.cell? ⟨g4, 0, none⟩ = some (.int .i64 x8.1)) (h2 : W.cell? ⟨g4, 1, none⟩ = some (.string t8)) (h3 : W.cell? ⟨g4, 2, none⟩ = some (.slice A8 x8.2.2.length c8)) (h4 : W.cell? ⟨g5, 0, none⟩ = some (.int .i64 x8.1)) (h5 : W.cell? ⟨g5, 1, none⟩ = some (.string t8)) (h6 : W.cell? ⟨g5, 2, none⟩ = some (.slice A8 x8.2.2.length c8)) (h7 : W.cell? ⟨g7, 0, none⟩ = some (.int .i64 cg.1)) (h8 : W.cell? ⟨g7, 1, none⟩ = some (.string tc)) (h9 : W.cell? ⟨g7, 2, none⟩ = some (.slice Ac cg.2.2.length cc)) (h10 : Below wC.heap.size wC W) => (gWithin_any x8.1 cg.1 t8 tc x8.2.2 cg.2.2 A8 Ac c8 cc hhz htz HGH.out.small.2 hgc.small.2 q hq2 W (hmC.below h10) ((Sl.ok RRdn.ok).below hhC h10) ((Sl.ok RRdn.ok).below hcC h10)).mono (R' := fun e W' => e = .returned (.bool q) ∧ W'.cell? ⟨g4, 0, none⟩ = some (.int .i64 x8.1) ∧ W'.cell? ⟨g4, 1, none⟩ = some (.string t8) ∧ W'.cell? ⟨g4, 2, none⟩ = some (.slice A8 x8.2.2.length c8) ∧ W'.cell? ⟨g5, 0, none⟩ = some (.int .i64 x8.1) ∧ W'.cell? ⟨g5, 1, none⟩ = some (.string t8) ∧ W'.cell? ⟨g5, 2, none⟩ = some (.slice A8 x8.2.2.length c8) ∧ W'.cell? ⟨g7, 0, none⟩ = some (.int .i64 cg.1) ∧ W'.cell? ⟨g7, 1, none⟩ = some (.string tc) ∧ W'.cell? ⟨g7, 2, none⟩ = some (.slice Ac cg.2.2.length cc) ∧ Below wC.heap.size wC W') fun _ _ ⟨he, hb9⟩ => ⟨he, cell_grows hb9 _ _ h1, cell_grows hb9 _ _ h2, cell_grows hb9 _ _ h3, cell_grows hb9 _ _ h4, cell_grows hb9 _ _ h5, cell_grows hb9 _ _ h6, cell_grows hb9 _ _ h7, cell_grows hb9 _ _ h8, cell_grows hb9 _ _ h9, h10.trans (hb9.mono h10.size)⟩)
            obtain ⟨f1, f2, f3, -, -, -⟩ := (M4.out.ex hexYC (by omega)).facts
            obtain ⟨f4, f5, f6, -, -, -⟩ := (M5.out.ex hexYC (by omega)).facts
            obtain ⟨f7, f8, f9, -, -, -⟩ := hgb7.facts
            have f10 : Below wC.heap.size wC wC := Below.refl _ _
            have f1d : wC.drew.cell? ⟨g4, 0, none⟩ = some (.int .i64 x8.1) := f1
            have f2d : wC.drew.cell? ⟨g4, 1, none⟩ = some (.string t8) := f2
            have f3d : wC.drew.cell? ⟨g4, 2, none⟩ = some (.slice A8 x8.2.2.length c8) := f3
            have f4d : wC.drew.cell? ⟨g5, 0, none⟩ = some (.int .i64 x8.1) := f4
            have f5d : wC.drew.cell? ⟨g5, 1, none⟩ = some (.string t8) := f5
            have f6d : wC.drew.cell? ⟨g5, 2, none⟩ = some (.slice A8 x8.2.2.length c8) := f6
            have f7d : wC.drew.cell? ⟨g7, 0, none⟩ = some (.int .i64 cg.1) := f7
            have f8d : wC.drew.cell? ⟨g7, 1, none⟩ = some (.string tc) := f8
            have f9d : wC.drew.cell? ⟨g7, 2, none⟩ = some (.slice Ac cg.2.2.length cc) := f9
            have f10d : Below wC.heap.size wC wC.drew := f10.drew
            have t1 : (q != q) = false := by simp
            have HWC := hide hwC
            have HG7 := hide hg7
            clear hgc htc hslc hdkB hexB hdi hzi hzB hexYB hwC hg7 hexYC hgb7 hbC hcC hgC hhC hq hce hq2 htz hmC
            go_upto_region 13 with (fail)
            rw [← HWC.out, ← HG7.out]
            go_region_held3 (fun W => W.cell? ⟨g4, 0, none⟩ = some (.int .i64 x8.1) ∧ W.cell? ⟨g4, 1, none⟩ = some (.string t8) ∧ W.cell? ⟨g4, 2, none⟩ = some (.slice A8 x8.2.2.length c8) ∧ W.cell? ⟨g5, 0, none⟩ = some (.int .i64 x8.1) ∧ W.cell? ⟨g5, 1, none⟩ = some (.string t8) ∧ W.cell? ⟨g5, 2, none⟩ = some (.slice A8 x8.2.2.length c8) ∧ W.cell? ⟨g7, 0, none⟩ = some (.int .i64 cg.1) ∧ W.cell? ⟨g7, 1, none⟩ = some (.string tc) ∧ W.cell? ⟨g7, 2, none⟩ = some (.slice Ac cg.2.2.length cc) ∧ Below wC.heap.size wC W)
              (first | exact ⟨hs1, hs2, hs3, hs4, hs5, hs6, hs7, hs8, hs9, hs10⟩ | exact ⟨f1, f2, f3, f4, f5, f6, f7, f8, f9, f10⟩ | exact ⟨f1d, f2d, f3d, f4d, f5d, f6d, f7d, f8d, f9d, f10d⟩)
              (first
                | (go_at_call 37; (first | (with_reducible refine (C1.out _ hs1 hs2 hs3 hs4 hs5 hs6 hs7 hs8 hs9 hs10).mono ?_) | (with_reducible refine (C2.out _ hs1 hs2 hs3 hs4 hs5 hs6 hs7 hs8 hs9 hs10).mono ?_) | (with_reducible refine (C1.out wC.drew f1d f2d f3d f4d f5d f6d f7d f8d f9d f10d).mono ?_) | (with_reducible refine (C2.out wC.drew f1d f2d f3d f4d f5d f6d f7d f8d f9d f10d).mono ?_) | fail); rintro e wn ⟨rfl, hs1, hs2, hs3, hs4, hs5, hs6, hs7, hs8, hs9, hs10⟩)
                | fail)
            all_goals
              have HEN := hide (HEXC.out.then_ hs10)
              have HDN := hide (HDKC.out.below hs10)
              go_wp2_with fail
              go_roundw
              case rel => exact ⟨k + 1, by omega, by go_num, HEN.out, HDN.out⟩
              case measure => (simp [intOf] <;> omega)
          · have hbI : Below w.heap.size w wi := Ex.below HBY.out HBY.out.size hwd hex
            have HBI := hide hbI
            have N4 := hide (M4.out.ex hex (by omega))
            have N5 := hide (M5.out.ex hex (by omega))
            have NSG := hide (show Sl RRdn 1 wi (Lt wi.heap.size) x8.2.2 [.slice A8 x8.2.2.length c8] from (Sl.ok RRdn.ok).lt ((Sl.ok RRdn.ok).ex MSG.out hex))
            have NSH := hide (show Sl RRdn 1 wi (Lt wi.heap.size) x8.2.2 [.slice A8 x8.2.2.length c8] from (Sl.ok RRdn.ok).lt ((Sl.ok RRdn.ok).ex MSH.out hex))
            clear hex hdk hbI
            go_wp2_with fail
            refine (awake9_any _ (HMX.out.below HBI.out)).mono ?_
            rintro e wz ⟨rfl, hbz⟩
            have HBZ := hide (HBI.out.trans (hbz.mono HBI.out.size))
            have HZ := hide hbz
            obtain ⟨a0, a1, a2, -, -, -⟩ := (N4.out.below hbz).facts
            obtain ⟨b0, b1, b2, -, -, -⟩ := (N5.out.below hbz).facts
            clear hbz
            go_wp2_with fail
            refine (gSame_any x8.1 x8.1 t8 t8 x8.2.2 x8.2.2 A8 A8 c8 c8 hhz hgz HGH.out.small.2 HGG.out.small.2 true HSY.out wz (HMX.out.below HBZ.out) ((Sl.ok RRdn.ok).below NSH.out HZ.out) ((Sl.ok RRdn.ok).below NSG.out HZ.out)).mono ?_
            rintro e wq ⟨rfl, hbq⟩
            have HBQ := hide (HBZ.out.trans (hbq.mono HBZ.out.size))
            have HZ2 := hide (HZ.out.trans (hbq.mono HZ.out.size))
            have a0 := cell_grows hbq _ _ a0
            have a1 := cell_grows hbq _ _ a1
            have a2 := cell_grows hbq _ _ a2
            clear hbq b0 b1 b2
            go_wp2_with fail
            refine (gSame_any x8.1 x8.1 t8 t8 x8.2.2 x8.2.2 A8 A8 c8 c8 hgz hgz HGG.out.small.2 HGG.out.small.2 true HRF.out wq (HMX.out.below HBQ.out) ((Sl.ok RRdn.ok).below NSG.out HZ2.out) ((Sl.ok RRdn.ok).below NSG.out HZ2.out)).mono ?_
            rintro e wp ⟨rfl, hbp⟩
            have HBP := hide (HBQ.out.trans (hbp.mono HBQ.out.size))
            clear hbp a0 a1 a2
            go_wp2_with fail
            go_ret
            exact ⟨rfl, HBP.out⟩
  · have t0 : ((v : Int) == 1) = false := beq_false_of_ne (by omega)
    have HG4 := J4
    have HG5 := J5
    have HBX := JB
    have HDX := JDK
    have HSG := hide (show Sl RRdn 1 w8 (Nd d w8.heap.size) x8.2.2 [.slice A8 x8.2.2.length c8] from (Sl.ok RRdn.ok).mono JS8.out (fun _ _ => rfl) (fun j hj => ⟨by have := hj.1; omega, hj.2⟩))
    have HSH := hide (show Sl RRdn 1 w8 (Nd d w8.heap.size) x9.2.2 [.slice A9 x9.2.2.length c9] from (Sl.ok RRdn.ok).mono JS9.out (fun _ _ => rfl) (fun j hj => ⟨by have := hj.1; omega, hj.2⟩))
    have HGH := hide (show GoodH (x9.1, t9.data.toList, x9.2.2) from .inl HG9.out)
    clear v1 hv
    go_upto_region 7 with (fail)
    clear t0
    obtain ⟨q, hq⟩ : ∃ q, sameG (x8.1, t8.data.toList, x8.2.2) (x9.1, t9.data.toList, x9.2.2) = q := ⟨_, rfl⟩
    have hgz := size_of_list (t := t8) rfl HGG.out.small.1
    have hhz := size_of_list (t := t9) rfl HGH.out.small.1
    have SM := hide (gSame_any x8.1 x9.1 t8 t9 x8.2.2 x9.2.2 A8 A9 c8 c9 hgz hhz HGG.out.small.2 HGH.out.small.2 q hq w8 (HMX.out.below HBX.out) ((Sl.ok RRdn.ok).lt HSG.out) ((Sl.ok RRdn.ok).lt HSH.out))
    have HQ := hide hq
    obtain ⟨a0, a1, a2, -, -, -⟩ := HG4.out.facts
    obtain ⟨b0, b1, b2, -, -, -⟩ := HG5.out.facts
    have hdX := HDX.out.lt
    clear hq
    go_wp2_with fail
    refine SM.out.mono ?_
    rintro e wY ⟨rfl, hbY⟩
    have HBY := hide (HBX.out.trans (hbY.mono HBX.out.size))
    have M4 := hide (HG4.out.below hbY)
    have M5 := hide (HG5.out.below hbY)
    have MSG := hide (show Sl RRdn 1 wY (Nd d wY.heap.size) x8.2.2 [.slice A8 x8.2.2.length c8] from (Sl.ok RRdn.ok).ex HSG.out (Ex.of_below hbY))
    have MSH := hide (show Sl RRdn 1 wY (Nd d wY.heap.size) x9.2.2 [.slice A9 x9.2.2.length c9] from (Sl.ok RRdn.ok).ex HSH.out (Ex.of_below hbY))
    have MDK := hide (HDX.out.below hbY)
    clear hbY a0 a1 a2 b0 b1 b2 SM
    cases q
    · go_wp2_with fail
      refine (awake9_any _ (HMX.out.below HBY.out)).mono ?_
      rintro e wz ⟨rfl, hbz⟩
      go_wp2_with fail
      go_ret
      exact ⟨rfl, HBY.out.trans (hbz.mono HBY.out.size)⟩
    · obtain ⟨hg0, hhg0⟩ : ∃ y : Gen, y = (x9.1, t9.data.toList, x9.2.2) := ⟨_, rfl⟩
      have HWI := hide (show ∀ c : Gen, GoodBase c → withinG (x8.1, t8.data.toList, x8.2.2) c = withinG hg0 c from fun c hc => (same_within (c := c) HGG.out HGH.out hc HQ.out).trans (congrArg (withinG · c) hhg0.symm))
      have HHG := hide hhg0
      clear hhg0
      have HSY := hide (same_symm HGG.out HGH.out HQ.out)
      have HRF := hide (same_refl HGG.out)
      go_wp2_with fail
      go_loopw [6] (fun i wr => ∃ k : Nat, k ≤ 6 ∧ i = .int .i64 k ∧ Ex d wY wr ∧ DeckAt wr d) (fun i _ => 6 - (intOf i).toNat)
      case atStart => exact ⟨0, Nat.zero_le _, rfl, Ex.refl _ _, MDK.out⟩
      case round =>
        obtain ⟨k, hk, rfl, hex, hdk⟩ := hrel
        obtain ⟨wi, rfl⟩ : ∃ wi : World, wi = wr := ⟨_, rfl⟩
        by_cases hk6 : k < 6
        · have hk6' : (k : Int) < 6 := by omega
          have HEX := hide hex
          have HDK := hide hdk
          clear hex hdk
          go_wp2_with fail
          refine (Base_any d wi HDK.out).mono ?_
          rintro e wB ⟨cg, tc, Ac, cc, hgc, htc, rfl, hslc, hdkB, hexB⟩
          have hdi := HDK.out.lt
          have hzi := HEX.out.size
          have hzB := hexB.size
          have hexYB : Ex d wY wB := HEX.out.trans hexB
          obtain ⟨wC, hwC⟩ : ∃ wC, wC = wB.alloc (.cells #[.int .i64 cg.1, .string tc, .slice Ac cg.2.2.length cc] 32) := ⟨_, rfl⟩
          obtain ⟨g7, hg7⟩ : ∃ g, g = wB.heap.size := ⟨_, rfl⟩
          have hexYC : Ex d wY wC := by rw [hwC]; exact hexYB.alloc _
          have hgb7 : GB g7 cg.1 tc (.slice Ac cg.2.2.length cc) wC := by rw [hwC, hg7]; exact heap_alloc_new wB _
          have hbC : Below w.heap.size w wC := Ex.below HBY.out HBY.out.size hwd hexYC
          have hcC : Sl RRdn 1 wC (Lt wC.heap.size) cg.2.2 [.slice Ac cg.2.2.length cc] := (Sl.ok RRdn.ok).mono hslc (fun j hj => by rw [hwC]; exact Below.heap_alloc _ _ j hj.2) (fun j hj => by have := hj.2; show j < _; rw [hwC]; simp; omega)
          have hgC : Sl RRdn 1 wC (Lt wC.heap.size) x8.2.2 [.slice A8 x8.2.2.length c8] := (Sl.ok RRdn.ok).lt ((Sl.ok RRdn.ok).ex MSG.out hexYC)
          have hhC : Sl RRdn 1 wC (Lt wC.heap.size) x9.2.2 [.slice A9 x9.2.2.length c9] := (Sl.ok RRdn.ok).lt ((Sl.ok RRdn.ok).ex MSH.out hexYC)
          obtain ⟨q, hq⟩ : ∃ q, withinG (x8.1, t8.data.toList, x8.2.2) (cg.1, tc.data.toList, cg.2.2) = q := ⟨_, rfl⟩
          have hce : (cg.1, tc.data.toList, cg.2.2) = cg := by rw [htc]
          have hq2 : withinG (x9.1, t9.data.toList, x9.2.2) (cg.1, tc.data.toList, cg.2.2) = q := by
            rw [← HHG.out, hce]; rw [hce] at hq; exact (HWI.out cg hgc).symm.trans hq
          have htz := size_of_list htc hgc.small.1
          have HDKC := hide (show DeckAt wC d by rw [hwC]; exact hdkB.alloc _)
          have HEXC := hide hexYC
          have hmC := HMX.out.below hbC
          have C1 := hide (fun W (h1 : W.cell? ⟨g4, 0, none⟩ = some (.int .i64 x8.1)) (h2 : W.cell? ⟨g4, 1, none⟩ = some (.string t8)) (h3 : W.cell? ⟨g4, 2, none⟩ = some (.slice A8 x8.2.2.length c8)) (h4 : W.cell? ⟨g5, 0, none⟩ = some (.int .i64 x9.1)) (h5 : W.cell? ⟨g5, 1, none⟩ = some (.string t9)) (h6 : W.cell? ⟨g5, 2, none⟩ = some (.slice A9 x9.2.2.length c9)) (h7 : W.cell? ⟨g7, 0, none⟩ = some (.int .i64 cg.1)) (h8 : W.cell? ⟨g7, 1, none⟩ = some (.string tc)) (h9 : W.cell? ⟨g7, 2, none⟩ = some (.slice Ac cg.2.2.length cc)) (h10 : Below wC.heap.size wC W) => (gWithin_any x8.1 cg.1 t8 tc x8.2.2 cg.2.2 A8 Ac c8 cc hgz htz HGG.out.small.2 hgc.small.2 q hq W (hmC.below h10) ((Sl.ok RRdn.ok).below hgC h10) ((Sl.ok RRdn.ok).below hcC h10)).mono (R' := fun e W' => e = .returned (.bool q) ∧ W'.cell? ⟨g4, 0, none⟩ = some (.int .i64 x8.1) ∧ W'.cell? ⟨g4, 1, none⟩ = some (.string t8) ∧ W'.cell? ⟨g4, 2, none⟩ = some (.slice A8 x8.2.2.length c8) ∧ W'.cell? ⟨g5, 0, none⟩ = some (.int .i64 x9.1) ∧ W'.cell? ⟨g5, 1, none⟩ = some (.string t9) ∧ W'.cell? ⟨g5, 2, none⟩ = some (.slice A9 x9.2.2.length c9) ∧ W'.cell? ⟨g7, 0, none⟩ = some (.int .i64 cg.1) ∧ W'.cell? ⟨g7, 1, none⟩ = some (.string tc) ∧ W'.cell? ⟨g7, 2, none⟩ = some (.slice Ac cg.2.2.length cc) ∧ Below wC.heap.size wC W') fun _ _ ⟨he, hb9⟩ => ⟨he, cell_grows hb9 _ _ h1, cell_grows hb9 _ _ h2, cell_grows hb9 _ _ h3, cell_grows hb9 _ _ h4, cell_grows hb9 _ _ h5, cell_grows hb9 _ _ h6, cell_grows hb9 _ _ h7, cell_grows hb9 _ _ h8, cell_grows hb9 _ _ h9, h10.trans (hb9.mono h10.size)⟩)
          have C2 := hide (fun W (h1 : W.cell? ⟨g4, 0, none⟩ = some (.int .i64 x8.1)) (h2 : W.cell? ⟨g4, 1, none⟩ = some (.string t8)) (h3 : W.cell? ⟨g4, 2, none⟩ = some (.slice A8 x8.2.2.length c8)) (h4 : W.cell? ⟨g5, 0, none⟩ = some (.int .i64 x9.1)) (h5 : W.cell? ⟨g5, 1, none⟩ = some (.string t9)) (h6 : W.cell? ⟨g5, 2, none⟩ = some (.slice A9 x9.2.2.length c9)) (h7 : W.cell? ⟨g7, 0, none⟩ = some (.int .i64 cg.1)) (h8 : W.cell? ⟨g7, 1, none⟩ = some (.string tc)) (h9 : W.cell? ⟨g7, 2, none⟩ = some (.slice Ac cg.2.2.length cc)) (h10 : Below wC.heap.size wC W) => (gWithin_any x9.1 cg.1 t9 tc x9.2.2 cg.2.2 A9 Ac c9 cc hhz htz HGH.out.small.2 hgc.small.2 q hq2 W (hmC.below h10) ((Sl.ok RRdn.ok).below hhC h10) ((Sl.ok RRdn.ok).below hcC h10)).mono (R' := fun e W' => e = .returned (.bool q) ∧ W'.cell? ⟨g4, 0, none⟩ = some (.int .i64 x8.1) ∧ W'.cell? ⟨g4, 1, none⟩ = some (.string t8) ∧ W'.cell? ⟨g4, 2, none⟩ = some (.slice A8 x8.2.2.length c8) ∧ W'.cell? ⟨g5, 0, none⟩ = some (.int .i64 x9.1) ∧ W'.cell? ⟨g5, 1, none⟩ = some (.string t9) ∧ W'.cell? ⟨g5, 2, none⟩ = some (.slice A9 x9.2.2.length c9) ∧ W'.cell? ⟨g7, 0, none⟩ = some (.int .i64 cg.1) ∧ W'.cell? ⟨g7, 1, none⟩ = some (.string tc) ∧ W'.cell? ⟨g7, 2, none⟩ = some (.slice Ac cg.2.2.length cc) ∧ Below wC.heap.size wC W') fun _ _ ⟨he, hb9⟩ => ⟨he, cell_grows hb9 _ _ h1, cell_grows hb9 _ _ h2, cell_grows hb9 _ _ h3, cell_grows hb9 _ _ h4, cell_grows hb9 _ _ h5, cell_grows hb9 _ _ h6, cell_grows hb9 _ _ h7, cell_grows hb9 _ _ h8, cell_grows hb9 _ _ h9, h10.trans (hb9.mono h10.size)⟩)
          obtain ⟨f1, f2, f3, -, -, -⟩ := (M4.out.ex hexYC (by omega)).facts
          obtain ⟨f4, f5, f6, -, -, -⟩ := (M5.out.ex hexYC (by omega)).facts
          obtain ⟨f7, f8, f9, -, -, -⟩ := hgb7.facts
          have f10 : Below wC.heap.size wC wC := Below.refl _ _
          have f1d : wC.drew.cell? ⟨g4, 0, none⟩ = some (.int .i64 x8.1) := f1
          have f2d : wC.drew.cell? ⟨g4, 1, none⟩ = some (.string t8) := f2
          have f3d : wC.drew.cell? ⟨g4, 2, none⟩ = some (.slice A8 x8.2.2.length c8) := f3
          have f4d : wC.drew.cell? ⟨g5, 0, none⟩ = some (.int .i64 x9.1) := f4
          have f5d : wC.drew.cell? ⟨g5, 1, none⟩ = some (.string t9) := f5
          have f6d : wC.drew.cell? ⟨g5, 2, none⟩ = some (.slice A9 x9.2.2.length c9) := f6
          have f7d : wC.drew.cell? ⟨g7, 0, none⟩ = some (.int .i64 cg.1) := f7
          have f8d : wC.drew.cell? ⟨g7, 1, none⟩ = some (.string tc) := f8
          have f9d : wC.drew.cell? ⟨g7, 2, none⟩ = some (.slice Ac cg.2.2.length cc) := f9
          have f10d : Below wC.heap.size wC wC.drew := f10.drew
          have t1 : (q != q) = false := by simp
          have HWC := hide hwC
          have HG7 := hide hg7
          clear hgc htc hslc hdkB hexB hdi hzi hzB hexYB hwC hg7 hexYC hgb7 hbC hcC hgC hhC hq hce hq2 htz hmC
          go_upto_region 13 with (fail)
          rw [← HWC.out, ← HG7.out]
          go_region_held3 (fun W => W.cell? ⟨g4, 0, none⟩ = some (.int .i64 x8.1) ∧ W.cell? ⟨g4, 1, none⟩ = some (.string t8) ∧ W.cell? ⟨g4, 2, none⟩ = some (.slice A8 x8.2.2.length c8) ∧ W.cell? ⟨g5, 0, none⟩ = some (.int .i64 x9.1) ∧ W.cell? ⟨g5, 1, none⟩ = some (.string t9) ∧ W.cell? ⟨g5, 2, none⟩ = some (.slice A9 x9.2.2.length c9) ∧ W.cell? ⟨g7, 0, none⟩ = some (.int .i64 cg.1) ∧ W.cell? ⟨g7, 1, none⟩ = some (.string tc) ∧ W.cell? ⟨g7, 2, none⟩ = some (.slice Ac cg.2.2.length cc) ∧ Below wC.heap.size wC W)
            (first | exact ⟨hs1, hs2, hs3, hs4, hs5, hs6, hs7, hs8, hs9, hs10⟩ | exact ⟨f1, f2, f3, f4, f5, f6, f7, f8, f9, f10⟩ | exact ⟨f1d, f2d, f3d, f4d, f5d, f6d, f7d, f8d, f9d, f10d⟩)
            (first
              | (go_at_call 37; (first | (with_reducible refine (C1.out _ hs1 hs2 hs3 hs4 hs5 hs6 hs7 hs8 hs9 hs10).mono ?_) | (with_reducible refine (C2.out _ hs1 hs2 hs3 hs4 hs5 hs6 hs7 hs8 hs9 hs10).mono ?_) | (with_reducible refine (C1.out wC.drew f1d f2d f3d f4d f5d f6d f7d f8d f9d f10d).mono ?_) | (with_reducible refine (C2.out wC.drew f1d f2d f3d f4d f5d f6d f7d f8d f9d f10d).mono ?_) | fail); rintro e wn ⟨rfl, hs1, hs2, hs3, hs4, hs5, hs6, hs7, hs8, hs9, hs10⟩)
              | fail)
          all_goals
            have HEN := hide (HEXC.out.then_ hs10)
            have HDN := hide (HDKC.out.below hs10)
            go_wp2_with fail
            go_roundw
            case rel => exact ⟨k + 1, by omega, by go_num, HEN.out, HDN.out⟩
            case measure => (simp [intOf] <;> omega)
        · have hbI : Below w.heap.size w wi := Ex.below HBY.out HBY.out.size hwd hex
          have HBI := hide hbI
          have N4 := hide (M4.out.ex hex (by omega))
          have N5 := hide (M5.out.ex hex (by omega))
          have NSG := hide (show Sl RRdn 1 wi (Lt wi.heap.size) x8.2.2 [.slice A8 x8.2.2.length c8] from (Sl.ok RRdn.ok).lt ((Sl.ok RRdn.ok).ex MSG.out hex))
          have NSH := hide (show Sl RRdn 1 wi (Lt wi.heap.size) x9.2.2 [.slice A9 x9.2.2.length c9] from (Sl.ok RRdn.ok).lt ((Sl.ok RRdn.ok).ex MSH.out hex))
          clear hex hdk hbI
          go_wp2_with fail
          refine (awake9_any _ (HMX.out.below HBI.out)).mono ?_
          rintro e wz ⟨rfl, hbz⟩
          have HBZ := hide (HBI.out.trans (hbz.mono HBI.out.size))
          have HZ := hide hbz
          obtain ⟨a0, a1, a2, -, -, -⟩ := (N4.out.below hbz).facts
          obtain ⟨b0, b1, b2, -, -, -⟩ := (N5.out.below hbz).facts
          clear hbz
          go_wp2_with fail
          refine (gSame_any x9.1 x8.1 t9 t8 x9.2.2 x8.2.2 A9 A8 c9 c8 hhz hgz HGH.out.small.2 HGG.out.small.2 true HSY.out wz (HMX.out.below HBZ.out) ((Sl.ok RRdn.ok).below NSH.out HZ.out) ((Sl.ok RRdn.ok).below NSG.out HZ.out)).mono ?_
          rintro e wq ⟨rfl, hbq⟩
          have HBQ := hide (HBZ.out.trans (hbq.mono HBZ.out.size))
          have HZ2 := hide (HZ.out.trans (hbq.mono HZ.out.size))
          have a0 := cell_grows hbq _ _ a0
          have a1 := cell_grows hbq _ _ a1
          have a2 := cell_grows hbq _ _ a2
          clear hbq b0 b1 b2
          go_wp2_with fail
          refine (gSame_any x8.1 x8.1 t8 t8 x8.2.2 x8.2.2 A8 A8 c8 c8 hgz hgz HGG.out.small.2 HGG.out.small.2 true HRF.out wq (HMX.out.below HBQ.out) ((Sl.ok RRdn.ok).below NSG.out HZ2.out) ((Sl.ok RRdn.ok).below NSG.out HZ2.out)).mono ?_
          rintro e wp ⟨rfl, hbp⟩
          have HBP := hide (HBQ.out.trans (hbp.mono HBQ.out.size))
          clear hbp a0 a1 a2
          go_wp2_with fail
          go_ret
          exact ⟨rfl, HBP.out⟩
end Go.Proofs.YtodapmkdmkhhfaaGreatDoor
