/- The reference's SameGenerals, of lists that are the same apart from the order of attributes. -/
import Derived.Test.YtmgnihmjjijdoaaGreatDoorGHosI
import Derived.Test.YtmgnihmjjijdoaaGreatDoorNenM
import Derived.Test.YtmgnihmjjijdoaaGreatDoorGGlA
namespace Go.Proofs.YtmgnihmjjijdoaaGreatDoor
open Go.RowKit
set_option maxRecDepth 100000 in
set_option maxHeartbeats 8000000 in
theorem SameGs_any (l m : List Gen) (hlm : sameGsB l m = true) (A B : Option Addr) (c d : Nat) (w : World) (h1 : Sl RGen 3 w (Lt w.heap.size) l [.slice A l.length c]) (h2 : Sl RGen 3 w (Lt w.heap.size) m [.slice B m.length d]) :
  Calls Tryz.prog 19 #[.slice A l.length c, .slice B m.length d] w fun e w' => e = .returned (.bool true) ∧ Below w.heap.size w w' := by
 obtain ⟨hml, hat⟩ := sameGsB_at hlm
 have HAT := hide hat
 rw [← hml] at h2 ⊢
 have HML := hide hml
 clear hat hlm
 obtain ⟨-, hnc, hcm⟩ := h1.len_
 obtain ⟨-, hnc2, hcm2⟩ := h2.len_
 unfold maxLen at hcm hcm2
 have K1 := hide h1
 have K2 := hide h2
 have t0 : ((l.length : Int) != (l.length : Int)) = false := by simp
 clear h1 h2 hml
 go_enter Tryz.func19, Tryz.ntmps19
 go_wp2_with fail
 clear t0
 go_loopw [13] (fun i wr => ∃ k : Nat, k ≤ l.length ∧ i = .int .i64 k ∧ Below w.heap.size w wr) (fun i _ => l.length - (intOf i).toNat)
 case atStart => exact ⟨0, Nat.zero_le _, rfl, Below.refl _ _⟩
 case round =>
  obtain ⟨k, hk, rfl, hb⟩ := hrel
  by_cases hlt : k < l.length
  ·obtain ⟨b1, o1, t1, A1, c1, hA, hbS1, ht1, d0, d1, d2, hsl1⟩ := K1.out.genAt hlt
   obtain ⟨b2, o2, t2, A2, c2, hB, hbS2, ht2, e0, e1, e2, hsl2⟩ := K2.out.genAt (show k < m.length by have := HML.out; omega)
   subst hA hB
   have hbS1' : b1 < w.heap.size := hbS1
   have hbS2' : b2 < w.heap.size := hbS2
   have hsg := HAT.out k hlt (by have := HML.out; omega)
   obtain ⟨⟨kb, tb, nb⟩, hg⟩ : ∃ g, l[k] = g := ⟨_, rfl⟩
   obtain ⟨⟨kc, tc, nc⟩, hg2⟩ : ∃ g, m[k]'(by have := HML.out; omega) = g := ⟨_, rfl⟩
   rw [hg] at d0 d2 hsl1 ht1 hsg
   rw [hg2] at e0 e2 hsl2 ht2 hsg
   simp only [sameGB, Bool.and_eq_true, beq_iff_eq] at hsg
   simp only at d0 d2 e0 e2 hsl1 hsl2 ht1 ht2
   obtain ⟨⟨rfl, rfl⟩, hnn⟩ := hsg
   obtain rfl : t1 = t2 := ByteArray.ext (Array.toList_inj.1 (ht1.trans ht2.symm))
   have hbd : Below wr.heap.size wr wr.drew := (Below.refl _ _).drew
   have hb0 : Below wr.heap.size wr wr := Below.refl _ _
   obtain ⟨p1, hp1⟩ : ∃ p, p = o1 + k * 3 := ⟨_, rfl⟩
   obtain ⟨p2, hp2⟩ : ∃ p, p = o2 + k * 3 := ⟨_, rfl⟩
   have hs : Two6 b1 p1 b2 p2 (.int .i64 kb) (.string t1) (.slice A1 nb.length c1) (.int .i64 kb) (.string t1) (.slice A2 nc.length c2) wr wr := by
    rw [hp1, hp2]
    exact ⟨(hb.cell (p := ⟨b1, o1 + k * 3, none⟩) hbS1').trans d0, (hb.cell (p := ⟨b1, o1 + k * 3 + 1, none⟩) hbS1').trans d1, (hb.cell (p := ⟨b1, o1 + k * 3 + 2, none⟩) hbS1').trans d2, (hb.cell (p := ⟨b2, o2 + k * 3, none⟩) hbS2').trans e0, (hb.cell (p := ⟨b2, o2 + k * 3 + 1, none⟩) hbS2').trans e1, (hb.cell (p := ⟨b2, o2 + k * 3 + 2, none⟩) hbS2').trans e2, hb0⟩
   obtain ⟨f0, f1, f2, f3, f4, f5, f6⟩ := hs
   have f0d : wr.drew.cell? ⟨b1, p1, none⟩ = some (.int .i64 kb) := f0
   have f1d : wr.drew.cell? ⟨b1, p1 + 1, none⟩ = some (.string t1) := f1
   have f2d : wr.drew.cell? ⟨b1, p1 + 2, none⟩ = some (.slice A1 nb.length c1) := f2
   have f3d : wr.drew.cell? ⟨b2, p2, none⟩ = some (.int .i64 kb) := f3
   have f4d : wr.drew.cell? ⟨b2, p2 + 1, none⟩ = some (.string t1) := f4
   have f5d : wr.drew.cell? ⟨b2, p2 + 2, none⟩ = some (.slice A2 nc.length c2) := f5
   have EX := hide (fun W (h0 : W.cell? ⟨b1, p1, none⟩ = some (.int .i64 kb)) (h1 : W.cell? ⟨b1, p1 + 1, none⟩ = some (.string t1)) (h2 : W.cell? ⟨b1, p1 + 2, none⟩ = some (.slice A1 nb.length c1)) (h3 : W.cell? ⟨b2, p2, none⟩ = some (.int .i64 kb)) (h4 : W.cell? ⟨b2, p2 + 1, none⟩ = some (.string t1)) (h5 : W.cell? ⟨b2, p2 + 2, none⟩ = some (.slice A2 nc.length c2)) (h6 : Below wr.heap.size wr W) =>
    (Same_true nb nc hnn A1 A2 c1 c2 W ((Sl.ok RRdn.ok).below hsl1 (hb.trans (h6.mono hb.size))) ((Sl.ok RRdn.ok).below hsl2 (hb.trans (h6.mono hb.size)))).mono (R' := fun e W' => e = .returned (.bool true) ∧ W'.cell? ⟨b1, p1, none⟩ = some (.int .i64 kb) ∧ W'.cell? ⟨b1, p1 + 1, none⟩ = some (.string t1) ∧ W'.cell? ⟨b1, p1 + 2, none⟩ = some (.slice A1 nb.length c1) ∧ W'.cell? ⟨b2, p2, none⟩ = some (.int .i64 kb) ∧ W'.cell? ⟨b2, p2 + 1, none⟩ = some (.string t1) ∧ W'.cell? ⟨b2, p2 + 2, none⟩ = some (.slice A2 nc.length c2) ∧ Below wr.heap.size wr W')
     fun _ _ ⟨he, hb9⟩ => ⟨he, cell_grows hb9 _ _ h0, cell_grows hb9 _ _ h1, cell_grows hb9 _ _ h2, cell_grows hb9 _ _ h3, cell_grows hb9 _ _ h4, cell_grows hb9 _ _ h5, h6.trans (hb9.mono h6.size)⟩)
   have s1 : (kb != kb) = false := by simp
   have s2 : (t1.toList != t1.toList) = false := by simp
   have hk0 : (0 : Int) ≤ (k : Int) := by omega
   have hkl : (k : Int) < (l.length : Int) := by omega
   have HBW := hide hb
   clear d0 d1 d2 e0 e1 e2 hsl1 hsl2 hg hg2 hnn ht1 ht2 hb hbS1 hbS2 hbS1' hbS2'
   subst hp1 hp2
   go_upto_region 6 with (fail)
   go_region_held3 (fun W => W.cell? ⟨b1, o1 + k * 3, none⟩ = some (.int .i64 kb) ∧ W.cell? ⟨b1, o1 + k * 3 + 1, none⟩ = some (.string t1) ∧ W.cell? ⟨b1, o1 + k * 3 + 2, none⟩ = some (.slice A1 nb.length c1) ∧ W.cell? ⟨b2, o2 + k * 3, none⟩ = some (.int .i64 kb) ∧ W.cell? ⟨b2, o2 + k * 3 + 1, none⟩ = some (.string t1) ∧ W.cell? ⟨b2, o2 + k * 3 + 2, none⟩ = some (.slice A2 nc.length c2) ∧ Below wr.heap.size wr W)
    (first | exact ⟨hs1, hs2, hs3, hs4, hs5, hs6, hs7⟩ | exact ⟨f0, f1, f2, f3, f4, f5, f6⟩ | exact ⟨f0d, f1d, f2d, f3d, f4d, f5d, hbd⟩)
    (first
     | (go_at_call 50; (first | (with_reducible refine (EX.out _ hs1 hs2 hs3 hs4 hs5 hs6 hs7).mono ?_) | (with_reducible refine (EX.out wr.drew f0d f1d f2d f3d f4d f5d hbd).mono ?_) | fail); rintro e wn ⟨rfl, hs1, hs2, hs3, hs4, hs5, hs6, hs7⟩)
     | fail)
   all_goals
    have HBN := hide (HBW.out.trans (hs7.mono HBW.out.size))
    go_wp2_with fail
    go_roundw
    case rel => exact ⟨k + 1, by omega, by go_num, HBN.out⟩
    case measure => simp [intOf]; omega
  ·go_wp2_with fail
   go_ret
   exact ⟨rfl, hb⟩
end Go.Proofs.YtmgnihmjjijdoaaGreatDoor
