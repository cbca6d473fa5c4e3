/- The functions of package host: AddressWithin. -/
import Derived.Test.YtmgnihmjjijdoaaGreatDoorGHosF
import Derived.Laws.BitsAllLaws
import Derived.Test.YtmgnihmjjijdoaaGreatDoorGNamD
import Derived.Test.YtmgnihmjjijdoaaGreatDoorGNenI
import Derived.Deep.RegionHeld3
namespace Go.Proofs.YtmgnihmjjijdoaaGreatDoor
open Go.RowKit
end Go.Proofs.YtmgnihmjjijdoaaGreatDoor
namespace Go.Proofs.YtmgnihmjjijdoaaGreatDoor
open Go.RowKit
abbrev Gen := Int × List UInt8 × Name
def RGen : Rep Gen := fun w S g cs => ∃ vn, cs = [.int .i64 g.1, .string ⟨g.2.1.toArray⟩, vn] ∧ Sl RRdn 1 w S g.2.2 [vn]
theorem RGen.ok : RepOk RGen 3 := by
 refine ⟨?_, ?_, ?_⟩
 ·rintro w S x cs ⟨vn, rfl, _⟩; rfl
 ·rintro w S x cs ⟨vn, rfl, h⟩ u hu
  simp only [List.mem_cons, List.not_mem_nil, or_false] at hu
  rcases hu with rfl | rfl | rfl
  ·rfl
  ·rfl
  ·exact (Sl.ok RRdn.ok).one h _ (by simp)
 ·rintro w w' S S' x cs ⟨vn, rfl, h⟩ hk hS
  exact ⟨vn, rfl, (Sl.ok RRdn.ok).mono h hk hS⟩
def SmallG (g : Gen) : Prop := g.2.1.length ≤ 100000 ∧ SmallN g.2.2
def ofK (k : Int) : Int := if k = 1 then 0 else if k = 2 then 1 else if k = 4 then 2 else if k = 7 then 3 else 4
theorem of_any (k : Int) (w : World) : Calls Tryz.prog 27 #[.int .i64 k] w fun e w' => e = .returned (.int .i64 (ofK k)) ∧ w = w' := by
 by_cases h1 : k = 1
 ·subst h1
  go_enter Tryz.func27, Tryz.ntmps27
  go_wp2_with fail
  go_ret
  exact ⟨rfl, rfl⟩
 ·have t1 : (k == 1) = false := by simpa using h1
  by_cases h2 : k = 2
  ·subst h2
   go_enter Tryz.func27, Tryz.ntmps27
   go_wp2_with fail
   go_ret
   exact ⟨rfl, rfl⟩
  ·have t2 : (k == 2) = false := by simpa using h2
   by_cases h4 : k = 4
   ·subst h4
    go_enter Tryz.func27, Tryz.ntmps27
    go_wp2_with fail
    go_ret
    exact ⟨rfl, rfl⟩
   ·have t4 : (k == 4) = false := by simpa using h4
    by_cases h7 : k = 7
    ·subst h7
     go_enter Tryz.func27, Tryz.ntmps27
     go_wp2_with fail
     go_ret
     exact ⟨rfl, rfl⟩
    ·have t7 : (k == 7) = false := by simpa using h7
     have HK := hide (show ofK k = 4 by rw [ofK, if_neg h1, if_neg h2, if_neg h4, if_neg h7])
     rw [HK.out]
     clear h1 h2 h4 h7
     go_enter Tryz.func27, Tryz.ntmps27
     go_wp2_with fail
     go_ret
     exact ⟨rfl, rfl⟩
theorem of_v (k : Int) (r : Int) (hr : ofK k = r) (w : World) : Calls Tryz.prog 27 #[.int .i64 k] w fun e w' => e = .returned (.int .i64 r) ∧ w = w' := hr ▸ of_any k w
end Go.Proofs.YtmgnihmjjijdoaaGreatDoor
namespace Go.Proofs.YtmgnihmjjijdoaaGreatDoor
open Go.RowKit
theorem Sl.genAt {w : World} {S : Nat → Prop} {A : Option Addr} {n c : Nat} {l : List Gen} (h : Sl RGen 3 w S l [.slice A n c]) {i : Nat} (hi : i < l.length) :
    ∃ (b off : Nat) (t : ByteArray) (A' : Option Addr) (c' : Nat), A = some ⟨b, off, none⟩ ∧ S b ∧ t.data.toList = l[i].2.1 ∧ w.cell? ⟨b, off + i * 3, none⟩ = some (.int .i64 l[i].1) ∧ w.cell? ⟨b, off + i * 3 + 1, none⟩ = some (.string t) ∧
      w.cell? ⟨b, off + i * 3 + 2, none⟩ = some (.slice A' l[i].2.2.length c') ∧ Sl RRdn 1 w S l[i].2.2 [.slice A' l[i].2.2.length c'] := by
  obtain ⟨b, off, xs, hA, hb, ⟨vn, hxs, hn⟩, hh⟩ := h.at_ hi
  subst hxs
  obtain ⟨A', c', hv⟩ := hn.shape
  subst hv
  exact ⟨b, off, ⟨l[i].2.1.toArray⟩, A', c', hA, hb, rfl, hh 0 _ rfl, hh 1 _ rfl, hh 2 _ rfl, hn⟩
def SmallGs (l : List Gen) : Prop := ∀ g ∈ l, SmallG g
end Go.Proofs.YtmgnihmjjijdoaaGreatDoor
namespace Go.Proofs.YtmgnihmjjijdoaaGreatDoor
open Go.RowKit
def shortG (g : Gen) : Bool := decide (g.2.1.length ≤ 300) && shortN g.2.2
def shortGs (l : List Gen) : Bool := decide (l.length ≤ 20) && l.all shortG
theorem shortGs_small {l : List Gen} (h : shortGs l = true) : SmallGs l := fun g hg => by
 simp only [shortGs, Bool.and_eq_true, List.all_eq_true] at h
 have h1 := h.2 g hg
 simp only [shortG, Bool.and_eq_true, decide_eq_true_eq] at h1
 exact ⟨by omega, shortN_small h1.2⟩
set_option maxRecDepth 100000 in
set_option maxHeartbeats 4000000 in
theorem ShortNames_any (l : List Gen) (B : Option Addr) (d : Nat) (q : Bool) (hq : shortGs l = q) (w : World) (h2 : Sl RGen 3 w (Lt w.heap.size) l [.slice B l.length d]) :
  Calls Tryz.prog 23 #[.slice B l.length d] w fun e w' => e = .returned (.bool q) ∧ Below w.heap.size w w' := by
 have K2 := hide h2
 clear h2
 by_cases hl : l.length ≤ 20
 ·have hn20 : ¬ (20 : Int) < (l.length : Int) := by omega
  have H0 := hide (show (l.drop 0).all shortG = q by rw [← hq, shortGs, decide_eq_true hl]; rfl)
  clear hq
  go_enter Tryz.func23, Tryz.ntmps23
  go_wp2_with fail
  go_loopw [10] (fun i wr => ∃ k : Nat, k ≤ l.length ∧ i = .int .i64 k ∧ Below w.heap.size w wr ∧ Hid ((l.drop k).all shortG = q)) (fun i _ => l.length - (intOf i).toNat)
  case atStart => exact ⟨0, Nat.zero_le _, rfl, Below.refl _ _, H0⟩
  case round =>
   obtain ⟨k, hk, rfl, hb, H⟩ := hrel
   by_cases hlt : k < l.length
   ·obtain ⟨b2, o2, t2, A2, c2, hB, hbS, ht2, d0, d1, d2, hsl⟩ := K2.out.genAt hlt
    subst hB
    have hbS' : b2 < w.heap.size := hbS
    have hlt' : (k : Int) < (l.length : Int) := by omega
    have f0 := (hb.cell (p := ⟨b2, o2 + k * 3, none⟩) hbS').trans d0
    have f1 := (hb.cell (p := ⟨b2, o2 + k * 3 + 1, none⟩) hbS').trans d1
    have f2 := (hb.cell (p := ⟨b2, o2 + k * 3 + 2, none⟩) hbS').trans d2
    have hts : t2.size = l[k].2.1.length := by rw [← ht2, size_string]
    have HX := hide (show (shortG l[k] && (l.drop (k + 1)).all shortG) = q by rw [← H.out, List.drop_eq_getElem_cons hlt, List.all_cons])
    obtain ⟨g, hg⟩ : ∃ g, l[k] = g := ⟨_, rfl⟩
    rw [hg] at f0 f2 hsl HX hts
    obtain ⟨p1, hp1⟩ : ∃ p, shortN g.2.2 = p := ⟨_, rfl⟩
    have hbc : Below wr.heap.size wr (wr.alloc (.cells #[.int .i64 g.1, .string t2, .slice A2 g.2.2.length c2] 26)) := (Below.refl _ _).alloc (Nat.le_refl _) _
    have hbwc := hb.trans (hbc.mono hb.size)
    have SH := hide (Short_any g.2.2 A2 c2 _ ((Sl.ok RRdn.ok).below hsl hbwc) p1 hp1)
    have HBC := hide hbwc
    by_cases h300 : t2.size ≤ 300
    ·have hn3 : ¬ (300 : Int) < (t2.size : Int) := by omega
     have HX2 := hide (show (p1 && (l.drop (k + 1)).all shortG) = q by rw [← HX.out, shortG, ← hts, decide_eq_true h300, hp1]; rfl)
     clear hb d0 d1 d2 hsl hg hp1 hbc hbwc ht2 hts h300 H
     go_wp2_with fail
     refine SH.out.mono ?_
     rintro e w5 ⟨rfl, hb5⟩
     have HB5 := hide (HBC.out.trans (hb5.mono HBC.out.size))
     clear hb5 f0 f1 f2
     cases p1
     ·have HY := hide (show false = q from HX2.out)
      go_wp2_with fail
      go_ret
      exact ⟨ret_bool HY.out, HB5.out⟩
     ·have HY := hide (show (l.drop (k + 1)).all shortG = q from HX2.out)
      go_wp2_with fail
      go_roundw
      case rel => exact ⟨k + 1, by omega, by go_num, HB5.out, HY⟩
      case measure => simp [intOf]; omega
    ·have hn3 : (300 : Int) < (t2.size : Int) := by omega
     have HY := hide (show false = q by rw [← HX.out, shortG, ← hts, decide_eq_false h300]; rfl)
     clear hb d0 d1 d2 hsl hg hp1 hbc hbwc ht2 hts h300 H
     go_wp2_with fail
     go_ret
     exact ⟨ret_bool HY.out, HBC.out⟩
   ·have HY := hide (show true = q by rw [← H.out, List.drop_of_length_le (by omega)]; rfl)
    have HB := hide hb
    clear hb
    go_wp2_with fail
    go_ret
    exact ⟨ret_bool HY.out, HB.out⟩
 ·have hn20 : (20 : Int) < (l.length : Int) := by omega
  have HN := hide (show false = q by rw [← hq, shortGs, decide_eq_false hl]; rfl)
  clear hq hl
  go_enter Tryz.func23, Tryz.ntmps23
  go_wp2_with fail
  go_ret
  exact ⟨ret_bool HN.out, Below.refl _ _⟩
end Go.Proofs.YtmgnihmjjijdoaaGreatDoor
namespace Go.Proofs.YtmgnihmjjijdoaaGreatDoor
open Go.RowKit
def Two6 (b1 o1 b2 o2 : Nat) (v0 v1 v2 u0 u1 u2 : Value) (wr W : World) : Prop :=
 W.cell? ⟨b1, o1, none⟩ = some v0 ∧ W.cell? ⟨b1, o1 + 1, none⟩ = some v1 ∧ W.cell? ⟨b1, o1 + 2, none⟩ = some v2 ∧ W.cell? ⟨b2, o2, none⟩ = some u0 ∧ W.cell? ⟨b2, o2 + 1, none⟩ = some u1 ∧ W.cell? ⟨b2, o2 + 2, none⟩ = some u2 ∧ Below wr.heap.size wr W
set_option maxRecDepth 100000 in
set_option maxHeartbeats 8000000 in
theorem ExactGs_same (l : List Gen) (A B : Option Addr) (c d : Nat) (w : World) (h1 : Sl RGen 3 w (Lt w.heap.size) l [.slice A l.length c]) (h2 : Sl RGen 3 w (Lt w.heap.size) l [.slice B l.length d]) :
  Calls Tryz.prog 13 #[.slice A l.length c, .slice B l.length d] w fun e w' => e = .returned (.bool true) ∧ Below w.heap.size w w' := by
 obtain ⟨-, hnc, hcm⟩ := h1.len_
 obtain ⟨-, hnc2, hcm2⟩ := h2.len_
 unfold maxLen at hcm hcm2
 have K1 := hide h1
 have K2 := hide h2
 have t0 : ((l.length : Int) != (l.length : Int)) = false := by simp
 clear h1 h2
 go_enter Tryz.func13, Tryz.ntmps13
 go_wp2_with fail
 clear t0
 go_loopw [13] (fun i wr => ∃ k : Nat, k ≤ l.length ∧ i = .int .i64 k ∧ Below w.heap.size w wr) (fun i _ => l.length - (intOf i).toNat)
 case atStart => exact ⟨0, Nat.zero_le _, rfl, Below.refl _ _⟩
 case round =>
  obtain ⟨k, hk, rfl, hb⟩ := hrel
  by_cases hlt : k < l.length
  ·obtain ⟨b1, o1, t1, A1, c1, hA, hbS1, ht1, d0, d1, d2, hsl1⟩ := K1.out.genAt hlt
   obtain ⟨b2, o2, t2, A2, c2, hB, hbS2, ht2, e0, e1, e2, hsl2⟩ := K2.out.genAt hlt
   subst hA hB
   have hbS1' : b1 < w.heap.size := hbS1
   have hbS2' : b2 < w.heap.size := hbS2
   obtain ⟨g, hg⟩ : ∃ g, l[k] = g := ⟨_, rfl⟩
   rw [hg] at d0 d2 e0 e2 hsl1 hsl2 ht1 ht2
   obtain ⟨kb, hkb⟩ : ∃ kb, g.1 = kb := ⟨_, rfl⟩
   obtain ⟨nb, hnb⟩ : ∃ nb, g.2.2 = nb := ⟨_, rfl⟩
   rw [hkb] at d0 e0
   rw [hnb] at d2 e2 hsl1 hsl2
   obtain rfl : t1 = t2 := ByteArray.ext (Array.toList_inj.1 (ht1.trans ht2.symm))
   have hbd : Below wr.heap.size wr wr.drew := (Below.refl _ _).drew
   have hb0 : Below wr.heap.size wr wr := Below.refl _ _
   obtain ⟨p1, hp1⟩ : ∃ p, p = o1 + k * 3 := ⟨_, rfl⟩
   obtain ⟨p2, hp2⟩ : ∃ p, p = o2 + k * 3 := ⟨_, rfl⟩
   have hs : Two6 b1 p1 b2 p2 (.int .i64 kb) (.string t1) (.slice A1 nb.length c1) (.int .i64 kb) (.string t1) (.slice A2 nb.length c2) wr wr := by
    rw [hp1, hp2]
    exact ⟨(hb.cell (p := ⟨b1, o1 + k * 3, none⟩) hbS1').trans d0, (hb.cell (p := ⟨b1, o1 + k * 3 + 1, none⟩) hbS1').trans d1, (hb.cell (p := ⟨b1, o1 + k * 3 + 2, none⟩) hbS1').trans d2, (hb.cell (p := ⟨b2, o2 + k * 3, none⟩) hbS2').trans e0, (hb.cell (p := ⟨b2, o2 + k * 3 + 1, none⟩) hbS2').trans e1, (hb.cell (p := ⟨b2, o2 + k * 3 + 2, none⟩) hbS2').trans e2, hb0⟩
   obtain ⟨f0, f1, f2, f3, f4, f5, f6⟩ := hs
   have f0d : wr.drew.cell? ⟨b1, p1, none⟩ = some (.int .i64 kb) := f0
   have f1d : wr.drew.cell? ⟨b1, p1 + 1, none⟩ = some (.string t1) := f1
   have f2d : wr.drew.cell? ⟨b1, p1 + 2, none⟩ = some (.slice A1 nb.length c1) := f2
   have f3d : wr.drew.cell? ⟨b2, p2, none⟩ = some (.int .i64 kb) := f3
   have f4d : wr.drew.cell? ⟨b2, p2 + 1, none⟩ = some (.string t1) := f4
   have f5d : wr.drew.cell? ⟨b2, p2 + 2, none⟩ = some (.slice A2 nb.length c2) := f5
   have EX := hide (fun W (h0 : W.cell? ⟨b1, p1, none⟩ = some (.int .i64 kb)) (h1 : W.cell? ⟨b1, p1 + 1, none⟩ = some (.string t1)) (h2 : W.cell? ⟨b1, p1 + 2, none⟩ = some (.slice A1 nb.length c1)) (h3 : W.cell? ⟨b2, p2, none⟩ = some (.int .i64 kb)) (h4 : W.cell? ⟨b2, p2 + 1, none⟩ = some (.string t1)) (h5 : W.cell? ⟨b2, p2 + 2, none⟩ = some (.slice A2 nb.length c2)) (h6 : Below wr.heap.size wr W) =>
    (Exact_same nb A1 A2 c1 c2 W ((Sl.ok RRdn.ok).below hsl1 (hb.trans (h6.mono hb.size))) ((Sl.ok RRdn.ok).below hsl2 (hb.trans (h6.mono hb.size)))).mono (R' := fun e W' => e = .returned (.bool true) ∧ W'.cell? ⟨b1, p1, none⟩ = some (.int .i64 kb) ∧ W'.cell? ⟨b1, p1 + 1, none⟩ = some (.string t1) ∧ W'.cell? ⟨b1, p1 + 2, none⟩ = some (.slice A1 nb.length c1) ∧ W'.cell? ⟨b2, p2, none⟩ = some (.int .i64 kb) ∧ W'.cell? ⟨b2, p2 + 1, none⟩ = some (.string t1) ∧ W'.cell? ⟨b2, p2 + 2, none⟩ = some (.slice A2 nb.length c2) ∧ Below wr.heap.size wr W')
     fun _ _ ⟨he, hb9⟩ => ⟨he, cell_grows hb9 _ _ h0, cell_grows hb9 _ _ h1, cell_grows hb9 _ _ h2, cell_grows hb9 _ _ h3, cell_grows hb9 _ _ h4, cell_grows hb9 _ _ h5, h6.trans (hb9.mono h6.size)⟩)
   have s1 : (kb != kb) = false := by simp
   have s2 : (t1.toList != t1.toList) = false := by simp
   have hk0 : (0 : Int) ≤ (k : Int) := by omega
   have hkl : (k : Int) < (l.length : Int) := by omega
   have HBW := hide hb
   clear d0 d1 d2 e0 e1 e2 hsl1 hsl2 hg hkb hnb ht1 ht2 hb hbS1 hbS2 hbS1' hbS2'
   subst hp1 hp2
   go_upto_region 6 with (fail)
   go_region_held3 (fun W => W.cell? ⟨b1, o1 + k * 3, none⟩ = some (.int .i64 kb) ∧ W.cell? ⟨b1, o1 + k * 3 + 1, none⟩ = some (.string t1) ∧ W.cell? ⟨b1, o1 + k * 3 + 2, none⟩ = some (.slice A1 nb.length c1) ∧ W.cell? ⟨b2, o2 + k * 3, none⟩ = some (.int .i64 kb) ∧ W.cell? ⟨b2, o2 + k * 3 + 1, none⟩ = some (.string t1) ∧ W.cell? ⟨b2, o2 + k * 3 + 2, none⟩ = some (.slice A2 nb.length c2) ∧ Below wr.heap.size wr W)
    (first | exact ⟨hs1, hs2, hs3, hs4, hs5, hs6, hs7⟩ | exact ⟨f0, f1, f2, f3, f4, f5, f6⟩ | exact ⟨f0d, f1d, f2d, f3d, f4d, f5d, hbd⟩)
    (first
     | (go_at_call 45; (first | (with_reducible refine (EX.out _ hs1 hs2 hs3 hs4 hs5 hs6 hs7).mono ?_) | (with_reducible refine (EX.out wr.drew f0d f1d f2d f3d f4d f5d hbd).mono ?_) | fail); rintro e wn ⟨rfl, hs1, hs2, hs3, hs4, hs5, hs6, hs7⟩)
     | fail)
   all_goals
    have HBN := hide (HBW.out.trans (hs7.mono HBW.out.size))
    go_wp2_with fail
    go_roundw
    case rel => exact ⟨k + 1, by omega, by go_num, HBN.out⟩
    case measure => simp [intOf]; omega
  ·go_wp2_with fail
   go_ret
   exact ⟨rfl, hb⟩
end Go.Proofs.YtmgnihmjjijdoaaGreatDoor
