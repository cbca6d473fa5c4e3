/- The law KeyinfoEncode, its walk. -/
import Derived.Test.YtmgnihmjjijdoaaDoorKShaM
import Derived.Test.YtmgnihmjjijdoaaDoorKKeyN
import Derived.Test.YtmgnihmjjijdoaaDoorKGLibD
namespace Go.Proofs.YtmgnihmjjijdoaaDoor
open Go.RowKit
theorem KX.set0 {g : Nat} {h : Int} {i r : ByteArray} {W : World} (k : KX g h i r W) (a : Int) : KX g a i r (W.setCell ⟨g, 0, none⟩ (.int .i64 a)) := by
 unfold KX at *
 simp [World.setCell, Array.getElem?_modify, k]
theorem KX.set1 {g : Nat} {h : Int} {i r : ByteArray} {W : World} (k : KX g h i r W) (a : ByteArray) : KX g h a r (W.setCell ⟨g, 1, none⟩ (.string a)) := by
 unfold KX at *
 simp [World.setCell, Array.getElem?_modify, k]
theorem KX.other {g j b : Nat} {h : Int} {i r : ByteArray} {W : World} {u : Value} (k : KX g h i r W) (hne : g ≠ b) : KX g h i r (W.setCell ⟨b, j, none⟩ u) := (Below.heap_setCell W ⟨b, j, none⟩ u g hne).trans k
def K2 (g : Nat) (W : World) : Prop := ∀ k, k < 2 → ∃ (h : Int) (i r : ByteArray), W.cell? ⟨g, k * 3, none⟩ = some (.int .i64 h) ∧ W.cell? ⟨g, k * 3 + 1, none⟩ = some (.string i) ∧ W.cell? ⟨g, k * 3 + 2, none⟩ = some (.string r)
theorem K2.new (w : World) (h1 h2 : Int) (a1 a2 b1 b2 : ByteArray) : K2 w.heap.size (w.alloc (.cells #[.int .i64 h1, .string a1, .string b1, .int .i64 h2, .string a2, .string b2] 23)) := fun k hk => by
 rw [World.cell?_alloc_new, World.cell?_alloc_new, World.cell?_alloc_new]
 match k, hk with
 | 0, _ => exact ⟨_, _, _, rfl, rfl, rfl⟩
 | 1, _ => exact ⟨_, _, _, rfl, rfl, rfl⟩
set_option maxRecDepth 100000 in
set_option maxHeartbeats 16000000 in
theorem KeyinfoEncode_any (rh : Int) (ri rr : ByteArray) (l : List Int) (A : Option Addr) (n c : Nat) (w : World) (hmx : Mx w) (htb : Tb w) (h : Sl RInt 1 w (Lt w.heap.size) l [.slice A n c]) :
  Calls Tryd.prog 3 #[.agg #[.int .i64 rh, .string ri, .string rr], .slice A n c] w fun e w' => e = .returned (.bool true) ∧ Below w.heap.size w w' := by
 have HMX := hide hmx
 have HTB := hide htb
 obtain ⟨wa, hwa⟩ : ∃ W, W = w.alloc (.cells #[.int .i64 rh, .string ri, .string rr] 23) := ⟨_, rfl⟩
 have hba : Below w.heap.size w wa := by rw [hwa]; exact (Below.refl _ _).alloc (Nat.le_refl _) _
 have hka : KX w.heap.size rh ri rr wa := by rw [hwa]; exact KX.new w _ _ _
 have K := hide (show Sl RInt 1 wa (Lt wa.heap.size) l [.slice A n c] from (Sl.ok RInt.ok).below h hba)
 obtain ⟨gA, hgA⟩ : ∃ g, w.heap.size = g := ⟨_, rfl⟩
 rw [hgA] at hka
 have HBA := hide hba
 have HKA0 := hide hka
 have HGA := hide hgA
 obtain ⟨n0, n1, n2, -, -, -⟩ := hka.facts
 clear hmx htb h hba hka hgA
 go_enter Tryd.func3, Tryd.ntmps3
 go_upto_region 1 with fail
 rw [← hwa]
 try rw [HGA.out]
 clear hwa
 by_cases h1 : 100 < ri.size
 ·have d1 : (100 : Int) < (ri.size : Int) := by omega
  clear h1
  go_wp2_with fail
  refine (kawake_any _ (HMX.out.below HBA.out) (HTB.out.below HBA.out)).mono ?_
  rintro e w9 ⟨rfl, hb9⟩
  have HB9 := hide (Below.trans HBA.out (hb9.mono (Below.size HBA.out)))
  clear hb9
  go_wp2_with fail
  go_ret
  exact ⟨rfl, HB9.out⟩
 by_cases h2 : 100 < rr.size
 ·have d1 : ¬ (100 : Int) < (ri.size : Int) := by omega
  have d2 : (100 : Int) < (rr.size : Int) := by omega
  clear h1 h2
  go_wp2_with fail
  refine (kawake_any _ (HMX.out.below HBA.out) (HTB.out.below HBA.out)).mono ?_
  rintro e w9 ⟨rfl, hb9⟩
  have HB9 := hide (Below.trans HBA.out (hb9.mono (Below.size HBA.out)))
  clear hb9
  go_wp2_with fail
  go_ret
  exact ⟨rfl, HB9.out⟩
 have d1 : ¬ (100 : Int) < (ri.size : Int) := by omega
 have d2 : ¬ (100 : Int) < (rr.size : Int) := by omega
 clear h1 h2
 go_wp2_with fail
 clear n0 n1 n2 d1 d2
 refine (New_any l A n c _ K.out).mono ?_
 rintro e w1 ⟨rfl, hd1, hb1⟩
 obtain ⟨d, hd⟩ : ∃ d, wa.heap.size = d := ⟨_, rfl⟩
 rw [hd] at hd1 ⊢
 have HD1 := hide hd1
 have HB1 := hide (HBA.out.trans (hb1.mono HBA.out.size))
 have HKA1 := hide (HKA0.out.below hb1)
 have hdw : w.heap.size ≤ d := by have := HBA.out.size; omega
 have hAd : gA ≠ d := by have := HKA0.out.lt; omega
 clear hd1 hb1 hd
 go_wp2_with fail
 refine (Key_any d _ HD1.out).mono ?_
 rintro e w2 ⟨h, i, r, hh, hi, hr, rfl, hd2, hx2⟩
 obtain ⟨w3, hw3⟩ : ∃ W, W = w2.alloc (.cells #[.int .i64 (h : Int), .string i, .string r] 23) := ⟨_, rfl⟩
 have hb3 : Below w2.heap.size w2 w3 := by rw [hw3]; exact (Below.refl _ _).alloc (Nat.le_refl _) _
 have hk3 : KX w2.heap.size (h : Int) i r w3 := by rw [hw3]; exact KX.new w2 _ _ _
 have HB2 := hide (Ex.below HB1.out HB1.out.size hdw hx2)
 have HB3 := hide (HB2.out.trans (hb3.mono HB2.out.size))
 have HKA3 := hide ((HKA1.out.ex hx2 hAd).below hb3)
 have HD3 := hide (hd2.below hb3)
 have hBd : d < w2.heap.size := hd2.lt
 have hAB : gA < w2.heap.size := (HKA1.out.ex hx2 hAd).lt
 obtain ⟨gB, hgB⟩ : ∃ g, w2.heap.size = g := ⟨_, rfl⟩
 rw [hgB] at hk3 hBd hAB
 have HKB3 := hide hk3
 have HGB := hide hgB
 have hwB : w.heap.size ≤ gB := by have := HB2.out.size; omega
 have his : i.size ≤ 1000000 := by omega
 clear hd2 hx2 hb3 hk3 hgB hh hi hr
 go_upto_region 5 with fail
 rw [← hw3]
 try rw [HGB.out]
 clear hw3
 go_wp2_with fail
 refine (Next_any d 5 (by omega) (by omega) _ HD3.out).mono ?_
 rintro e w4 ⟨v, hv, rfl, hd4, hx4⟩
 have HB4 := hide (Ex.below HB3.out HB3.out.size hdw hx4)
 have HKA4 := hide (HKA3.out.ex hx4 hAd)
 have HKB4 := hide (HKB3.out.ex hx4 (by omega))
 have HD4 := hide hd4
 clear hd4 hx4
 by_cases v0 : v = 0
 ·subst v0
  clear hv
  go_wp2_with fail
  refine (Next_any d 30 (by omega) (by omega) _ HD4.out).mono ?_
  rintro e w5 ⟨u, hu, rfl, hd5, hx5⟩
  have HB5 := hide (Ex.below HB4.out HB4.out.size hdw hx5)
  have HKA5 := hide (HKA4.out.ex hx5 hAd)
  have hkb5 := HKB4.out.ex hx5 (show gB ≠ d by omega)
  obtain ⟨m0, m1, m2, m3, m4, m5⟩ := hkb5.facts
  obtain ⟨w6, hw6⟩ : ∃ W, W = w5.setCell ⟨gB, 0, none⟩ (.int .i64 ((u : Int) - 10)) := ⟨_, rfl⟩
  have HKB := hide (show KX gB ((u : Int) - 10) i r w6 by rw [hw6]; exact hkb5.set0 _)
  have HKA := hide (show KX gA rh ri rr w6 by rw [hw6]; exact HKA5.out.other (by omega))
  have HBX := hide (show Below w.heap.size w w6 by rw [hw6]; exact HB5.out.setCell (p := ⟨gB, 0, none⟩) hwB _)
  clear hd5 hx5 hkb5
  go_upto_region 10 with fail
  rw [← hw6]
  clear hw6 m0 m1 m2 m3 m4 m5
  obtain ⟨a0, a1, a2, -, -, -⟩ := HKA.out.facts
  obtain ⟨b0, b1, b2, -, -, -⟩ := HKB.out.facts
  obtain ⟨W0, hW0⟩ : ∃ W, W = (w6).alloc (.cells #[.int .i64 rh, .string ri, .string rr, .int .i64 ((u : Int) - 10), .string i, .string r] 23) := ⟨_, rfl⟩
  have hk2 : K2 (w6).heap.size W0 := by rw [hW0]; exact K2.new _ _ _ _ _ _ _
  have HB0 := hide (show Below w.heap.size w W0 by rw [hW0]; exact HBX.out.alloc HBX.out.size _)
  have hg0 : (w6).heap.size < W0.heap.size := by rw [hW0]; simp
  obtain ⟨gT, hgT⟩ : ∃ g, (w6).heap.size = g := ⟨_, rfl⟩
  rw [hgT] at hk2 hg0
  have HK2 := hide hk2
  have HGT := hide hgT
  clear hk2 hgT
  go_upto_region 11 with fail
  rw [← hW0]
  try rw [HGT.out]
  clear hW0 a0 a1 a2 b0 b1 b2
  go_loopw [47] (fun iv wr => ∃ k : Nat, k ≤ 2 ∧ iv = .int .i64 k ∧ Below W0.heap.size W0 wr) (fun iv _ => 2 - (intOf iv).toNat)
  case atStart => exact ⟨0, by omega, rfl, Below.refl _ _⟩
  case round =>
   obtain ⟨k, hk, rfl, hb⟩ := hrel
   obtain ⟨wi, rfl⟩ : ∃ wi : World, wi = wr := ⟨_, rfl⟩
   have HB := hide (HB0.out.trans (hb.mono HB0.out.size))
   by_cases hlt : k < 2
   ·have hlt2 : (k : Int) < 2 := by omega
    obtain ⟨h, i, r, d0, d1, d2⟩ := HK2.out k hlt
    have f0 := (hb.cell (p := ⟨gT, k * 3, none⟩) hg0).trans d0
    have f1 := (hb.cell (p := ⟨gT, k * 3 + 1, none⟩) hg0).trans d1
    have f2 := (hb.cell (p := ⟨gT, k * 3 + 2, none⟩) hg0).trans d2
    obtain ⟨wx, hwx⟩ : ∃ W, W = wi.alloc (.cells #[.int .i64 h, .string i, .string r] 23) := ⟨_, rfl⟩
    have hbx : Below wi.heap.size wi wx := by rw [hwx]; exact (Below.refl _ _).alloc (Nat.le_refl _) _
    have hkx : KX wi.heap.size h i r wx := by rw [hwx]; exact KX.new wi h i r
    obtain ⟨gx, hgx⟩ : ∃ g, wi.heap.size = g := ⟨_, rfl⟩
    rw [hgx] at hkx
    have HGX := hide hgx
    have HKX := hide hkx
    have HBW := hide (HB.out.trans (hbx.mono HB.out.size))
    have HBR := hide (hb.trans (hbx.mono hb.size))
    obtain ⟨o, ho⟩ : ∃ o, encK (h, i.data.toList, r.data.toList) = o := ⟨_, rfl⟩
    have EN := hide (fun W (hw : Below w.heap.size w W) => KEncode_any h i r W (HMX.out.below hw))
    have REN := hide (fun W => rEncodeKey_any h i r W)
    rw [ho] at EN REN
    obtain ⟨E, hE⟩ : ∃ E : ByteArray, (⟨o.1.toArray⟩ : ByteArray) = E := ⟨_, rfl⟩
    obtain ⟨ke, hke⟩ : ∃ k, o.2 = k := ⟨_, rfl⟩
    have HWR := hide (show wrapR o = .tuple #[.string E, .int .i64 ke] by rw [wrapR, hE, hke])
    obtain ⟨q, hq⟩ : ∃ q : ByteArray, (⟨(identG (h, i.data.toList, r.data.toList)).toArray⟩ : ByteArray) = q := ⟨_, rfl⟩
    have C1 := hide (fun W (h0 : W.cell? ⟨gx, 0, none⟩ = some (.int .i64 h)) (h1 : W.cell? ⟨gx, 1, none⟩ = some (.string i)) (h2 : W.cell? ⟨gx, 2, none⟩ = some (.string r)) (hb : Below wx.heap.size wx W) =>
     (hq ▸ pIdent_any h i r W : Calls Tryd.prog 11 #[.agg #[.int .i64 h, .string i, .string r]] W fun e w' => e = .returned (.string q) ∧ Below W.heap.size W w').mono (R' := fun e W' => e = .returned (.string q) ∧ W'.cell? ⟨gx, 0, none⟩ = some (.int .i64 h) ∧ W'.cell? ⟨gx, 1, none⟩ = some (.string i) ∧ W'.cell? ⟨gx, 2, none⟩ = some (.string r) ∧ Below wx.heap.size wx W')
     fun _ _ ⟨he, hb9⟩ => ⟨he, cell_grows hb9 _ _ h0, cell_grows hb9 _ _ h1, cell_grows hb9 _ _ h2, hb.trans (hb9.mono hb.size)⟩)
    have C2 := hide (fun W (h0 : W.cell? ⟨gx, 0, none⟩ = some (.int .i64 h)) (h1 : W.cell? ⟨gx, 1, none⟩ = some (.string i)) (h2 : W.cell? ⟨gx, 2, none⟩ = some (.string r)) (hb : Below wx.heap.size wx W) =>
     (hq ▸ rIdent_any h i r W : Calls Tryd.prog 12 #[.agg #[.int .i64 h, .string i, .string r]] W fun e w' => e = .returned (.string q) ∧ Below W.heap.size W w').mono (R' := fun e W' => e = .returned (.string q) ∧ W'.cell? ⟨gx, 0, none⟩ = some (.int .i64 h) ∧ W'.cell? ⟨gx, 1, none⟩ = some (.string i) ∧ W'.cell? ⟨gx, 2, none⟩ = some (.string r) ∧ Below wx.heap.size wx W')
     fun _ _ ⟨he, hb9⟩ => ⟨he, cell_grows hb9 _ _ h0, cell_grows hb9 _ _ h1, cell_grows hb9 _ _ h2, hb.trans (hb9.mono hb.size)⟩)
    have s1 : (q.toList != q.toList) = false := by simp
    have s2 : (E.toList != E.toList) = false := by simp
    have s3 : (ke != ke) = false := by simp
    obtain ⟨z0, z1, z2, -, -, -⟩ := hkx.facts
    clear ho hE hke hq hb d0 d1 d2 hbx hkx hgx
    go_upto_region 13 with fail
    rw [← hwx]
    try rw [HGX.out]
    clear hwx f0 f1 f2
    go_wp2_with fail
    refine (EN.out _ HBW.out).mono ?_
    rintro e w5 ⟨rfl, hb5⟩
    rw [HWR.out]
    have HB5 := hide hb5
    have z0 := cell_grows hb5 _ _ z0
    have z1 := cell_grows hb5 _ _ z1
    have z2 := cell_grows hb5 _ _ z2
    clear hb5
    go_wp2_with fail
    refine (REN.out _).mono ?_
    rintro e w6 ⟨rfl, hb6⟩
    rw [HWR.out]
    have f3 := HB5.out.trans (hb6.mono HB5.out.size)
    have f0 := cell_grows hb6 _ _ z0
    have f1 := cell_grows hb6 _ _ z1
    have f2 := cell_grows hb6 _ _ z2
    have f0d : w6.drew.cell? ⟨gx, 0, none⟩ = some (.int .i64 h) := f0
    have f1d : w6.drew.cell? ⟨gx, 1, none⟩ = some (.string i) := f1
    have f2d : w6.drew.cell? ⟨gx, 2, none⟩ = some (.string r) := f2
    have f3d := f3.drew
    clear hb6 z0 z1 z2
    go_upto_region 15 with fail
    go_region_held3 (fun W => W.cell? ⟨gx, 0, none⟩ = some (.int .i64 h) ∧ W.cell? ⟨gx, 1, none⟩ = some (.string i) ∧ W.cell? ⟨gx, 2, none⟩ = some (.string r) ∧ Below wx.heap.size wx W)
     (first | exact ⟨hs1, hs2, hs3, hs4⟩ | exact ⟨f0, f1, f2, f3⟩ | exact ⟨f0d, f1d, f2d, f3d⟩)
     (first
      | (go_at_call 11; (first | (with_reducible refine (C1.out _ hs1 hs2 hs3 hs4).mono ?_) | (with_reducible refine (C1.out _ f0d f1d f2d f3d).mono ?_) | fail); rintro e wn ⟨rfl, hs1, hs2, hs3, hs4⟩)
      | (go_at_call 12; (first | (with_reducible refine (C2.out _ hs1 hs2 hs3 hs4).mono ?_) | (with_reducible refine (C2.out _ f0d f1d f2d f3d).mono ?_) | fail); rintro e wn ⟨rfl, hs1, hs2, hs3, hs4⟩)
      | fail)
    all_goals
     have HBN := hide (HBR.out.trans (hs4.mono HBR.out.size))
     go_wp2_with fail
     go_roundw
     case rel => exact ⟨k + 1, by omega, by go_num, HBN.out⟩
     case measure => simp [intOf]; omega
   ·clear hb
    go_wp2_with fail
    refine (kawake_any _ (HMX.out.below HB.out) (HTB.out.below HB.out)).mono ?_
    rintro e w9 ⟨rfl, hb9⟩
    have HB9 := hide (Below.trans HB.out (hb9.mono (Below.size HB.out)))
    clear hb9
    go_wp2_with fail
    go_ret
    exact ⟨rfl, HB9.out⟩
 ·by_cases v1 : v = 1
  ·subst v1
   clear hv v0
   obtain ⟨m0, m1, m2, -, -, -⟩ := HKB4.out.facts
   go_wp2_with fail
   refine (Damage_any d i his _ HD4.out).mono ?_
   rintro e w5 ⟨y, hy, rfl, hd5, hx5⟩
   clear m0 m1 m2
   have HB5 := hide (Ex.below HB4.out HB4.out.size hdw hx5)
   have HKA5 := hide (HKA4.out.ex hx5 hAd)
   have hkb5 := HKB4.out.ex hx5 (show gB ≠ d by omega)
   obtain ⟨m0, m1, m2, m3, m4, m5⟩ := hkb5.facts
   obtain ⟨w6, hw6⟩ : ∃ W, W = w5.setCell ⟨gB, 1, none⟩ (.string y) := ⟨_, rfl⟩
   have HKB := hide (show KX gB (h : Int) y r w6 by rw [hw6]; exact hkb5.set1 _)
   have HKA := hide (show KX gA rh ri rr w6 by rw [hw6]; exact HKA5.out.other (by omega))
   have HBX := hide (show Below w.heap.size w w6 by rw [hw6]; exact HB5.out.setCell (p := ⟨gB, 1, none⟩) hwB _)
   clear hd5 hx5 hkb5 hy
   go_upto_region 10 with fail
   rw [← hw6]
   clear hw6 m0 m1 m2 m3 m4 m5
   obtain ⟨a0, a1, a2, -, -, -⟩ := HKA.out.facts
   obtain ⟨b0, b1, b2, -, -, -⟩ := HKB.out.facts
   obtain ⟨W0, hW0⟩ : ∃ W, W = (w6).alloc (.cells #[.int .i64 rh, .string ri, .string rr, .int .i64 (h : Int), .string y, .string r] 23) := ⟨_, rfl⟩
   have hk2 : K2 (w6).heap.size W0 := by rw [hW0]; exact K2.new _ _ _ _ _ _ _
   have HB0 := hide (show Below w.heap.size w W0 by rw [hW0]; exact HBX.out.alloc HBX.out.size _)
   have hg0 : (w6).heap.size < W0.heap.size := by rw [hW0]; simp
   obtain ⟨gT, hgT⟩ : ∃ g, (w6).heap.size = g := ⟨_, rfl⟩
   rw [hgT] at hk2 hg0
   have HK2 := hide hk2
   have HGT := hide hgT
   clear hk2 hgT
   go_upto_region 11 with fail
   rw [← hW0]
   try rw [HGT.out]
   clear hW0 a0 a1 a2 b0 b1 b2
   go_loopw [47] (fun iv wr => ∃ k : Nat, k ≤ 2 ∧ iv = .int .i64 k ∧ Below W0.heap.size W0 wr) (fun iv _ => 2 - (intOf iv).toNat)
   case atStart => exact ⟨0, by omega, rfl, Below.refl _ _⟩
   case round =>
    obtain ⟨k, hk, rfl, hb⟩ := hrel
    obtain ⟨wi, rfl⟩ : ∃ wi : World, wi = wr := ⟨_, rfl⟩
    have HB := hide (HB0.out.trans (hb.mono HB0.out.size))
    by_cases hlt : k < 2
    ·have hlt2 : (k : Int) < 2 := by omega
     obtain ⟨h, i, r, d0, d1, d2⟩ := HK2.out k hlt
     have f0 := (hb.cell (p := ⟨gT, k * 3, none⟩) hg0).trans d0
     have f1 := (hb.cell (p := ⟨gT, k * 3 + 1, none⟩) hg0).trans d1
     have f2 := (hb.cell (p := ⟨gT, k * 3 + 2, none⟩) hg0).trans d2
     obtain ⟨wx, hwx⟩ : ∃ W, W = wi.alloc (.cells #[.int .i64 h, .string i, .string r] 23) := ⟨_, rfl⟩
     have hbx : Below wi.heap.size wi wx := by rw [hwx]; exact (Below.refl _ _).alloc (Nat.le_refl _) _
     have hkx : KX wi.heap.size h i r wx := by rw [hwx]; exact KX.new wi h i r
     obtain ⟨gx, hgx⟩ : ∃ g, wi.heap.size = g := ⟨_, rfl⟩
     rw [hgx] at hkx
     have HGX := hide hgx
     have HKX := hide hkx
     have HBW := hide (HB.out.trans (hbx.mono HB.out.size))
     have HBR := hide (hb.trans (hbx.mono hb.size))
     obtain ⟨o, ho⟩ : ∃ o, encK (h, i.data.toList, r.data.toList) = o := ⟨_, rfl⟩
     have EN := hide (fun W (hw : Below w.heap.size w W) => KEncode_any h i r W (HMX.out.below hw))
     have REN := hide (fun W => rEncodeKey_any h i r W)
     rw [ho] at EN REN
     obtain ⟨E, hE⟩ : ∃ E : ByteArray, (⟨o.1.toArray⟩ : ByteArray) = E := ⟨_, rfl⟩
     obtain ⟨ke, hke⟩ : ∃ k, o.2 = k := ⟨_, rfl⟩
     have HWR := hide (show wrapR o = .tuple #[.string E, .int .i64 ke] by rw [wrapR, hE, hke])
     obtain ⟨q, hq⟩ : ∃ q : ByteArray, (⟨(identG (h, i.data.toList, r.data.toList)).toArray⟩ : ByteArray) = q := ⟨_, rfl⟩
     have C1 := hide (fun W (h0 : W.cell? ⟨gx, 0, none⟩ = some (.int .i64 h)) (h1 : W.cell? ⟨gx, 1, none⟩ = some (.string i)) (h2 : W.cell? ⟨gx, 2, none⟩ = some (.string r)) (hb : Below wx.heap.size wx W) =>
      (hq ▸ pIdent_any h i r W : Calls Tryd.prog 11 #[.agg #[.int .i64 h, .string i, .string r]] W fun e w' => e = .returned (.string q) ∧ Below W.heap.size W w').mono (R' := fun e W' => e = .returned (.string q) ∧ W'.cell? ⟨gx, 0, none⟩ = some (.int .i64 h) ∧ W'.cell? ⟨gx, 1, none⟩ = some (.string i) ∧ W'.cell? ⟨gx, 2, none⟩ = some (.string r) ∧ Below wx.heap.size wx W')
      fun _ _ ⟨he, hb9⟩ => ⟨he, cell_grows hb9 _ _ h0, cell_grows hb9 _ _ h1, cell_grows hb9 _ _ h2, hb.trans (hb9.mono hb.size)⟩)
     have C2 := hide (fun W (h0 : W.cell? ⟨gx, 0, none⟩ = some (.int .i64 h)) (h1 : W.cell? ⟨gx, 1, none⟩ = some (.string i)) (h2 : W.cell? ⟨gx, 2, none⟩ = some (.string r)) (hb : Below wx.heap.size wx W) =>
      (hq ▸ rIdent_any h i r W : Calls Tryd.prog 12 #[.agg #[.int .i64 h, .string i, .string r]] W fun e w' => e = .returned (.string q) ∧ Below W.heap.size W w').mono (R' := fun e W' => e = .returned (.string q) ∧ W'.cell? ⟨gx, 0, none⟩ = some (.int .i64 h) ∧ W'.cell? ⟨gx, 1, none⟩ = some (.string i) ∧ W'.cell? ⟨gx, 2, none⟩ = some (.string r) ∧ Below wx.heap.size wx W')
      fun _ _ ⟨he, hb9⟩ => ⟨he, cell_grows hb9 _ _ h0, cell_grows hb9 _ _ h1, cell_grows hb9 _ _ h2, hb.trans (hb9.mono hb.size)⟩)
     have s1 : (q.toList != q.toList) = false := by simp
     have s2 : (E.toList != E.toList) = false := by simp
     have s3 : (ke != ke) = false := by simp
     obtain ⟨z0, z1, z2, -, -, -⟩ := hkx.facts
     clear ho hE hke hq hb d0 d1 d2 hbx hkx hgx
     go_upto_region 13 with fail
     rw [← hwx]
     try rw [HGX.out]
     clear hwx f0 f1 f2
     go_wp2_with fail
     refine (EN.out _ HBW.out).mono ?_
     rintro e w5 ⟨rfl, hb5⟩
     rw [HWR.out]
     have HB5 := hide hb5
     have z0 := cell_grows hb5 _ _ z0
     have z1 := cell_grows hb5 _ _ z1
     have z2 := cell_grows hb5 _ _ z2
     clear hb5
     go_wp2_with fail
     refine (REN.out _).mono ?_
     rintro e w6 ⟨rfl, hb6⟩
     rw [HWR.out]
     have f3 := HB5.out.trans (hb6.mono HB5.out.size)
     have f0 := cell_grows hb6 _ _ z0
     have f1 := cell_grows hb6 _ _ z1
     have f2 := cell_grows hb6 _ _ z2
     have f0d : w6.drew.cell? ⟨gx, 0, none⟩ = some (.int .i64 h) := f0
     have f1d : w6.drew.cell? ⟨gx, 1, none⟩ = some (.string i) := f1
     have f2d : w6.drew.cell? ⟨gx, 2, none⟩ = some (.string r) := f2
     have f3d := f3.drew
     clear hb6 z0 z1 z2
     go_upto_region 15 with fail
     go_region_held3 (fun W => W.cell? ⟨gx, 0, none⟩ = some (.int .i64 h) ∧ W.cell? ⟨gx, 1, none⟩ = some (.string i) ∧ W.cell? ⟨gx, 2, none⟩ = some (.string r) ∧ Below wx.heap.size wx W)
      (first | exact ⟨hs1, hs2, hs3, hs4⟩ | exact ⟨f0, f1, f2, f3⟩ | exact ⟨f0d, f1d, f2d, f3d⟩)
      (first
       | (go_at_call 11; (first | (with_reducible refine (C1.out _ hs1 hs2 hs3 hs4).mono ?_) | (with_reducible refine (C1.out _ f0d f1d f2d f3d).mono ?_) | fail); rintro e wn ⟨rfl, hs1, hs2, hs3, hs4⟩)
       | (go_at_call 12; (first | (with_reducible refine (C2.out _ hs1 hs2 hs3 hs4).mono ?_) | (with_reducible refine (C2.out _ f0d f1d f2d f3d).mono ?_) | fail); rintro e wn ⟨rfl, hs1, hs2, hs3, hs4⟩)
       | fail)
     all_goals
      have HBN := hide (HBR.out.trans (hs4.mono HBR.out.size))
      go_wp2_with fail
      go_roundw
      case rel => exact ⟨k + 1, by omega, by go_num, HBN.out⟩
      case measure => simp [intOf]; omega
    ·clear hb
     go_wp2_with fail
     refine (kawake_any _ (HMX.out.below HB.out) (HTB.out.below HB.out)).mono ?_
     rintro e w9 ⟨rfl, hb9⟩
     have HB9 := hide (Below.trans HB.out (hb9.mono (Below.size HB.out)))
     clear hb9
     go_wp2_with fail
     go_ret
     exact ⟨rfl, HB9.out⟩
  ·have t0 : ((v : Int) == 0) = false := beq_false_of_ne (by omega)
   have t1 : ((v : Int) == 1) = false := beq_false_of_ne (by omega)
   have HKB := HKB4
   have HKA := HKA4
   have HBX := HB4
   clear v0 v1 hv
   go_upto_region 10 with fail
   obtain ⟨a0, a1, a2, -, -, -⟩ := HKA.out.facts
   obtain ⟨b0, b1, b2, -, -, -⟩ := HKB.out.facts
   obtain ⟨W0, hW0⟩ : ∃ W, W = (w4).alloc (.cells #[.int .i64 rh, .string ri, .string rr, .int .i64 (h : Int), .string i, .string r] 23) := ⟨_, rfl⟩
   have hk2 : K2 (w4).heap.size W0 := by rw [hW0]; exact K2.new _ _ _ _ _ _ _
   have HB0 := hide (show Below w.heap.size w W0 by rw [hW0]; exact HBX.out.alloc HBX.out.size _)
   have hg0 : (w4).heap.size < W0.heap.size := by rw [hW0]; simp
   obtain ⟨gT, hgT⟩ : ∃ g, (w4).heap.size = g := ⟨_, rfl⟩
   rw [hgT] at hk2 hg0
   have HK2 := hide hk2
   have HGT := hide hgT
   clear hk2 hgT
   go_upto_region 11 with fail
   rw [← hW0]
   try rw [HGT.out]
   clear hW0 a0 a1 a2 b0 b1 b2
   go_loopw [47] (fun iv wr => ∃ k : Nat, k ≤ 2 ∧ iv = .int .i64 k ∧ Below W0.heap.size W0 wr) (fun iv _ => 2 - (intOf iv).toNat)
   case atStart => exact ⟨0, by omega, rfl, Below.refl _ _⟩
   case round =>
    obtain ⟨k, hk, rfl, hb⟩ := hrel
    obtain ⟨wi, rfl⟩ : ∃ wi : World, wi = wr := ⟨_, rfl⟩
    have HB := hide (HB0.out.trans (hb.mono HB0.out.size))
    by_cases hlt : k < 2
    ·have hlt2 : (k : Int) < 2 := by omega
     obtain ⟨h, i, r, d0, d1, d2⟩ := HK2.out k hlt
     have f0 := (hb.cell (p := ⟨gT, k * 3, none⟩) hg0).trans d0
     have f1 := (hb.cell (p := ⟨gT, k * 3 + 1, none⟩) hg0).trans d1
     have f2 := (hb.cell (p := ⟨gT, k * 3 + 2, none⟩) hg0).trans d2
     obtain ⟨wx, hwx⟩ : ∃ W, W = wi.alloc (.cells #[.int .i64 h, .string i, .string r] 23) := ⟨_, rfl⟩
     have hbx : Below wi.heap.size wi wx := by rw [hwx]; exact (Below.refl _ _).alloc (Nat.le_refl _) _
     have hkx : KX wi.heap.size h i r wx := by rw [hwx]; exact KX.new wi h i r
     obtain ⟨gx, hgx⟩ : ∃ g, wi.heap.size = g := ⟨_, rfl⟩
     rw [hgx] at hkx
     have HGX := hide hgx
     have HKX := hide hkx
     have HBW := hide (HB.out.trans (hbx.mono HB.out.size))
     have HBR := hide (hb.trans (hbx.mono hb.size))
     obtain ⟨o, ho⟩ : ∃ o, encK (h, i.data.toList, r.data.toList) = o := ⟨_, rfl⟩
     have EN := hide (fun W (hw : Below w.heap.size w W) => KEncode_any h i r W (HMX.out.below hw))
     have REN := hide (fun W => rEncodeKey_any h i r W)
     rw [ho] at EN REN
     obtain ⟨E, hE⟩ : ∃ E : ByteArray, (⟨o.1.toArray⟩ : ByteArray) = E := ⟨_, rfl⟩
     obtain ⟨ke, hke⟩ : ∃ k, o.2 = k := ⟨_, rfl⟩
     have HWR := hide (show wrapR o = .tuple #[.string E, .int .i64 ke] by rw [wrapR, hE, hke])
     obtain ⟨q, hq⟩ : ∃ q : ByteArray, (⟨(identG (h, i.data.toList, r.data.toList)).toArray⟩ : ByteArray) = q := ⟨_, rfl⟩
     have C1 := hide (fun W (h0 : W.cell? ⟨gx, 0, none⟩ = some (.int .i64 h)) (h1 : W.cell? ⟨gx, 1, none⟩ = some (.string i)) (h2 : W.cell? ⟨gx, 2, none⟩ = some (.string r)) (hb : Below wx.heap.size wx W) =>
      (hq ▸ pIdent_any h i r W : Calls Tryd.prog 11 #[.agg #[.int .i64 h, .string i, .string r]] W fun e w' => e = .returned (.string q) ∧ Below W.heap.size W w').mono (R' := fun e W' => e = .returned (.string q) ∧ W'.cell? ⟨gx, 0, none⟩ = some (.int .i64 h) ∧ W'.cell? ⟨gx, 1, none⟩ = some (.string i) ∧ W'.cell? ⟨gx, 2, none⟩ = some (.string r) ∧ Below wx.heap.size wx W')
      fun _ _ ⟨he, hb9⟩ => ⟨he, cell_grows hb9 _ _ h0, cell_grows hb9 _ _ h1, cell_grows hb9 _ _ h2, hb.trans (hb9.mono hb.size)⟩)
     have C2 := hide (fun W (h0 : W.cell? ⟨gx, 0, none⟩ = some (.int .i64 h)) (h1 : W.cell? ⟨gx, 1, none⟩ = some (.string i)) (h2 : W.cell? ⟨gx, 2, none⟩ = some (.string r)) (hb : Below wx.heap.size wx W) =>
      (hq ▸ rIdent_any h i r W : Calls Tryd.prog 12 #[.agg #[.int .i64 h, .string i, .string r]] W fun e w' => e = .returned (.string q) ∧ Below W.heap.size W w').mono (R' := fun e W' => e = .returned (.string q) ∧ W'.cell? ⟨gx, 0, none⟩ = some (.int .i64 h) ∧ W'.cell? ⟨gx, 1, none⟩ = some (.string i) ∧ W'.cell? ⟨gx, 2, none⟩ = some (.string r) ∧ Below wx.heap.size wx W')
      fun _ _ ⟨he, hb9⟩ => ⟨he, cell_grows hb9 _ _ h0, cell_grows hb9 _ _ h1, cell_grows hb9 _ _ h2, hb.trans (hb9.mono hb.size)⟩)
     have s1 : (q.toList != q.toList) = false := by simp
     have s2 : (E.toList != E.toList) = false := by simp
     have s3 : (ke != ke) = false := by simp
     obtain ⟨z0, z1, z2, -, -, -⟩ := hkx.facts
     clear ho hE hke hq hb d0 d1 d2 hbx hkx hgx
     go_upto_region 13 with fail
     rw [← hwx]
     try rw [HGX.out]
     clear hwx f0 f1 f2
     go_wp2_with fail
     refine (EN.out _ HBW.out).mono ?_
     rintro e w5 ⟨rfl, hb5⟩
     rw [HWR.out]
     have HB5 := hide hb5
     have z0 := cell_grows hb5 _ _ z0
     have z1 := cell_grows hb5 _ _ z1
     have z2 := cell_grows hb5 _ _ z2
     clear hb5
     go_wp2_with fail
     refine (REN.out _).mono ?_
     rintro e w6 ⟨rfl, hb6⟩
     rw [HWR.out]
     have f3 := HB5.out.trans (hb6.mono HB5.out.size)
     have f0 := cell_grows hb6 _ _ z0
     have f1 := cell_grows hb6 _ _ z1
     have f2 := cell_grows hb6 _ _ z2
     have f0d : w6.drew.cell? ⟨gx, 0, none⟩ = some (.int .i64 h) := f0
     have f1d : w6.drew.cell? ⟨gx, 1, none⟩ = some (.string i) := f1
     have f2d : w6.drew.cell? ⟨gx, 2, none⟩ = some (.string r) := f2
     have f3d := f3.drew
     clear hb6 z0 z1 z2
     go_upto_region 15 with fail
     go_region_held3 (fun W => W.cell? ⟨gx, 0, none⟩ = some (.int .i64 h) ∧ W.cell? ⟨gx, 1, none⟩ = some (.string i) ∧ W.cell? ⟨gx, 2, none⟩ = some (.string r) ∧ Below wx.heap.size wx W)
      (first | exact ⟨hs1, hs2, hs3, hs4⟩ | exact ⟨f0, f1, f2, f3⟩ | exact ⟨f0d, f1d, f2d, f3d⟩)
      (first
       | (go_at_call 11; (first | (with_reducible refine (C1.out _ hs1 hs2 hs3 hs4).mono ?_) | (with_reducible refine (C1.out _ f0d f1d f2d f3d).mono ?_) | fail); rintro e wn ⟨rfl, hs1, hs2, hs3, hs4⟩)
       | (go_at_call 12; (first | (with_reducible refine (C2.out _ hs1 hs2 hs3 hs4).mono ?_) | (with_reducible refine (C2.out _ f0d f1d f2d f3d).mono ?_) | fail); rintro e wn ⟨rfl, hs1, hs2, hs3, hs4⟩)
       | fail)
     all_goals
      have HBN := hide (HBR.out.trans (hs4.mono HBR.out.size))
      go_wp2_with fail
      go_roundw
      case rel => exact ⟨k + 1, by omega, by go_num, HBN.out⟩
      case measure => simp [intOf]; omega
    ·clear hb
     go_wp2_with fail
     refine (kawake_any _ (HMX.out.below HB.out) (HTB.out.below HB.out)).mono ?_
     rintro e w9 ⟨rfl, hb9⟩
     have HB9 := hide (Below.trans HB.out (hb9.mono (Below.size HB.out)))
     clear hb9
     go_wp2_with fail
     go_ret
     exact ⟨rfl, HB9.out⟩
end Go.Proofs.YtmgnihmjjijdoaaDoor
