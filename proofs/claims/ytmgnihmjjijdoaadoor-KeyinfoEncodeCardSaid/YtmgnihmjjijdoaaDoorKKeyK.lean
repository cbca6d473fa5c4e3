/- Encode of a key, both sides. -/
import Derived.Test.YtmgnihmjjijdoaaDoorKKeyH
namespace Go.Proofs.YtmgnihmjjijdoaaDoor
open Go.RowKit
theorem u8_in (a : UInt8) : IntKind.u8.wrap (a.toNat : Int) = (a.toNat : Int) := IntWalk.u8_in _ (by have := a.toNat_lt; omega)
set_option maxRecDepth 100000 in
set_option maxHeartbeats 4000000 in
theorem content_any (a : UInt8) (i r : ByteArray) (hi : i.size = 16) (hr : r.size = 16) (y : ByteArray) (hy : y = ⟨(a :: (i.data.toList ++ r.data.toList)).toArray⟩) (w : World) :
  Calls Tryd.prog 18 #[.agg #[.int .i64 (a.toNat : Int), .string i, .string r]] w fun e w' => e = .returned (.string y) ∧ Below w.heap.size w w' := by
 obtain ⟨W0, hW0⟩ : ∃ W, W = w.alloc (.cells #[.int .i64 (a.toNat : Int), .string i, .string r] 23) := ⟨_, rfl⟩
 have n0 : W0.cell? ⟨w.heap.size, 0, none⟩ = some (.int .i64 (a.toNat : Int)) := by rw [hW0, World.cell?_alloc_new]; rfl
 have n1 : W0.cell? ⟨w.heap.size, 1, none⟩ = some (.string i) := by rw [hW0, World.cell?_alloc_new]; rfl
 have n2 : W0.cell? ⟨w.heap.size, 2, none⟩ = some (.string r) := by rw [hW0, World.cell?_alloc_new]; rfl
 have hb0 : Below w.heap.size w W0 := by rw [hW0]; exact (Below.refl _ _).alloc (Nat.le_refl _) _
 have hg : w.heap.size < W0.heap.size := by rw [hW0]; simp
 obtain ⟨W1, hW1⟩ : ∃ W, W = W0.alloc (.cells #[.int .u8 (a.toNat : Int)] 5) := ⟨_, rfl⟩
 have hb01 : Below W0.heap.size W0 W1 := by rw [hW1]; exact (Below.refl _ _).alloc (Nat.le_refl _) _
 have m1 := (hb01.cell (p := ⟨w.heap.size, 1, none⟩) hg).trans n1
 have m2 := (hb01.cell (p := ⟨w.heap.size, 2, none⟩) hg).trans n2
 have hb1 := hb0.trans (hb01.mono hb0.size)
 obtain ⟨yh, hyh⟩ : ∃ yh : ByteArray, yh = ⟨#[a]⟩ := ⟨_, rfl⟩
 have hcv : (convert 43 9 (.slice (some ⟨W0.heap.size, 0, none⟩) 1 1)).run Tryd.prog W1 = .ok (.string yh) W1 := by
  rw [hW1]; exact conv_lit W0 #[.int .u8 (a.toNat : Int)] [a] rfl (by simp [maxLen]) yh hyh
 have hyhs : yh.size = 1 := by rw [hyh]; rfl
 have hwr := u8_in a
 have hbs : ¬ 9223372036854775807 < yh.size + i.size := by omega
 obtain ⟨z, hz⟩ : ∃ z : ByteArray, yh ++ i = z := ⟨_, rfl⟩
 have hzs : z.size = 17 := by rw [← hz, ba_size, hyhs, hi]
 have hbs2 : ¬ 9223372036854775807 < z.size + r.size := by omega
 have hzy : z ++ r = y := by
  rw [hy, ← hz, hyh]
  apply ByteArray.ext
  apply Array.toList_inj.1
  simp [ByteArray.data_append]
 have HB1 := hide hb1
 clear hyh hyhs hi hr hb0 hb01 hb1 hzs hy
 go_enter Tryd.func18, Tryd.ntmps18
 go_upto_region 1 with fail
 rw [← hW0]
 clear hW0
 subst hW1
 go_wp2_with fail
 go_ret
 exact ⟨rfl, HB1.out⟩
set_option maxRecDepth 100000 in
set_option maxHeartbeats 4000000 in
theorem PutBits_zero (b : ByteArray) (hb : b.size ≤ 1000000) (y : ByteArray) (hy : y = ⟨(0 :: b.data.toList).toArray⟩) (w : World) :
  Calls Tryd.prog 17 #[.string b, .int .i64 0] w fun e w' => e = .returned (.tuple #[.string y, .int .i64 0]) ∧ Below w.heap.size w w' := by
 obtain ⟨yh, hyh⟩ : ∃ yh : ByteArray, yh = ⟨#[0]⟩ := ⟨_, rfl⟩
 have hcv := conv_lit w #[.int .u8 0] [0] rfl (by simp [maxLen]) yh hyh
 rw [show ([0] : List UInt8).length = 1 from rfl] at hcv
 have hyhs : yh.size = 1 := by rw [hyh]; rfl
 have hbs : ¬ 9223372036854775807 < yh.size + b.size := by omega
 have hzy : yh ++ b = y := by
  rw [hy, hyh]
  apply ByteArray.ext
  apply Array.toList_inj.1
  simp [ByteArray.data_append]
 have hsp : spareF b.data.toList 0 = true := by rw [spareF]; simp
 have HSP := hide hsp
 clear hyh hyhs hy hsp
 go_enter Tryd.func17, Tryd.ntmps17
 go_wp2_with fail
 refine (spare_any b (by omega) 0 (by omega) w).mono ?_
 rintro e w1 ⟨rfl, rfl⟩
 rw [HSP.out]
 go_wp2_with fail
 go_ret2
 exact ⟨rfl, (Below.refl _ _).alloc (Nat.le_refl _) _⟩
theorem B1_any (a : UInt8) (yh : ByteArray) (hyh : yh = ⟨#[a]⟩) (w : World) :
  Calls Tryd.prog 37 #[.int .i64 (a.toNat : Int)] w fun e w' => e = .returned (.string yh) ∧ Below w.heap.size w w' := by
 have hcv := conv_lit w #[.int .u8 (a.toNat : Int)] [a] rfl (by simp [maxLen]) yh hyh
 rw [show ([a] : List UInt8).length = 1 from rfl] at hcv
 have hwr := u8_in a
 clear hyh
 go_enter Tryd.func37, Tryd.ntmps37
 go_wp2_with fail
 go_ret
 exact ⟨rfl, (Below.refl _ _).alloc (Nat.le_refl _) _⟩
set_option maxRecDepth 100000 in
set_option maxHeartbeats 4000000 in
theorem rraw_any (a : UInt8) (i r : ByteArray) (hi : i.size = 16) (hr : r.size = 16) (y : ByteArray) (hy : y = ⟨(a :: (i.data.toList ++ r.data.toList)).toArray⟩) (w : World) :
  Calls Tryd.prog 23 #[.agg #[.int .i64 (a.toNat : Int), .string i, .string r]] w fun e w' => e = .returned (.string y) ∧ Below w.heap.size w w' := by
 obtain ⟨W0, hW0⟩ : ∃ W, W = w.alloc (.cells #[.int .i64 (a.toNat : Int), .string i, .string r] 23) := ⟨_, rfl⟩
 have hk0 : KX w.heap.size (a.toNat : Int) i r W0 := by rw [hW0]; exact KX.new w _ _ _
 have hb0 : Below w.heap.size w W0 := by rw [hW0]; exact (Below.refl _ _).alloc (Nat.le_refl _) _
 obtain ⟨g, hg⟩ : ∃ g, w.heap.size = g := ⟨_, rfl⟩
 rw [hg] at hk0
 obtain ⟨yh, hyh⟩ : ∃ yh : ByteArray, yh = ⟨#[a]⟩ := ⟨_, rfl⟩
 have hyhs : yh.size = 1 := by rw [hyh]; rfl
 have hbs : ¬ 9223372036854775807 < yh.size + i.size := by omega
 obtain ⟨z, hz⟩ : ∃ z : ByteArray, yh ++ i = z := ⟨_, rfl⟩
 have hzs : z.size = 17 := by rw [← hz, ba_size, hyhs, hi]
 have hbs2 : ¬ 9223372036854775807 < z.size + r.size := by omega
 have hzy : z ++ r = y := by
  rw [hy, ← hz, hyh]
  apply ByteArray.ext
  apply Array.toList_inj.1
  simp [ByteArray.data_append]
 have HB1 := hide (fun W => B1_any a yh hyh W)
 have HB0 := hide hb0
 have HK := hide hk0
 clear hyh hyhs hi hr hb0 hzs hy hk0
 obtain ⟨n0, n1, n2, -, -, -⟩ := HK.out.facts
 go_enter Tryd.func23, Tryd.ntmps23
 go_upto_region 1 with fail
 rw [← hW0]
 clear hW0
 have hbb : Below W0.heap.size W0 W0 := Below.refl _ _
 have HKK := hide (fun (W : World) (hb : Below W0.heap.size W0 W) => (show W.cell? ⟨g, 0, none⟩ = some (.int .i64 (a.toNat : Int)) ∧ W.cell? ⟨g, 1, none⟩ = some (.string i) ∧ W.cell? ⟨g, 2, none⟩ = some (.string r) from ⟨(HK.out.below hb).facts.1, (HK.out.below hb).facts.2.1, (HK.out.below hb).facts.2.2.1⟩))
 go_region_held3 (fun W => W.cell? ⟨g, 0, none⟩ = some (.int .i64 (a.toNat : Int)) ∧ W.cell? ⟨g, 1, none⟩ = some (.string i) ∧ W.cell? ⟨g, 2, none⟩ = some (.string r) ∧ Below W0.heap.size W0 W)
  (first | exact ⟨hs0, hs1, hs2, hs3⟩ | exact ⟨n0, n1, n2, hbb⟩ | exact ⟨n0, n1, n2, hbb.drew⟩)
  (first
   | (go_at_call 37; refine (HB1.out _).mono ?_; rintro e w9 ⟨rfl, hb9⟩; have hs3 : Below W0.heap.size W0 w9 := (hbb.drew).trans hb9; have hs0 := (HKK.out w9 hs3).1; have hs1 := (HKK.out w9 hs3).2.1; have hs2 := (HKK.out w9 hs3).2.2)
   | fail)
 all_goals
  go_wp2_with fail
  go_ret
  exact ⟨rfl, HB0.out.trans (hs3.mono HB0.out.size)⟩
theorem encK_bad {k : Key} (h : chkK k ≠ 0) : chkK k = 18 ∧ encK k = ([], 18) := by
 refine ⟨?_, if_neg h⟩
 unfold chkK at h ⊢
 split
 ·rfl
 ·rename_i hn; exact absurd (if_neg hn) h
theorem key_byte {h : Int} {i r : ByteArray} (hc : chkK (h, i.data.toList, r.data.toList) = 0) : ∃ a : UInt8, h = (a.toNat : Int) ∧ i.size = 16 ∧ r.size = 16 ∧ rawK (h, i.data.toList, r.data.toList) = a :: (i.data.toList ++ r.data.toList) := by
 obtain ⟨h1, h2, h3, h4⟩ := chkK_ok hc
 simp only [size_string] at h1 h2 h3 h4
 refine ⟨UInt8.ofNat h.toNat, ?_, h3, h4, rfl⟩
 rw [UInt8.toNat_ofNat']
 omega
theorem keyW_app (l : List UInt8) : wrapW 48 (algW ++ l) = wrapW 48 (algA.data.toList ++ l) := rfl
set_option maxRecDepth 100000 in
set_option maxHeartbeats 8000000 in
theorem KEncode_any (h : Int) (i r : ByteArray) (w : World) (hmx : Mx w) :
  Calls Tryd.prog 9 #[.agg #[.int .i64 h, .string i, .string r]] w fun e w' => e = .returned (wrapR (encK (h, i.data.toList, r.data.toList))) ∧ Below w.heap.size w w' := by
 obtain ⟨W0, hW0⟩ : ∃ W, W = w.alloc (.cells #[.int .i64 h, .string i, .string r] 23) := ⟨_, rfl⟩
 have hk0 : KX w.heap.size h i r W0 := by rw [hW0]; exact KX.new w _ _ _
 have HB0 := hide (show Below w.heap.size w W0 by rw [hW0]; exact (Below.refl _ _).alloc (Nat.le_refl _) _)
 have HK0 := hide hk0
 have HMX := hide hmx
 obtain ⟨o, ho⟩ : ∃ o, encK (h, i.data.toList, r.data.toList) = o := ⟨_, rfl⟩
 rw [ho]
 have HO := hide ho
 obtain ⟨n0, n1, n2, -, -, -⟩ := hk0.facts
 obtain ⟨kq, hkq⟩ : ∃ kq, chkK (h, i.data.toList, r.data.toList) = kq := ⟨_, rfl⟩
 have HKQ := hide hkq
 clear hk0 hkq hmx ho
 go_enter Tryd.func9, Tryd.ntmps9
 go_upto_region 1 with fail
 rw [← hW0]
 clear hW0
 go_wp2_with fail
 refine (MCheck_any h i r _).mono ?_
 rintro e w1 ⟨rfl, hb1⟩
 rw [HKQ.out]
 have HB1 := hide (HB0.out.trans (hb1.mono HB0.out.size))
 have HK1 := hide (HK0.out.below hb1)
 clear hb1 n0 n1 n2
 by_cases hk : kq = 0
 ·subst hk
  obtain ⟨a, hha, hi, hr, hraw⟩ := key_byte HKQ.out
  have HE := hide (show o = (keyW (h, i.data.toList, r.data.toList), 0) by rw [← HO.out, encK, if_pos HKQ.out])
  rw [keyW, hraw] at HE
  obtain ⟨y, hy⟩ : ∃ y : ByteArray, y = ⟨(a :: (i.data.toList ++ r.data.toList)).toArray⟩ := ⟨_, rfl⟩
  have hyl : y.data.toList = a :: (i.data.toList ++ r.data.toList) := by rw [hy]
  have hys : y.size = 33 := by rw [← size_string, hyl]; simp [hi, hr]
  obtain ⟨z, hz⟩ : ∃ z : ByteArray, z = ⟨(0 :: y.data.toList).toArray⟩ := ⟨_, rfl⟩
  have hzl : z.data.toList = 0 :: y.data.toList := by rw [hz]
  have hzs : z.size = 34 := by rw [← size_string, hzl]; simp [hys]
  obtain ⟨b, hb⟩ : ∃ b : ByteArray, b = ⟨(wrapW 3 z.data.toList).toArray⟩ := ⟨_, rfl⟩
  have hbl : b.data.toList = wrapW 3 z.data.toList := by rw [hb]
  have hbs : b.size ≤ 39 := by
   rw [← size_string, hbl, wrapW_len]
   have := lenB_le z.data.toList.length
   rw [size_string] at *
   omega
  have HC := hide (fun W => content_any a i r hi hr y hy W)
  have HP := hide (fun W => PutBits_zero y (by omega) z hz W)
  have HW3 := hide (show wrapF 3 [z.data.toList] = (wrapW 3 z.data.toList, 0) from wrapF_one (by omega))
  have HR3 := hide (show wrapR (wrapW 3 z.data.toList, 0) = .tuple #[.string b, .int .i64 0] by rw [wrapR, ← hb])
  have HW48 := hide (show wrapF 48 [algA.data.toList, b.data.toList] = o by
   rw [wrapF_two (by rw [algA_size]; omega), HE.out, keyW_app, hbl, hzl, hyl])
  subst hha
  obtain ⟨E, hE⟩ : ∃ E, o = (E, (0 : Int)) := ⟨_, HE.out⟩
  have HEE := hide hE
  have hzs6 : z.size ≤ 1000000 := by omega
  have hbs6 : b.size ≤ 1000000 := by omega
  obtain ⟨A, hA⟩ : ∃ A : ByteArray, algA = A := ⟨_, rfl⟩
  have hAs : A.size ≤ 1000000 := by rw [← hA, algA_size]; omega
  have HAL := hide (fun W h => hA ▸ Algorithm_any W h)
  rw [hA] at HW48
  clear hE hi hr hraw hy hyl hys hz hzl hzs hb hbl hbs hA
  obtain ⟨n0, n1, n2, -, -, -⟩ := HK1.out.facts
  go_wp2_with fail
  refine (HC.out _).mono ?_
  rintro e w2 ⟨rfl, hb2⟩
  have HB2 := hide (HB1.out.trans (hb2.mono HB1.out.size))
  clear hb2 n0 n1 n2
  go_wp2_with fail
  refine (HP.out _).mono ?_
  rintro e w3 ⟨rfl, hb3⟩
  have HB3 := hide (HB2.out.trans (hb3.mono HB2.out.size))
  clear hb3
  go_wp2_with fail
  refine (wrap_one 3 (by omega) (by omega) z hzs6 _ HW3.out _).mono ?_
  rintro e w4 ⟨rfl, hb4⟩
  rw [HR3.out]
  have HB4 := hide (HB3.out.trans (hb4.mono HB3.out.size))
  clear hb4
  go_wp2_with fail
  refine (HAL.out _ (HMX.out.below HB4.out)).mono ?_
  rintro e w5 ⟨rfl, hb5⟩
  have HB5 := hide (HB4.out.trans (hb5.mono HB4.out.size))
  clear hb5
  go_wp2_with fail
  refine (wrap_two 48 (by omega) (by omega) A b hAs hbs6 _ HW48.out _).mono ?_
  rintro e w6 ⟨rfl, hb6⟩
  have HB6 := hide (HB5.out.trans (hb6.mono HB5.out.size))
  clear hb6
  rw [HEE.out, wrapR]
  go_wp2_with fail
  go_ret2
  exact ⟨by rw [HEE.out]; rfl, HB6.out⟩
 ·have HE := hide (encK_bad (HKQ.out ▸ hk))
  have h18 : kq = 18 := HKQ.out.symm.trans HE.out.1
  subst h18
  have HN := hide (show o = ([], 18) from HO.out.symm.trans HE.out.2)
  go_wp2_with fail
  go_ret2
  exact ⟨by rw [HN.out]; rfl, HB1.out⟩
end Go.Proofs.YtmgnihmjjijdoaaDoor
