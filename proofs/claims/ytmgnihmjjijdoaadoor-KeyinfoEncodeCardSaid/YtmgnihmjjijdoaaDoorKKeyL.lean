/- The reference's Encode of a key. -/
import Derived.Test.YtmgnihmjjijdoaaDoorKKeyK
namespace Go.Proofs.YtmgnihmjjijdoaaDoor
open Go.RowKit
theorem wrapG_of {t : Nat} (h : t % 32 ≠ 31) {xs : List (List UInt8)} : wrapG t xs = wrapF t xs := if_neg h
set_option maxRecDepth 100000 in
set_option maxHeartbeats 8000000 in
theorem rEncodeKey_any (h : Int) (i r : ByteArray) (w : World) :
  Calls Tryd.prog 10 #[.agg #[.int .i64 h, .string i, .string r]] w fun e w' => e = .returned (wrapR (encK (h, i.data.toList, r.data.toList))) ∧ Below w.heap.size w w' := by
 obtain ⟨W0, hW0⟩ : ∃ W, W = w.alloc (.cells #[.int .i64 h, .string i, .string r] 23) := ⟨_, rfl⟩
 have hk0 : KX w.heap.size h i r W0 := by rw [hW0]; exact KX.new w _ _ _
 have HB0 := hide (show Below w.heap.size w W0 by rw [hW0]; exact (Below.refl _ _).alloc (Nat.le_refl _) _)
 have HK0 := hide hk0
 obtain ⟨o, ho⟩ : ∃ o, encK (h, i.data.toList, r.data.toList) = o := ⟨_, rfl⟩
 rw [ho]
 have HO := hide ho
 obtain ⟨n0, n1, n2, -, -, -⟩ := hk0.facts
 obtain ⟨kq, hkq⟩ : ∃ kq, chkK (h, i.data.toList, r.data.toList) = kq := ⟨_, rfl⟩
 have HKQ := hide hkq
 clear hk0 hkq ho
 go_enter Tryd.func10, Tryd.ntmps10
 go_upto_region 1 with fail
 rw [← hW0]
 clear hW0
 go_wp2_with fail
 refine (rCheckKey_any h i r _).mono ?_
 rintro e w1 ⟨rfl, hb1⟩
 rw [HKQ.out]
 have HB1 := hide (HB0.out.trans (hb1.mono HB0.out.size))
 have HK1 := hide (HK0.out.below hb1)
 clear hb1 n0 n1 n2
 by_cases hk : kq = 0
 ·subst hk
  obtain ⟨a, hha, hi, hr, hraw⟩ := key_byte HKQ.out
  have HE := hide (show o = (keyW (h, i.data.toList, r.data.toList), 0) by rw [← HO.out, encK, if_pos HKQ.out])
  rw [keyW, hraw] at HE
  obtain ⟨y, hy⟩ : ∃ y : ByteArray, y = ⟨(a :: (i.data.toList ++ r.data.toList)).toArray⟩ := ⟨_, rfl⟩
  have hyl : y.data.toList = a :: (i.data.toList ++ r.data.toList) := by rw [hy]
  have hys : y.size = 33 := by rw [← size_string, hyl]; simp [hi, hr]
  obtain ⟨z, hz⟩ : ∃ z : ByteArray, (⟨#[0]⟩ : ByteArray) ++ y = z := ⟨_, rfl⟩
  have hzl : z.data.toList = 0 :: y.data.toList := by rw [← hz]; simp [ByteArray.data_append]
  have hzs : z.size = 34 := by rw [← size_string, hzl]; simp [hys]
  obtain ⟨b, hb⟩ : ∃ b : ByteArray, b = ⟨(wrapW 3 z.data.toList).toArray⟩ := ⟨_, rfl⟩
  have hbl : b.data.toList = wrapW 3 z.data.toList := by rw [hb]
  have hbs : b.size ≤ 39 := by
   rw [← size_string, hbl, wrapW_len]
   have := lenB_le z.data.toList.length
   rw [size_string] at *
   omega
  have HC := hide (fun W => rraw_any a i r hi hr y hy W)
  have hbs1 : ¬ 9223372036854775807 < (⟨#[0]⟩ : ByteArray).size + y.size := by rw [show (⟨#[0]⟩ : ByteArray).size = 1 from rfl]; omega
  have hbs2 : ¬ 9223372036854775807 < 1 + y.size := by omega
  have HW3 := hide (show (⟨(wrapG 3 [z.data.toList]).1.toArray⟩ : ByteArray) = b by rw [wrapG_of (by omega), wrapF_one (by omega), hb])
  obtain ⟨E, hE⟩ : ∃ E : ByteArray, E = ⟨(wrapW 48 (algA.data.toList ++ b.data.toList)).toArray⟩ := ⟨_, rfl⟩
  have HW48 := hide (show (⟨(wrapG 48 [algA.data.toList, b.data.toList]).1.toArray⟩ : ByteArray) = E by
   rw [wrapG_of (by omega), wrapF_two (by rw [algA_size]; omega), hE])
  have HEE := hide (show wrapR o = .tuple #[.string E, .int .i64 0] by rw [HE.out, wrapR, hE, keyW_app, hbl, hzl, hyl])
  subst hha
  have hzs6 : z.size ≤ 1000000 := by omega
  have hbs6 : b.size ≤ 1000000 := by omega
  obtain ⟨A, hA⟩ : ∃ A : ByteArray, algA = A := ⟨_, rfl⟩
  have hAs : A.size ≤ 1000000 := by rw [← hA, algA_size]; omega
  have HAL := hide (fun W => hA ▸ rAlgorithm_any W)
  rw [hA] at HW48
  clear hE hi hr hraw hy hyl hys hzl hzs hb hbl hbs hA
  obtain ⟨n0, n1, n2, -, -, -⟩ := HK1.out.facts
  obtain ⟨g, hg⟩ : ∃ g, w.heap.size = g := ⟨_, rfl⟩
  rw [hg] at n0 n1 n2
  have HK2 := hide (hg ▸ HK1.out)
  have hbb : Below w1.heap.size w1 w1 := Below.refl _ _
  have HWA := hide (show ∀ W : World, Calls Tryd.prog 21 #[.int .i64 3, .slice (some ⟨W.heap.size, 0, none⟩) 1 1] (W.alloc (.cells #[.string z] 9)) fun e w' => e = .returned (.string b) ∧ Below W.heap.size W w' from fun W => wrap7_one 3 (by omega) z hzs6 b HW3.out W)
  have HWB := hide (show ∀ W : World, Calls Tryd.prog 21 #[.int .i64 48, .slice (some ⟨W.heap.size, 0, none⟩) 2 2] (W.alloc (.cells #[.string A, .string b] 9)) fun e w' => e = .returned (.string E) ∧ Below W.heap.size W w' from fun W => wrap7_two 48 (by omega) A b hAs hbs6 E HW48.out W)
  have HS := hide (fun (W : World) (hb : Below w1.heap.size w1 W) => (show W.cell? ⟨g, 0, none⟩ = some (.int .i64 (a.toNat : Int)) ∧ W.cell? ⟨g, 1, none⟩ = some (.string i) ∧ W.cell? ⟨g, 2, none⟩ = some (.string r) ∧ Below w1.heap.size w1 W from ⟨(HK2.out.below hb).facts.1, (HK2.out.below hb).facts.2.1, (HK2.out.below hb).facts.2.2.1, hb⟩))
  go_wp2_with fail
  go_region_held3 (fun W => W.cell? ⟨g, 0, none⟩ = some (.int .i64 (a.toNat : Int)) ∧ W.cell? ⟨g, 1, none⟩ = some (.string i) ∧ W.cell? ⟨g, 2, none⟩ = some (.string r) ∧ Below w1.heap.size w1 W)
   (first | exact HS.out _ hs3 | exact HS.out _ (hs3.alloc hs3.size _) | exact HS.out _ hbb.drew | exact HS.out _ hbb)
   (first
    | (go_at_call 22; refine (HAL.out _).mono ?_; rintro e w9 ⟨rfl, hb9⟩; have hs3 : Below w1.heap.size w1 w9 := (hbb.drew).trans hb9)
    | (go_at_call 23; refine (HC.out _).mono ?_; rintro e w10 ⟨rfl, hb10⟩; have hs3 : Below w1.heap.size w1 w10 := hs3.trans (hb10.mono hs3.size))
    | (go_at_call 21; (with_reducible refine (HWA.out _).mono ?_); rintro e w11 ⟨rfl, hb11⟩; have hs3 : Below w1.heap.size w1 w11 := hs3.trans (hb11.mono hs3.size))
    | (go_at_call 21; (with_reducible refine (HWB.out _).mono ?_); rintro e w12 ⟨rfl, hb12⟩; have hs3 : Below w1.heap.size w1 w12 := hs3.trans (hb12.mono hs3.size))
    | fail)
  all_goals
   go_wp2_with fail
   go_ret2
   exact ⟨by rw [HEE.out]; rfl, HB1.out.trans (hs3.mono HB1.out.size)⟩
 ·have HE := hide (encK_bad (HKQ.out ▸ hk))
  have h18 : kq = 18 := HKQ.out.symm.trans HE.out.1
  subst h18
  have HN := hide (show o = ([], 18) from HO.out.symm.trans HE.out.2)
  go_wp2_with fail
  go_ret2
  exact ⟨by rw [HN.out]; rfl, HB1.out⟩
end Go.Proofs.YtmgnihmjjijdoaaDoor
