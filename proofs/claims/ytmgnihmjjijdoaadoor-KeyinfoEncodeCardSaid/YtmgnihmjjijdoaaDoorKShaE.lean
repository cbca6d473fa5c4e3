/- The reference's Short; Identifier of the reference. -/
import Derived.Test.YtmgnihmjjijdoaaDoorKShaC
import Derived.Test.YtmgnihmjjijdoaaDoorKKeyL
namespace Go.Proofs.YtmgnihmjjijdoaaDoor
open Go.RowKit
def short1 (b : List UInt8) : List UInt8 := (sum1 b).take 16
theorem rShort_any (xs : List (List UInt8)) (A : Option Addr) (c : Nat) (hx : xs.flatten.length ≤ 54) (y : ByteArray) (hy : y = ⟨(short1 xs.flatten).toArray⟩) (w : World) (h : Sl RStr 1 w (Lt w.heap.size) xs [.slice A xs.length c]) :
  Calls Tryd.prog 25 #[.slice A xs.length c] w fun e w' => e = .returned (.string y) ∧ Below w.heap.size w w' := by
 have HS := hide h
 clear h
 go_enter Tryd.func25, Tryd.ntmps25
 go_wp2_with fail
 refine (rSum_any xs A c hx _ HS.out).mono ?_
 rintro e w1 ⟨rfl, hb1⟩
 have HB1 := hide hb1
 clear hb1
 have hl := sum1_len xs.flatten
 obtain ⟨s, hs⟩ : ∃ s : ByteArray, s = ⟨(sum1 xs.flatten).toArray⟩ := ⟨_, rfl⟩
 have hss : s.size = 32 := by rw [hs, ba_mk, hl]
 have hsy : s.extract 0 16 = y := by
  apply ByteArray.ext
  rw [ByteArray.data_extract, hs, hy, short1]
  simp
 rw [← hs]
 clear hs hy hl
 go_wp2_with fail
 go_ret
 exact ⟨rfl, HB1.out⟩
def identG (k : Key) : List UInt8 := if chkK k = 0 then short1 (rawK k) else []
set_option maxRecDepth 100000 in
set_option maxHeartbeats 4000000 in
theorem rIdent_any (h : Int) (i r : ByteArray) (w : World) :
  Calls Tryd.prog 12 #[.agg #[.int .i64 h, .string i, .string r]] w fun e w' => e = .returned (.string ⟨(identG (h, i.data.toList, r.data.toList)).toArray⟩) ∧ Below w.heap.size w w' := by
 obtain ⟨W0, hW0⟩ : ∃ W, W = w.alloc (.cells #[.int .i64 h, .string i, .string r] 23) := ⟨_, rfl⟩
 have hk0 : KX w.heap.size h i r W0 := by rw [hW0]; exact KX.new w _ _ _
 have HB0 := hide (show Below w.heap.size w W0 by rw [hW0]; exact (Below.refl _ _).alloc (Nat.le_refl _) _)
 have HK0 := hide hk0
 obtain ⟨o, ho⟩ : ∃ o : ByteArray, o = ⟨(identG (h, i.data.toList, r.data.toList)).toArray⟩ := ⟨_, rfl⟩
 rw [← ho]
 have HO := hide ho
 obtain ⟨n0, n1, n2, -, -, -⟩ := hk0.facts
 obtain ⟨kq, hkq⟩ : ∃ kq, chkK (h, i.data.toList, r.data.toList) = kq := ⟨_, rfl⟩
 have HKQ := hide hkq
 clear hk0 hkq ho
 go_enter Tryd.func12, Tryd.ntmps12
 go_upto_region 1 with fail
 rw [← hW0]
 clear hW0
 go_wp2_with fail
 refine (rCheckKey_any h i r _).mono ?_
 rintro e w1 ⟨rfl, hb1⟩
 rw [HKQ.out]
 have HB1 := hide (HB0.out.trans (hb1.mono HB0.out.size))
 have HK1 := hide (HK0.out.below hb1)
 clear hb1 n0 n1 n2
 by_cases hk : kq = 0
 ·subst hk
  obtain ⟨a, hha, hi, hr, hraw⟩ := key_byte HKQ.out
  obtain ⟨y, hy⟩ : ∃ y : ByteArray, y = ⟨(a :: (i.data.toList ++ r.data.toList)).toArray⟩ := ⟨_, rfl⟩
  have HE := hide (show o = ⟨(short1 ([y.data.toList] : List (List UInt8)).flatten).toArray⟩ by
   rw [HO.out, identG, if_pos HKQ.out, hraw, hy, List.flatten_cons, List.flatten_nil, List.append_nil])
  have hyl : y.data.toList.length = 33 := by rw [hy]; simp [hi, hr]
  have HZ := hide (show ([y.data.toList] : List (List UInt8)).flatten.length ≤ 54 by simp only [List.flatten_cons, List.flatten_nil, List.append_nil]; omega)
  have HR := hide (fun W => rraw_any a i r hi hr y hy W)
  obtain ⟨n0, n1, n2, -, -, -⟩ := HK1.out.facts
  subst hha
  clear hy hyl hraw
  go_wp2_with fail
  refine (HR.out _).mono ?_
  rintro e w2 ⟨rfl, hb2⟩
  have HB2 := hide (HB1.out.trans (hb2.mono HB1.out.size))
  have HSL := hide (sl_pu (f := strC) (size := 1) (fun _ => rfl) w2 #[.string y] 9 [y.data.toList] rfl (by simp [maxLen]))
  clear hb2 n0 n1 n2
  go_wp2_with fail
  refine (rShort_any [y.data.toList] _ 1 HZ.out o HE.out _ HSL.out).mono ?_
  rintro e w3 ⟨rfl, hb3⟩
  have HB3 := hide ((HB2.out.alloc HB2.out.size _).trans (hb3.mono (by have := HB2.out.size; simp; omega)))
  clear hb3
  go_wp2_with fail
  go_ret
  exact ⟨rfl, HB3.out⟩
 ·have HN := hide (show o = ⟨#[]⟩ by rw [HO.out, identG, if_neg (by rw [HKQ.out]; exact hk)])
  have hkb : (kq != 0) = true := by simpa using hk
  clear hk
  go_wp2_with fail
  go_ret
  exact ⟨by rw [HN.out]; rfl, HB1.out⟩
end Go.Proofs.YtmgnihmjjijdoaaDoor
