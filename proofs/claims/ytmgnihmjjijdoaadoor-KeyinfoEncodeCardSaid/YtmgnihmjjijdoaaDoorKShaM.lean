/- The program's hash of one string of 33 bytes; the program's Identifier. -/
import Derived.Test.YtmgnihmjjijdoaaDoorKShaL
import Derived.Test.YtmgnihmjjijdoaaDoorKShaE
import Derived.Test.YtmgnihmjjijdoaaDoorKKeyK
namespace Go.Proofs.YtmgnihmjjijdoaaDoor
open Go.RowKit
set_option maxRecDepth 100000 in
set_option maxHeartbeats 4000000 in
theorem pSum_any (y : ByteArray) (hy : y.size = 33) (A : Option Addr) (c : Nat) (w : World) (h : Sl RStr 1 w (Lt w.heap.size) [y.data.toList] [.slice A 1 c]) :
  Calls Tryd.prog 38 #[.slice A 1 c] w fun e w' => e = .returned (.string ⟨(sum1 y.data.toList).toArray⟩) ∧ Below w.heap.size w w' := by
 obtain ⟨bk, o, hA, hb, hc⟩ := h.strAt (i := 0) (by simp)
 subst hA
 have hc0 : w.cell? ⟨bk, o, none⟩ = some (.string y) := hc
 have hbk : bk < w.heap.size := hb
 have HYL := hide (show y.data.toList.length = 33 by rw [size_string]; exact hy)
 obtain ⟨r, hr⟩ : ∃ r : ByteArray, r = ⟨(sum1 y.data.toList).toArray⟩ := ⟨_, rfl⟩
 have HR := hide hr
 rw [← hr]
 clear h hb hc hr
 go_enter Tryd.func38, Tryd.ntmps38
 go_wp2_with fail
 refine (Start_any _).mono ?_
 rintro e w1 ⟨rfl, hs1, hb1⟩
 obtain ⟨g, hg⟩ : ∃ g, w.heap.size = g := ⟨_, rfl⟩
 have hgw : w.heap.size ≤ g := by omega
 have HS1 := hide (hg ▸ hs1)
 have HB1 := hide hb1
 have hc1 : w1.cell? ⟨bk, o, none⟩ = some (.string y) := (hb1.cell (p := ⟨bk, o, none⟩) hbk).trans hc0
 have HG := hide hg
 clear hs1 hb1 hc0 hg
 rw [HG.out]
 go_wp2_with fail
 go_loopw [9] (fun iv wr => (iv = .int .i64 0 ∧ wr = w1) ∨ (iv = .int .i64 1 ∧ ∃ v, StB g initS v 33 wr ∧ Sl RByte 1 wr (Lt wr.heap.size) y.data.toList [v] ∧ Below w.heap.size w wr)) (fun iv _ => 1 - (intOf iv).toNat)
 case atStart => exact .inl ⟨rfl, rfl⟩
 case round =>
  rcases hrel with ⟨rfl, rfl⟩ | ⟨rfl, v, hs, hsl, hb⟩
  ·go_wp2_with fail
   refine (Write_any y hy g _ HS1.out).mono ?_
   rintro e w2 ⟨rfl, v, hs2, hsl2, hx2⟩
   have HB2 := hide (Ex.below HB1.out HB1.out.size hgw hx2)
   have HS2 := hide hs2
   have HL2 := hide ((Sl.ok RByte.ok).mono hsl2 (S' := Lt w2.heap.size) (fun _ _ => rfl) (fun _ hj => hj.2))
   clear hs2 hsl2 hx2 hc1
   go_wp2_with fail
   go_roundw
   case rel => exact .inr ⟨rfl, v, HS2.out, HL2.out, HB2.out⟩
   case measure => simp [intOf]
  ·clear hc1
   go_wp2_with fail
   refine (SSum_any y.data.toList HYL.out g v _ hs hsl).mono ?_
   rintro e w3 ⟨rfl, hb3⟩
   go_wp2_with fail
   go_ret
   exact ⟨by rw [HR.out]; rfl, hb.trans (hb3.mono hb.size)⟩
theorem pShort_any (x y : ByteArray) (hx : x.size = 33) (hy : y = ⟨(short1 x.data.toList).toArray⟩) (A : Option Addr) (c : Nat) (w : World) (h : Sl RStr 1 w (Lt w.heap.size) [x.data.toList] [.slice A 1 c]) :
  Calls Tryd.prog 24 #[.slice A 1 c] w fun e w' => e = .returned (.string y) ∧ Below w.heap.size w w' := by
 have HS := hide h
 clear h
 go_enter Tryd.func24, Tryd.ntmps24
 go_wp2_with fail
 refine (pSum_any x hx A c _ HS.out).mono ?_
 rintro e w1 ⟨rfl, hb1⟩
 have HB1 := hide hb1
 clear hb1
 have hl := sum1_len x.data.toList
 obtain ⟨s, hs⟩ : ∃ s : ByteArray, s = ⟨(sum1 x.data.toList).toArray⟩ := ⟨_, rfl⟩
 have hss : s.size = 32 := by rw [hs, ba_mk, hl]
 have hsy : s.extract 0 16 = y := by
  apply ByteArray.ext
  rw [ByteArray.data_extract, hs, hy, short1]
  simp
 rw [← hs]
 clear hs hy hl
 go_wp2_with fail
 go_ret
 exact ⟨rfl, HB1.out⟩
set_option maxRecDepth 100000 in
set_option maxHeartbeats 4000000 in
theorem pIdent_any (h : Int) (i r : ByteArray) (w : World) :
  Calls Tryd.prog 11 #[.agg #[.int .i64 h, .string i, .string r]] w fun e w' => e = .returned (.string ⟨(identG (h, i.data.toList, r.data.toList)).toArray⟩) ∧ Below w.heap.size w w' := by
 obtain ⟨W0, hW0⟩ : ∃ W, W = w.alloc (.cells #[.int .i64 h, .string i, .string r] 23) := ⟨_, rfl⟩
 have hk0 : KX w.heap.size h i r W0 := by rw [hW0]; exact KX.new w _ _ _
 have HB0 := hide (show Below w.heap.size w W0 by rw [hW0]; exact (Below.refl _ _).alloc (Nat.le_refl _) _)
 have HK0 := hide hk0
 obtain ⟨o, ho⟩ : ∃ o : ByteArray, o = ⟨(identG (h, i.data.toList, r.data.toList)).toArray⟩ := ⟨_, rfl⟩
 rw [← ho]
 have HO := hide ho
 obtain ⟨n0, n1, n2, -, -, -⟩ := hk0.facts
 obtain ⟨kq, hkq⟩ : ∃ kq, chkK (h, i.data.toList, r.data.toList) = kq := ⟨_, rfl⟩
 have HKQ := hide hkq
 clear hk0 hkq ho
 go_enter Tryd.func11, Tryd.ntmps11
 go_upto_region 1 with fail
 rw [← hW0]
 clear hW0
 go_wp2_with fail
 refine (MCheck_any h i r _).mono ?_
 rintro e w1 ⟨rfl, hb1⟩
 rw [HKQ.out]
 have HB1 := hide (HB0.out.trans (hb1.mono HB0.out.size))
 have HK1 := hide (HK0.out.below hb1)
 clear hb1 n0 n1 n2
 by_cases hk : kq = 0
 ·subst hk
  obtain ⟨a, hha, hi, hr, hraw⟩ := key_byte HKQ.out
  obtain ⟨y, hy⟩ : ∃ y : ByteArray, y = ⟨(a :: (i.data.toList ++ r.data.toList)).toArray⟩ := ⟨_, rfl⟩
  have HE := hide (show o = ⟨(short1 y.data.toList).toArray⟩ by
   rw [HO.out, identG, if_pos HKQ.out, hraw, hy])
  have hys : y.size = 33 := by rw [hy, ba_mk]; simp [hi, hr]
  have HR := hide (fun W => content_any a i r hi hr y hy W)
  obtain ⟨n0, n1, n2, -, -, -⟩ := HK1.out.facts
  subst hha
  clear hy hraw
  go_wp2_with fail
  refine (HR.out _).mono ?_
  rintro e w2 ⟨rfl, hb2⟩
  have HB2 := hide (HB1.out.trans (hb2.mono HB1.out.size))
  have HSL := hide (sl_pu (f := strC) (size := 1) (fun _ => rfl) w2 #[.string y] 9 [y.data.toList] rfl (by simp [maxLen]))
  clear hb2 n0 n1 n2
  go_wp2_with fail
  refine (pShort_any y o hys HE.out _ 1 _ HSL.out).mono ?_
  rintro e w3 ⟨rfl, hb3⟩
  have HB3 := hide ((HB2.out.alloc HB2.out.size _).trans (hb3.mono (by have := HB2.out.size; simp; omega)))
  clear hb3
  go_wp2_with fail
  go_ret
  exact ⟨rfl, HB3.out⟩
 ·have HN := hide (show o = ⟨#[]⟩ by rw [HO.out, identG, if_neg (by rw [HKQ.out]; exact hk)])
  have hkb : (kq != 0) = true := by simpa using hk
  clear hk
  go_wp2_with fail
  go_ret
  exact ⟨by rw [HN.out]; rfl, HB1.out⟩
end Go.Proofs.YtmgnihmjjijdoaaDoor
