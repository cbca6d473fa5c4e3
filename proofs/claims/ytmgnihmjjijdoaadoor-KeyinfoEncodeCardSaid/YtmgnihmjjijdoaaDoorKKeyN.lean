/- Keys: the example of the chapter. -/
import Derived.Test.YtmgnihmjjijdoaaDoorKKeyM
import Derived.Test.YtmgnihmjjijdoaaDoorKGOidD
namespace Go.Proofs.YtmgnihmjjijdoaaDoor
open Go.RowKit
theorem keyW_len {k : Key} (h : chkK k = 0) : (keyW k).length = 52 := by
 have hl := rawK_len h
 rw [keyW, wrapW_len, List.length_append, wrapW_len, List.length_cons, hl]
 decide
theorem encK_ok {k : Key} (h : chkK k = 0) : encK k = (keyW k, 0) := by rw [encK, if_pos h]
theorem made_ok {h : Nat} {i r : ByteArray} (hh : h ≤ 8) (hi : i.size = 16) (hr : r.size = 16) : chkK ((h : Int), i.data.toList, r.data.toList) = 0 := by
 unfold chkK
 rw [if_neg]
 have h1 : i.data.toList.length = 16 := by rw [size_string]; exact hi
 have h2 : r.data.toList.length = 16 := by rw [size_string]; exact hr
 show ¬ ((h : Int) < 0 ∨ 8 < (h : Int) ∨ i.data.toList.length ≠ 16 ∨ r.data.toList.length ≠ 16)
 omega
theorem made_back {h : Nat} {i r : ByteArray} (hh : h ≤ 8) (hi : i.size = 16) (hr : r.size = 16) :
    ∃ S : ByteArray, S.size = 52 ∧ wrapR (encK ((h : Int), i.data.toList, r.data.toList)) = .tuple #[.string S, .int .i64 0] ∧
      decKR (decK S.data.toList) = .tuple #[.agg #[.int .i64 (h : Int), .string i, .string r], .int .i64 0] := by
  have hk := made_ok hh hi hr
  refine ⟨⟨(keyW ((h : Int), i.data.toList, r.data.toList)).toArray⟩, by rw [ba_mk, keyW_len hk], by rw [encK_ok hk]; rfl, ?_⟩
  show decKR (decK (keyW _)) = _
  rw [decK_enc hk]
  rfl
set_option maxRecDepth 100000 in
set_option maxHeartbeats 4000000 in
theorem kawake_any (w : World) (hmx : Mx w) (htb : Tb w) : Calls Tryd.prog 4 #[] w fun e w' => e = .returned (.bool true) ∧ Below w.heap.size w w' := by
 have HMX := hide hmx
 have HTB := hide htb
 have hsl := sl_pu (f := intC) (size := 1) (fun _ => rfl) w #[.int .i64 1, .int .i64 3] 3 [1, 3] rfl (by simp [maxLen])
 have HSL := hide hsl
 have hb0 : Below w.heap.size w (w.alloc (.cells #[.int .i64 1, .int .i64 3] 3)) := (Below.refl _ _).alloc (Nat.le_refl _) _
 have HB0 := hide hb0
 clear hmx htb hsl hb0
 go_enter Tryd.func4, Tryd.ntmps4
 go_wp2_with fail
 refine (New_any [1, 3] _ 2 2 _ HSL.out).mono ?_
 rintro e w1 ⟨rfl, hd1, hb1⟩
 have HD1 := hide hd1
 have HB1 := hide (HB0.out.trans (hb1.mono HB0.out.size))
 have hz1 := HB1.out.size
 obtain ⟨d, hd⟩ : ∃ d, d = (w.alloc (.cells #[.int .i64 1, .int .i64 3] 3)).heap.size := ⟨_, rfl⟩
 rw [← hd] at HD1 ⊢
 have hdw : w.heap.size ≤ d := by rw [hd]; simp
 clear hd1 hb1 hd
 go_wp2_with fail
 refine (Key_any d _ HD1.out).mono ?_
 rintro e w2 ⟨h, i, r, hh, hi, hr, rfl, hd2, hx2⟩
 have HB2 := hide (Ex.below HB1.out hz1 hdw hx2)
 obtain ⟨S, hSs, hE, hD⟩ := made_back hh hi hr
 have HE := hide hE
 have HD := hide hD
 obtain ⟨W3, hW3⟩ : ∃ W, W = w2.alloc (.cells #[.int .i64 (h : Int), .string i, .string r] 23) := ⟨_, rfl⟩
 have hk3 := KX.new w2 (h : Int) i r
 have hb3 : Below w.heap.size w W3 := by rw [hW3]; exact HB2.out.alloc HB2.out.size _
 rw [← hW3] at hk3
 have HK3 := hide hk3
 have HB3 := hide hb3
 clear hd2 hx2 hE hD hk3 hb3
 go_upto_region 2 with fail
 rw [← hW3]
 clear hW3
 obtain ⟨g, hg⟩ : ∃ g, w2.heap.size = g := ⟨_, rfl⟩
 rw [hg] at HK3 ⊢
 clear hg
 obtain ⟨n0, n1, n2, -, -, -⟩ := HK3.out.facts
 go_wp2_with fail
 refine (KEncode_any (h : Int) i r _ (HMX.out.below HB3.out)).mono ?_
 rintro e w4 ⟨rfl, hb4⟩
 rw [HE.out]
 have HB4 := hide (HB3.out.trans (hb4.mono HB3.out.size))
 have HK4 := hide (HK3.out.below hb4)
 clear hb4 n0 n1 n2
 go_wp2_with fail
 refine (KDecode_any S (by omega) _ (HTB.out.below HB4.out)).mono ?_
 rintro e w5 ⟨rfl, hb5⟩
 rw [HD.out]
 have HB5 := hide (HB4.out.trans (hb5.mono HB4.out.size))
 have HK5 := hide (HK4.out.below hb5)
 clear hb5
 obtain ⟨W6, hW6⟩ : ∃ W, W = w5.alloc (.cells #[.int .i64 (h : Int), .string i, .string r] 23) := ⟨_, rfl⟩
 have hk6 := KX.new w5 (h : Int) i r
 have hb6 : Below w5.heap.size w5 W6 := by rw [hW6]; exact (Below.refl _ _).alloc (Nat.le_refl _) _
 rw [← hW6] at hk6
 have HK6 := hide hk6
 have HKg := hide (HK5.out.below hb6)
 have HB6 := hide (HB5.out.trans (hb6.mono HB5.out.size))
 clear hk6 hb6
 go_upto_region 4 with fail
 rw [← hW6]
 clear hW6
 obtain ⟨g2, hg2⟩ : ∃ g, w5.heap.size = g := ⟨_, rfl⟩
 rw [hg2] at HK6 ⊢
 clear hg2
 obtain ⟨n0, n1, n2, -, -, -⟩ := HKg.out.facts
 obtain ⟨m0, m1, m2, -, -, -⟩ := HK6.out.facts
 obtain ⟨al, hal⟩ : ∃ A : ByteArray, algA = A := ⟨_, rfl⟩
 have has : al.size = 14 := by rw [← hal]; rfl
 have HAL := hide (fun W h => hal ▸ Algorithm_any W h)
 clear hal
 go_wp2_with fail
 refine (HAL.out _ (HMX.out.below HB6.out)).mono ?_
 rintro e w7 ⟨rfl, hb7⟩
 have HB7 := hide (HB6.out.trans (hb7.mono HB6.out.size))
 clear hb7
 go_wp2_with fail
 go_ret
 exact ⟨rfl, HB7.out⟩
end Go.Proofs.YtmgnihmjjijdoaaDoor
