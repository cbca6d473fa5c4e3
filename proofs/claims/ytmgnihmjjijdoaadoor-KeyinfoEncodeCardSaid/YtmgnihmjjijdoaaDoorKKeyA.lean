/- The algorithm of keys, both sides: Algorithm, CheckAlgorithm. -/
import Derived.Test.YtmgnihmjjijdoaaDoorKKeyP
import Derived.Test.YtmgnihmjjijdoaaDoorKGTlvJ
import Derived.Test.YtmgnihmjjijdoaaDoorKGOidS
import Derived.Test.YtmgnihmjjijdoaaDoorKGTlvA
namespace Go.Proofs.YtmgnihmjjijdoaaDoor
open Go.RowKit
def algA : ByteArray := ⟨#[48, 12, 6, 10, 43, 6, 1, 4, 1, 131, 204, 8, 1, 1]⟩
theorem algA_size : algA.size = 14 := rfl
set_option maxRecDepth 100000 in
set_option maxHeartbeats 2000000 in
theorem Algorithm_any (w : World) (hmx : Mx w) : Calls Tryd.prog 14 #[] w fun e w' => e = .returned (.string algA) ∧ Below w.heap.size w w' := by
 obtain ⟨C, hC⟩ : ∃ C : ByteArray, C = ⟨#[43, 6, 1, 4, 1, 131, 204, 8, 1, 1]⟩ := ⟨_, rfl⟩
 obtain ⟨I, hI⟩ : ∃ I : ByteArray, I = ⟨#[6, 10, 43, 6, 1, 4, 1, 131, 204, 8, 1, 1]⟩ := ⟨_, rfl⟩
 have hCs : C.size = 10 := by rw [hC]; rfl
 have hIs : I.size = 12 := by rw [hI]; rfl
 have HE := hide (show encR (encP (⟨#[49, 46, 51, 46, 54, 46, 49, 46, 52, 46, 49, 46, 53, 56, 56, 56, 56, 46, 49, 46, 49]⟩ : ByteArray).data.toList) = .tuple #[.string C, .int .i64 0] by
  rw [show (⟨#[49, 46, 51, 46, 54, 46, 49, 46, 52, 46, 49, 46, 53, 56, 56, 56, 56, 46, 49, 46, 49]⟩ : ByteArray).data.toList = algS from rfl, algE_eq, hC]; rfl)
 have H6 := hide (show wrapF 6 [C.data.toList] = (algI, 0) by rw [wrapF_one (by omega), hC]; exact congrArg (·, (0 : Int)) algI_eq)
 have H48 := hide (show wrapF 48 [I.data.toList] = (algW, 0) by rw [wrapF_one (by omega), hI]; exact congrArg (·, (0 : Int)) algW_eq)
 have H6R := hide (show wrapR (algI, 0) = .tuple #[.string I, .int .i64 0] by rw [hI]; rfl)
 have H48R := hide (show wrapR (algW, 0) = .tuple #[.string algA, .int .i64 0] from rfl)
 obtain ⟨Z, hZ⟩ : ∃ Z : ByteArray, Z = algA := ⟨_, rfl⟩
 rw [← hZ] at H48R ⊢
 clear hC hI hZ
 go_enter Tryd.func14, Tryd.ntmps14
 go_wp2_with fail
 refine (Encode_any _ (by decide) _ hmx).mono ?_
 rintro e w1 ⟨rfl, hb1⟩
 rw [HE.out]
 go_wp2_with fail
 refine (wrap_one 6 (by omega) (by omega) C (by omega) _ H6.out _).mono ?_
 rintro e w2 ⟨rfl, hb2⟩
 rw [H6R.out]
 have HB2 := hide (hb1.trans (hb2.mono hb1.size))
 clear hb1 hb2
 go_wp2_with fail
 refine (wrap_one 48 (by omega) (by omega) I (by omega) _ H48.out _).mono ?_
 rintro e w3 ⟨rfl, hb3⟩
 rw [H48R.out]
 have HB3 := hide (HB2.out.trans (hb3.mono HB2.out.size))
 clear hb3
 go_wp2_with fail
 go_ret
 exact ⟨rfl, HB3.out⟩
set_option maxRecDepth 100000 in
set_option maxHeartbeats 2000000 in
theorem rAlgorithm_any (w : World) : Calls Tryd.prog 22 #[] w fun e w' => e = .returned (.string algA) ∧ Below w.heap.size w w' := by
 obtain ⟨I, hI⟩ : ∃ I : ByteArray, I = ⟨#[6, 10, 43, 6, 1, 4, 1, 131, 204, 8, 1, 1]⟩ := ⟨_, rfl⟩
 have hIs : I.size = 12 := by rw [hI]; rfl
 have HE := hide (show (⟨(idW (⟨#[49, 46, 51, 46, 54, 46, 49, 46, 52, 46, 49, 46, 53, 56, 56, 56, 56, 46, 49, 46, 49]⟩ : ByteArray).data.toList).toArray⟩ : ByteArray) = I by
  rw [show (⟨#[49, 46, 51, 46, 54, 46, 49, 46, 52, 46, 49, 46, 53, 56, 56, 56, 56, 46, 49, 46, 49]⟩ : ByteArray).data.toList = algS from rfl, idW, algE_eq, hI]
  show (⟨(wrapW 6 algC).toArray⟩ : ByteArray) = _
  rw [algI_eq]; rfl)
 obtain ⟨Z, hZ⟩ : ∃ Z : ByteArray, Z = algA := ⟨_, rfl⟩
 have H48 := hide (show (⟨(wrapG 48 [I.data.toList]).1.toArray⟩ : ByteArray) = Z by
  rw [wrapG, if_neg (by omega), wrapF_one (by omega), hI, hZ]
  show (⟨(wrapW 48 algI).toArray⟩ : ByteArray) = _
  rw [algW_eq]; rfl)
 rw [← hZ]
 clear hI hZ
 go_enter Tryd.func22, Tryd.ntmps22
 go_wp2_with fail
 refine (rOID_any _ (by decide) _).mono ?_
 rintro e w1 ⟨rfl, hb1⟩
 rw [HE.out]
 go_wp2_with fail
 refine (wrap7_one 48 (by omega) I (by omega) Z H48.out _).mono ?_
 rintro e w2 ⟨rfl, hb2⟩
 have HB2 := hide (hb1.trans (hb2.mono hb1.size))
 clear hb1 hb2
 go_wp2_with fail
 go_ret
 exact ⟨rfl, HB2.out⟩
def algG : Except Int (List Elt) → Int
 | .error k => k
 | .ok l => algL l
theorem chkAlg_eq {c : List UInt8} : chkAlg 48 c = algG (listF c) := by
 rw [chkAlg, if_neg (by simp)]
 cases listF c <;> rfl
def algD : Option (List UInt8) → List Elt → Int
 | none, _ => 11
 | some id, r => if id ≠ algS ∨ r ≠ [] then 16 else 0
theorem algL_six {a : Elt} {r : List Elt} (h : a.1 = 6) : algL (a :: r) = algD (decP a.2.1) r := by
 rw [algL, if_neg (by simpa using h)]
 cases decP a.2.1 <;> rfl
theorem eq_algS {y : ByteArray} : (y.toList == [49, 46, 51, 46, 54, 46, 49, 46, 52, 46, 49, 46, 53, 56, 56, 56, 56, 46, 49, 46, 49]) = decide (y.data.toList = algS) := by
 rw [ByteArray.toList_eq]
 by_cases h : y.data.toList = algS
 ·rw [h]; rfl
 ·rw [decide_eq_false h]; exact beq_false_of_ne h
set_option maxRecDepth 100000 in
set_option maxHeartbeats 4000000 in
theorem CheckAlgorithm_any (t : Int) (c raw : ByteArray) (hc : c.size ≤ 131072) (w : World) (htb : Tb w) :
    Calls Tryd.prog 40 #[.agg #[.int .i64 t, .string c, .string raw]] w fun e w' => e = .returned (.int .i64 (chkAlg t c.data.toList)) ∧ Below w.heap.size w w' := by
  obtain ⟨o, ho⟩ : ∃ o, chkAlg t c.data.toList = o := ⟨_, rfl⟩
  rw [ho]
  have HO := hide ho
  have HTB := hide htb
  clear ho htb
  obtain ⟨W0, hW0⟩ : ∃ W, W = w.alloc (.cells #[.int .i64 t, .string c, .string raw] 50) := ⟨_, rfl⟩
  have n0 : W0.cell? ⟨w.heap.size, 0, none⟩ = some (.int .i64 t) := by rw [hW0, World.cell?_alloc_new]; rfl
  have n1 : W0.cell? ⟨w.heap.size, 1, none⟩ = some (.string c) := by rw [hW0, World.cell?_alloc_new]; rfl
  have HB0 := hide (show Below w.heap.size w W0 by rw [hW0]; exact (Below.refl _ _).alloc (Nat.le_refl _) _)
  go_enter Tryd.func40, Tryd.ntmps40
  go_upto_region 1 with fail
  rw [← hW0]
  clear hW0
  by_cases h48 : t = 48
  · have ht : (t != 48) = false := by rw [h48]; rfl
    obtain ⟨L, hL⟩ : ∃ L, listF c.data.toList = L := ⟨_, rfl⟩
    have HX := hide (show o = algG L by rw [← HO.out, h48, chkAlg_eq, hL])
    have HL := hide hL
    clear h48 hL
    go_wp2_with fail
    refine (List_any c (by omega) _).mono ?_
    rintro e w1 ⟨hb1, hres⟩
    rw [HL.out] at hres
    have HBX := hide (HB0.out.trans (hb1.mono HB0.out.size))
    clear n0 n1 hb1 ht
    cases L with
    | error k =>
      obtain rfl : e = _ := hres
      have hk : k ≠ 0 := fun h => list_err0 _ _ (Nat.le_refl _) (h ▸ HL.out)
      have ht2 : (k != 0) = true := by simpa using hk
      have HN := hide (show o = k from HX.out)
      clear hk
      go_wp2_with fail
      go_ret
      exact ⟨by rw [HN.out]; rfl, HBX.out⟩
    | ok l =>
      obtain ⟨A, cp, rfl, hsl⟩ := hres
      have HSL := hide hsl
      have HML := hide (list_is_wrap _ _ _ (Nat.le_refl _) HL.out)
      have hll := list_len _ _ _ (Nat.le_refl _) HL.out
      rw [size_string] at hll
      have HX2 := hide (show o = algL l from HX.out)
      clear hsl
      cases l with
      | nil =>
        have HN := hide (show o = 3 from HX2.out)
        go_wp2_with fail
        go_ret
        exact ⟨by rw [HN.out]; rfl, HBX.out⟩
      | cons a r =>
        obtain ⟨at_, ac, ar⟩ := a
        obtain ⟨bb, oo, hAA, hSS, e0, e1, e2⟩ := HSL.out.eltAt (i := 0) (by simp)
        cases hAA
        simp only [List.getElem_cons_zero, Nat.zero_mul, Nat.add_zero] at e0 e1 e2
        have hacl := (HML.out (at_, ac, ar) (by simp)).2.2.1
        simp only at hacl
        obtain ⟨xa, hxa⟩ : ∃ x : ByteArray, x = ⟨ac.toArray⟩ := ⟨_, rfl⟩
        have had : ac = xa.data.toList := by rw [hxa]
        rw [← hxa] at e1
        rw [had, size_string] at hacl
        have HX3 := hide (show o = algL ((at_, xa.data.toList, ar) :: r) by rw [← had]; exact HX2.out)
        have hlen : ((at_, ac, ar) :: r).length = r.length + 1 := rfl
        rw [hlen] at hll ⊢
        clear hlen hxa had HX2
        by_cases h6 : at_ = 6
        · have ht6 : ((at_ : Int) != 6) = false := by rw [h6]; rfl
          obtain ⟨d, hd⟩ : ∃ d, decP xa.data.toList = d := ⟨_, rfl⟩
          have HX4 := hide (show o = algD d r by rw [HX3.out, algL_six h6, hd])
          have HDD := hide hd
          clear h6 hd
          go_wp2_with fail
          refine (Decode_any xa (by omega) _ (HTB.out.below HBX.out)).mono ?_
          rintro e w2 ⟨rfl, hb2⟩
          rw [HDD.out]
          have HBXo := HBX
          have HBX := hide (HBXo.out.trans (hb2.mono HBXo.out.size))
          clear hb2 e0 e1 e2 ht6
          cases d with
          | none =>
            have HN := hide (show o = 11 from HX4.out)
            rw [show encR none = .tuple #[.string ⟨#[]⟩, .int .i64 11] from rfl]
            go_wp2_with fail
            go_ret
            exact ⟨by rw [HN.out]; rfl, HBX.out⟩
          | some id =>
            obtain ⟨y, hy⟩ : ∃ y : ByteArray, y = ⟨id.toArray⟩ := ⟨_, rfl⟩
            have hyd : id = y.data.toList := by rw [hy]
            rw [show encR (some id) = .tuple #[.string y, .int .i64 0] by rw [hy]; rfl]
            have HX5 := hide (show o = if y.data.toList ≠ algS ∨ r ≠ [] then 16 else 0 by rw [← hyd]; exact HX4.out)
            have hne := eq_algS (y := y)
            clear hy hyd
            by_cases hs : y.data.toList = algS
            · rw [decide_eq_true hs] at hne
              by_cases hr : r = []
              · have HN := hide (show o = 0 by rw [HX5.out, if_neg (by simp [hs, hr])])
                have hrl : r.length = 0 := by rw [hr]; rfl
                rw [hrl]
                clear hs hr hll hrl
                go_wp2_with fail
                go_ret
                exact ⟨by rw [HN.out]; rfl, HBX.out⟩
              · have HN := hide (show o = 16 by rw [HX5.out, if_pos (.inr hr)])
                have hrl : (1 : Int) < ((r.length : Int) + 1) := by have := List.length_pos_iff.2 hr; omega
                clear hs hr
                go_wp2_with fail
                go_ret
                exact ⟨by rw [HN.out]; rfl, HBX.out⟩
            · rw [decide_eq_false hs] at hne
              have HN := hide (show o = 16 by rw [HX5.out, if_pos (.inl hs)])
              clear hs
              go_wp2_with fail
              go_ret
              exact ⟨by rw [HN.out]; rfl, HBX.out⟩
        · have ht6 : ((at_ : Int) != 6) = true := bne_iff_ne.2 (fun e => h6 (Int.ofNat.inj e))
          have HN := hide (show o = 5 by rw [HX3.out, algL, if_pos h6])
          clear h6
          go_wp2_with fail
          go_ret
          exact ⟨by rw [HN.out]; rfl, HBX.out⟩
  · have ht : (t != 48) = true := by simpa using h48
    have HN := hide (show o = 5 by rw [← HO.out, chkAlg, if_pos h48])
    have HBX := HB0
    clear h48
    go_wp2_with fail
    go_ret
    exact ⟨by rw [HN.out]; rfl, HBX.out⟩
end Go.Proofs.YtmgnihmjjijdoaaDoor
