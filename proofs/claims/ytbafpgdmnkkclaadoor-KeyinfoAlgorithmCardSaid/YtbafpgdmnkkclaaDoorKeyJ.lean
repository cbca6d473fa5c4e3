/- The reference's DecodeKey: the whole. -/
import Derived.Test.YtbafpgdmnkkclaaDoorKeyI
namespace Go.Proofs.YtbafpgdmnkkclaaDoor
open Go.RowKit

def keyG (q : Elt → List Elt → Except Int Key) : List Elt → Except Int Key
  | [] => .error 3
  | x :: r => q x r
theorem below_drewK {B : Nat} {a w : World} (h : Below B a w) : Below B a w.drew := ⟨h.os, h.tape, h.output, h.size, h.block⟩
theorem keyT_cons (x : Elt) (q : List Elt) : keyT (x :: q) = bitE q (bitF x.1 x.2.1) := by rw [keyT, bitK_eq]


set_option maxRecDepth 100000 in
set_option maxHeartbeats 16000000 in
theorem rDecodeKey_open (s : ByteArray) (hs : s.size ≤ 1000000000) (w : World) (t : Nat) (c raw : List UInt8) (hk : oneF s.data.toList = .ok (t, c, raw)) (o : Except Int Key) (ho : o = decKG (openF (t : Int) 48 c)) :
    Calls Tryd.prog 14 #[.string s] w fun e w' => e = .returned (decKR o) ∧ Below w.heap.size w w' := by
  obtain ⟨W0, hW0, hb0, hr0, hn0, hz0⟩ := two_keys w
  have HK := hide hk
  have hcl : c.length ≤ 131072 := (one_is_wrap hk).2.2.1
  obtain ⟨x1, hx1⟩ : ∃ x : ByteArray, x = ⟨c.toArray⟩ := ⟨_, rfl⟩
  obtain ⟨x2, hx2⟩ : ∃ x : ByteArray, x = ⟨raw.toArray⟩ := ⟨_, rfl⟩
  have hx1d : c = x1.data.toList := by rw [hx1]
  have HV := hide (show oneR (.ok (t, c, raw)) = .tuple #[.agg #[.int .i64 (t : Int), .string x1, .string x2], .int .i64 0] by rw [oneR, eltV, hx1, hx2])
  obtain ⟨oo, hoo⟩ : ∃ oo, openF (t : Int) 48 x1.data.toList = oo := ⟨_, rfl⟩
  have HO := hide (show o = decKG oo by rw [ho, hx1d, hoo])
  have HOO := hide hoo
  rw [hx1d, size_string] at hcl
  clear hk ho hx1 hx2 hx1d hoo
  go_enter Tryd.func14, Tryd.ntmps14
  go_upto_region 2 with fail
  rw [← hW0]
  clear hW0
  have hz01 : w.heap.size + 2 ≤ W0.heap.size := by omega
  clear hz0
  go_wp2_with fail
  refine (rOne_any s hs _).mono ?_
  rintro e w1 ⟨rfl, hb1⟩
  rw [HK.out, HV.out]
  have hb01 := hb0.trans (hb1.mono (by omega))
  have hz1 := hb1.size
  have hbA := (Below.refl w1.heap.size w1).alloc (Nat.le_refl _) (.cells #[.int .i64 (t : Int), .string x1, .string x2] 38)
  have hbl := hb01.trans (hbA.mono hb01.size)
  have hrA := (hr0.below hb1).below hbA
  have hnA := (hn0.below hb1).below hbA
  go_upto_region 3 with fail
  obtain ⟨wA, hwA⟩ : ∃ W, W = w1.alloc (.cells #[.int .i64 (t : Int), .string x1, .string x2] 38) := ⟨_, rfl⟩
  have m0 : wA.cell? ⟨w1.heap.size, 0, none⟩ = some (.int .i64 (t : Int)) := by rw [hwA, World.cell?_alloc_new]; rfl
  have m1 : wA.cell? ⟨w1.heap.size, 1, none⟩ = some (.string x1) := by rw [hwA, World.cell?_alloc_new]; rfl
  have m2 : wA.cell? ⟨w1.heap.size, 2, none⟩ = some (.string x2) := by rw [hwA, World.cell?_alloc_new]; rfl
  have hzA : w.heap.size + 2 ≤ wA.heap.size := by rw [hwA]; simp; omega
  rw [← hwA] at hbl hrA hnA ⊢
  clear hwA hbA hb0 hr0 hn0 hb1 hb01
  go_wp2_with fail
  refine (Open_any (t : Int) 48 x1 x2 (by omega) _).mono ?_
  rintro e w2 ⟨hb2, hres⟩
  rw [HOO.out] at hres
  have hbl2 := hbl.trans (hb2.mono hbl.size)
  have hr2 := hrA.below hb2
  have hn2 := hnA.below hb2
  have hz2 := hb2.size
  clear m0 m1 m2 hrA hnA hbl
  cases oo with
  | error k =>
    obtain rfl : e = _ := hres
    have hk : k ≠ 0 := fun h => open_err0 (h ▸ HOO.out)
    have ht2 : (k != 0) = true := by simpa using hk
    have HN := hide (show o = .error k from HO.out)
    have hbB := (Below.refl w2.heap.size w2).alloc (Nat.le_refl _) (.cells #[.slice none 0 0, .int .i64 0] 65)
    have hblB := hbl2.trans (hbB.mono hbl2.size)
    have hrB := hr2.below hbB
    have hnB := hn2.below hbB
    go_upto_region 6 with fail
    obtain ⟨wB, hwB⟩ : ∃ W, W = w2.alloc (.cells #[.slice none 0 0, .int .i64 0] 65) := ⟨_, rfl⟩
    rw [← hwB] at hblB hrB hnB ⊢
    clear hk hwB hbB
    obtain ⟨r0, r1, r2, f0, f1, f2⟩ := (hrB).facts
    obtain ⟨n0, n1, n2, -, -, -⟩ := (hnB).facts
    go_wp2_with fail
    obtain ⟨q0, q1, q2⟩ := (hrB).store (.int .i64 0) (.string ⟨#[]⟩) (.string ⟨#[]⟩)
    have hbz := (((hblB).setCell (p := ⟨w.heap.size, 0, none⟩) (Nat.le_refl _) (.int .i64 0)).setCell (p := ⟨w.heap.size, 1, none⟩) (Nat.le_refl _) (.string ⟨#[]⟩)).setCell (p := ⟨w.heap.size, 2, none⟩) (Nat.le_refl _) (.string ⟨#[]⟩)
    obtain ⟨W3, hW3⟩ : ∃ W3, W3 = ((wB.setCell ⟨w.heap.size, 0, none⟩ (.int .i64 0)).setCell ⟨w.heap.size, 1, none⟩ (.string ⟨#[]⟩)).setCell ⟨w.heap.size, 2, none⟩ (.string ⟨#[]⟩) := ⟨_, rfl⟩
    rw [← hW3] at q0 q1 q2 hbz ⊢
    exact bodyPost_ret (v := .tuple #[.agg #[(.int .i64 0), (.string ⟨#[]⟩), (.string ⟨#[]⟩)], .int .i64 k]) (by simp [results, Tryd.results14, go_sem, q0, q1, q2]) rfl ⟨by rw [HN.out]; rfl, hbz⟩
  | ok l =>
    obtain ⟨A, cp, rfl, hsl⟩ := hres
    have hlis : listF x1.data.toList = .ok l := by
      have := HOO.out
      unfold openF at this
      split at this
      · cases this
      · exact this
    have HML := hide (list_is_wrap _ _ _ (Nat.le_refl _) hlis)
    have HX := hide (show o = decKl l from HO.out)
    have hbB := (Below.refl w2.heap.size w2).alloc (Nat.le_refl _) (.cells #[.slice A l.length cp, .int .i64 0] 65)
    obtain ⟨wB, hwB⟩ : ∃ W, W = w2.alloc (.cells #[.slice A l.length cp, .int .i64 0] 65) := ⟨_, rfl⟩
    have hf := FAt.new hsl hwB
    go_upto_region 6 with fail
    rw [← hwB] at hbB ⊢
    have hsB : KSt w w2.heap.size l wB := ⟨hbl2.trans (hbB.mono hbl2.size), hr2.below hbB, hn2.below hbB, hf, by omega⟩
    obtain ⟨g, hg⟩ : ∃ g, g = w2.heap.size := ⟨_, rfl⟩
    rw [← hg] at hsB ⊢
    have HSB := hide hsB
    clear hwB hbB hf hsl hg hsB hlis hb2 hbl2 hr2 hn2 hz2 hzA
    cases l with
    | nil =>
      have HN := hide (show o = .error 3 from HX.out)
      have HNE := hide (show (needF [] (-1)).1 = .error 3 from rfl)
      go_wp2_with fail
      refine (Need_any g [] (-1) _ (HSB.out).f).mono ?_
      rintro e w9 ⟨rfl, hf9, hx9⟩
      have hs9 := (HSB.out).step hx9 hf9
      have hsA := hs9.grow ((Below.refl w9.heap.size w9).alloc (Nat.le_refl _) (.cells #[.int .i64 0, .string ⟨#[]⟩, .string ⟨#[]⟩] 38))
      rw [show (needF [] (-1)).1 = .error 3 from HNE.out, show oneR (.error 3) = .tuple #[.agg #[.int .i64 0, .string ⟨#[]⟩, .string ⟨#[]⟩], .int .i64 3] from rfl]
      go_upto_region 9 with fail
      obtain ⟨wA9, hwA9⟩ : ∃ W, W = w9.alloc (.cells #[.int .i64 0, .string ⟨#[]⟩, .string ⟨#[]⟩] 38) := ⟨_, rfl⟩
      rw [← hwA9] at hsA ⊢
      clear hwA9 hf9 hx9 hs9
      obtain ⟨r0, r1, r2, f0, f1, f2⟩ := (hsA.r).facts
      obtain ⟨n0, n1, n2, -, -, -⟩ := (hsA.n).facts
      go_wp2_with fail
      obtain ⟨q0, q1, q2⟩ := (hsA.r).store (.int .i64 0) (.string ⟨#[]⟩) (.string ⟨#[]⟩)
      have hbz := (((hsA.below).setCell (p := ⟨w.heap.size, 0, none⟩) (Nat.le_refl _) (.int .i64 0)).setCell (p := ⟨w.heap.size, 1, none⟩) (Nat.le_refl _) (.string ⟨#[]⟩)).setCell (p := ⟨w.heap.size, 2, none⟩) (Nat.le_refl _) (.string ⟨#[]⟩)
      obtain ⟨W3, hW3⟩ : ∃ W3, W3 = ((wA9.setCell ⟨w.heap.size, 0, none⟩ (.int .i64 0)).setCell ⟨w.heap.size, 1, none⟩ (.string ⟨#[]⟩)).setCell ⟨w.heap.size, 2, none⟩ (.string ⟨#[]⟩) := ⟨_, rfl⟩
      rw [← hW3] at q0 q1 q2 hbz ⊢
      exact bodyPost_ret (v := .tuple #[.agg #[(.int .i64 0), (.string ⟨#[]⟩), (.string ⟨#[]⟩)], .int .i64 3]) (by simp [results, Tryd.results14, go_sem, q0, q1, q2]) rfl ⟨by rw [HN.out]; rfl, hbz⟩
    | cons a r =>
      obtain ⟨at_, ac, ar⟩ := a
      have hacl := (HML.out (at_, ac, ar) (by simp)).2.2.1
      simp only at hacl
      obtain ⟨xa, hxa⟩ : ∃ x : ByteArray, x = ⟨ac.toArray⟩ := ⟨_, rfl⟩
      obtain ⟨xb, hxb⟩ : ∃ x : ByteArray, x = ⟨ar.toArray⟩ := ⟨_, rfl⟩
      have had : ac = xa.data.toList := by rw [hxa]
      rw [had, size_string] at hacl
      have HV2 := hide (show oneR (.ok (at_, ac, ar)) = .tuple #[.agg #[.int .i64 (at_ : Int), .string xa, .string xb], .int .i64 0] by rw [oneR, eltV, hxa, hxb])
      have HNF := hide (show needF ((at_, ac, ar) :: r) (-1) = (.ok (at_, ac, ar), r) by rw [needF, if_neg (fun h => by have := h.1; omega)])
      obtain ⟨kq, hkq⟩ : ∃ kq, chkAlg (at_ : Int) xa.data.toList = kq := ⟨_, rfl⟩
      have HX2 := hide (show o = if kq ≠ 0 then .error kq else keyT r by rw [HX.out, decKl]; simp only; rw [had, hkq])
      have HKQ := hide hkq
      clear hxa hxb had hkq
      go_wp2_with fail
      refine (Need_any g ((at_, ac, ar) :: r) (-1) _ HSB.out.f).mono ?_
      rintro e w9 ⟨rfl, hf9, hx9⟩
      rw [HNF.out] at hf9 ⊢
      have hs9 := HSB.out.step hx9 hf9
      rw [HV2.out]
      have hsA := hs9.grow ((Below.refl w9.heap.size w9).alloc (Nat.le_refl _) (.cells #[.int .i64 (at_ : Int), .string xa, .string xb] 38))
      go_upto_region 9 with fail
      obtain ⟨wC, hwC⟩ : ∃ W, W = w9.alloc (.cells #[.int .i64 (at_ : Int), .string xa, .string xb] 38) := ⟨_, rfl⟩
      have m0 : wC.cell? ⟨w9.heap.size, 0, none⟩ = some (.int .i64 (at_ : Int)) := by rw [hwC, World.cell?_alloc_new]; rfl
      have m1 : wC.cell? ⟨w9.heap.size, 1, none⟩ = some (.string xa) := by rw [hwC, World.cell?_alloc_new]; rfl
      have m2 : wC.cell? ⟨w9.heap.size, 2, none⟩ = some (.string xb) := by rw [hwC, World.cell?_alloc_new]; rfl
      rw [← hwC] at hsA ⊢
      have HSC := hide hsA
      clear hwC hf9 hx9 hs9 hsA
      go_wp2_with fail
      refine (rCheckAlgorithm_any (at_ : Int) xa xb hacl _).mono ?_
      rintro e w10 ⟨rfl, hb10⟩
      rw [HKQ.out]
      have HSD := hide (HSC.out.grow hb10)
      clear hb10 m0 m1 m2
      by_cases hk0 : kq = 0
      · subst hk0
        have HX3 := hide (show o = keyT r from HX2.out)
        cases r with
        | nil =>
          have HN := hide (show o = .error 3 from HX3.out)
          have HNE := hide (show (needF [] 3).1 = .error 3 from rfl)
          go_wp2_with fail
          refine (Need_any g [] 3 _ (HSD.out).f).mono ?_
          rintro e w9 ⟨rfl, hf9, hx9⟩
          have hs9 := (HSD.out).step hx9 hf9
          have hsA := hs9.grow ((Below.refl w9.heap.size w9).alloc (Nat.le_refl _) (.cells #[.int .i64 0, .string ⟨#[]⟩, .string ⟨#[]⟩] 38))
          rw [show (needF [] 3).1 = .error 3 from HNE.out, show oneR (.error 3) = .tuple #[.agg #[.int .i64 0, .string ⟨#[]⟩, .string ⟨#[]⟩], .int .i64 3] from rfl]
          go_upto_region 15 with fail
          obtain ⟨wA9, hwA9⟩ : ∃ W, W = w9.alloc (.cells #[.int .i64 0, .string ⟨#[]⟩, .string ⟨#[]⟩] 38) := ⟨_, rfl⟩
          rw [← hwA9] at hsA ⊢
          clear hwA9 hf9 hx9 hs9
          obtain ⟨r0, r1, r2, f0, f1, f2⟩ := (hsA.r).facts
          obtain ⟨n0, n1, n2, -, -, -⟩ := (hsA.n).facts
          go_wp2_with fail
          obtain ⟨q0, q1, q2⟩ := (hsA.r).store (.int .i64 0) (.string ⟨#[]⟩) (.string ⟨#[]⟩)
          have hbz := (((hsA.below).setCell (p := ⟨w.heap.size, 0, none⟩) (Nat.le_refl _) (.int .i64 0)).setCell (p := ⟨w.heap.size, 1, none⟩) (Nat.le_refl _) (.string ⟨#[]⟩)).setCell (p := ⟨w.heap.size, 2, none⟩) (Nat.le_refl _) (.string ⟨#[]⟩)
          obtain ⟨W3, hW3⟩ : ∃ W3, W3 = ((wA9.setCell ⟨w.heap.size, 0, none⟩ (.int .i64 0)).setCell ⟨w.heap.size, 1, none⟩ (.string ⟨#[]⟩)).setCell ⟨w.heap.size, 2, none⟩ (.string ⟨#[]⟩) := ⟨_, rfl⟩
          rw [← hW3] at q0 q1 q2 hbz ⊢
          exact bodyPost_ret (v := .tuple #[.agg #[(.int .i64 0), (.string ⟨#[]⟩), (.string ⟨#[]⟩)], .int .i64 3]) (by simp [results, Tryd.results14, go_sem, q0, q1, q2]) rfl ⟨by rw [HN.out]; rfl, hbz⟩
        | cons v q =>
          obtain ⟨vt, vc, vr⟩ := v
          have hvcl := (HML.out (vt, vc, vr) (by simp)).2.2.1
          simp only at hvcl
          by_cases h3 : vt = 3
          · obtain ⟨xv, hxv⟩ : ∃ x : ByteArray, x = ⟨vc.toArray⟩ := ⟨_, rfl⟩
            obtain ⟨xw, hxw⟩ : ∃ x : ByteArray, x = ⟨vr.toArray⟩ := ⟨_, rfl⟩
            have hvd : vc = xv.data.toList := by rw [hxv]
            rw [hvd, size_string] at hvcl
            have HV3 := hide (show oneR (.ok (vt, vc, vr)) = .tuple #[.agg #[.int .i64 (vt : Int), .string xv, .string xw], .int .i64 0] by rw [oneR, eltV, hxv, hxw])
            have HNF3 := hide (show needF ((vt, vc, vr) :: q) 3 = (.ok (vt, vc, vr), q) by rw [needF, if_neg (fun h => h.2 (by rw [h3]; rfl))])
            obtain ⟨p, hp⟩ : ∃ p, bitsF xv.data.toList = p := ⟨_, rfl⟩
            have HX4 := hide (show o = bitE q (bitP p) by rw [HX3.out, keyT_cons]; simp only; rw [bitF, if_neg (by omega), hvd, hp])
            have HP := hide hp
            clear h3 hxv hxw hvd hp
            go_wp2_with fail
            refine (Need_any g ((vt, vc, vr) :: q) 3 _ HSD.out.f).mono ?_
            rintro e w11 ⟨rfl, hf11, hx11⟩
            rw [HNF3.out] at hf11 ⊢
            have hs11 := HSD.out.step hx11 hf11
            rw [HV3.out]
            have hsE := hs11.grow ((Below.refl w11.heap.size w11).alloc (Nat.le_refl _) (.cells #[.int .i64 (vt : Int), .string xv, .string xw] 38))
            go_upto_region 15 with fail
            obtain ⟨wE, hwE⟩ : ∃ W, W = w11.alloc (.cells #[.int .i64 (vt : Int), .string xv, .string xw] 38) := ⟨_, rfl⟩
            have m1 : wE.cell? ⟨w11.heap.size, 1, none⟩ = some (.string xv) := by rw [hwE, World.cell?_alloc_new]; rfl
            rw [← hwE] at hsE ⊢
            have HSE := hide hsE
            clear hwE hf11 hx11 hs11 hsE
            go_wp2_with fail
            refine (rBits_any xv (by omega) _).mono ?_
            rintro e w12 ⟨rfl, hb12⟩
            rw [HP.out]
            have HSF := hide (HSE.out.grow hb12)
            clear hb12 m1
            cases p with
            | none =>
              have HN := hide (show o = .error 7 from HX4.out)
              rw [show bitsR none = .tuple #[.string ⟨#[]⟩, .int .i64 0, .int .i64 7] from rfl]
              obtain ⟨r0, r1, r2, f0, f1, f2⟩ := (HSF.out.r).facts
              obtain ⟨n0, n1, n2, -, -, -⟩ := (HSF.out.n).facts
              go_wp2_with fail
              obtain ⟨q0, q1, q2⟩ := (HSF.out.r).store (.int .i64 0) (.string ⟨#[]⟩) (.string ⟨#[]⟩)
              have hbz := (((HSF.out.below).setCell (p := ⟨w.heap.size, 0, none⟩) (Nat.le_refl _) (.int .i64 0)).setCell (p := ⟨w.heap.size, 1, none⟩) (Nat.le_refl _) (.string ⟨#[]⟩)).setCell (p := ⟨w.heap.size, 2, none⟩) (Nat.le_refl _) (.string ⟨#[]⟩)
              obtain ⟨W3, hW3⟩ : ∃ W3, W3 = ((w12.setCell ⟨w.heap.size, 0, none⟩ (.int .i64 0)).setCell ⟨w.heap.size, 1, none⟩ (.string ⟨#[]⟩)).setCell ⟨w.heap.size, 2, none⟩ (.string ⟨#[]⟩) := ⟨_, rfl⟩
              rw [← hW3] at q0 q1 q2 hbz ⊢
              exact bodyPost_ret (v := .tuple #[.agg #[(.int .i64 0), (.string ⟨#[]⟩), (.string ⟨#[]⟩)], .int .i64 7]) (by simp [results, Tryd.results14, go_sem, q0, q1, q2]) rfl ⟨by rw [HN.out]; rfl, hbz⟩
            | some bu =>
              obtain ⟨b, u⟩ := bu
              obtain ⟨z, hz⟩ : ∃ s : ByteArray, s = ⟨b.toArray⟩ := ⟨_, rfl⟩
              have hbz : b = z.data.toList := by rw [hz]
              rw [show bitsR (some (b, u)) = .tuple #[.string z, .int .i64 (u : Int), .int .i64 0] by rw [hz]; rfl]
              have HX5 := hide (show o = bitE q (if u ≠ 0 ∨ z.size ≠ 33 then .error 18 else if chkK (keyB z.data.toList) ≠ 0 then .error 18 else .ok (keyB z.data.toList)) by rw [HX4.out, bitP, hbz, size_string])
              clear hz hbz
              by_cases hu : u = 0
              · by_cases hs33 : z.size = 33
                · have t2 : ((z.size : Int) != 33) = false := by rw [hs33]; rfl
                  have hu0 : ((u : Int) != 0) = false := by rw [hu]; rfl
                  have hp0 : 0 < z.size := by omega
                  have hpi : (0 : Int) < (z.size : Int) := by omega
                  obtain ⟨b0, hb0⟩ : ∃ v, z[0] = v := ⟨_, rfl⟩
                  have hs1 := slice_str (P := Tryd.prog) 9 Tryd.underlying9 z 1 17 1 17 rfl rfl (by omega) (by omega)
                  have hs2 := slice_from (P := Tryd.prog) 9 Tryd.underlying9 z 17 17 rfl (by omega)
                  obtain ⟨x, hx⟩ : ∃ x, z.extract 1 17 = x := ⟨_, rfl⟩
                  obtain ⟨y, hy⟩ : ∃ y, z.extract 17 z.size = y := ⟨_, rfl⟩
                  have hxl : x.data.toList = (z.data.toList.drop 1).take 16 := by rw [← hx, Lib.extract_data]
                  have hyl : y.data.toList = z.data.toList.drop 17 := by rw [← hy, bytes_drop]
                  have hd0 := drop_string z 0 hp0
                  rw [List.drop_zero, hb0] at hd0
                  have HKB := hide (show keyB z.data.toList = ((b0.toNat : Int), x.data.toList, y.data.toList) by rw [keyB, hxl, hyl, hd0]; rfl)
                  rw [hx] at hs1
                  rw [hy] at hs2
                  obtain ⟨kq, hkq⟩ : ∃ kq, chkK ((b0.toNat : Int), x.data.toList, y.data.toList) = kq := ⟨_, rfl⟩
                  have HX6 := hide (show o = bitE q (if kq ≠ 0 then .error 18 else .ok ((b0.toNat : Int), x.data.toList, y.data.toList)) by rw [HX5.out, if_neg (by simp [hu, hs33]), HKB.out, hkq])
                  have HKQ2 := hide hkq
                  have hvb := byte_lt b0
                  have hvw : IntKind.i64.wrap (b0.toNat : Int) = (b0.toNat : Int) := IntWalk.i64_in _ (by omega)
                  clear hx hy hxl hyl hd0 hkq hs33 hu
                  go_upto_region 22 with fail
                  go_region
                  all_goals
                    obtain ⟨wX, hwX⟩ : ∃ W, W = (w12.alloc (.cells #[.int .i64 (b0.toNat : Int), .string x, .string y] 30)).drew := ⟨_, rfl⟩
                    have hbX : Below w12.heap.size w12 wX := by rw [hwX]; exact below_drewK ((Below.refl _ _).alloc (Nat.le_refl _) _)
                    have hkX : KX w12.heap.size (b0.toNat : Int) x y wX := by rw [hwX]; exact KX.new w12 _ _ _
                    rw [← hwX]
                    obtain ⟨gX, hgX⟩ : ∃ gX, w12.heap.size = gX := ⟨_, rfl⟩
                    have HSX := hide (HSF.out.grow hbX)
                    rw [hgX] at hkX ⊢
                    have HKX := hide hkX
                    clear hwX hbX hkX hgX
                    obtain ⟨c0, c1, c2, f0, f1, f2⟩ := HKX.out.facts
                    go_wp2_with fail
                    refine (rCheckKey_any (b0.toNat : Int) x y _).mono ?_
                    rintro e w13 ⟨rfl, hb13⟩
                    rw [HKQ2.out]
                    have HSG := hide (HSX.out.grow hb13)
                    have HKG := hide (HKX.out.below hb13)
                    clear hb13 c0 c1 c2 f0 f1 f2
                    by_cases hk2 : kq = 0
                    · subst hk2
                      have HX7 := hide (show o = bitE q (.ok ((b0.toNat : Int), x.data.toList, y.data.toList)) from HX6.out)
                      go_wp2_with fail
                      refine (End_any g q _ HSG.out.f).mono ?_
                      rintro e w14 ⟨rfl, n14, rfl⟩
                      have HSH := hide (HSG.out.grow (below_drewN (Below.refl _ _) n14))
                      obtain ⟨w14, hw14⟩ : ∃ W, W = w13.drewN n14 := ⟨_, rfl⟩
                      have hkH : KX gX (b0.toNat : Int) x y w14 := by rw [hw14]; exact HKG.out.below (below_drewN (Below.refl _ _) n14)
                      rw [← hw14] at HSH ⊢
                      clear hw14
                      have HKH := hide hkH
                      clear hkH
                      obtain ⟨c0, c1, c2, -, -, -⟩ := HKH.out.facts
                      by_cases hq : q = []
                      · have HN := hide (show o = .ok ((b0.toNat : Int), x.data.toList, y.data.toList) by rw [HX7.out, bitE, if_neg (by simpa using hq)])
                        rw [if_pos hq]
                        clear hq
                        obtain ⟨r0, r1, r2, f0, f1, f2⟩ := HSH.out.r.facts
                        obtain ⟨n0, n1, n2, -, -, -⟩ := HSH.out.n.facts
                        go_wp2_with fail
                        obtain ⟨q0, q1, q2⟩ := (HSH.out.r).store (.int .i64 (b0.toNat : Int)) (.string x) (.string y)
                        have hbz := (((HSH.out.below).setCell (p := ⟨w.heap.size, 0, none⟩) (Nat.le_refl _) (.int .i64 (b0.toNat : Int))).setCell (p := ⟨w.heap.size, 1, none⟩) (Nat.le_refl _) (.string x)).setCell (p := ⟨w.heap.size, 2, none⟩) (Nat.le_refl _) (.string y)
                        obtain ⟨W3, hW3⟩ : ∃ W3, W3 = ((w14.setCell ⟨w.heap.size, 0, none⟩ (.int .i64 (b0.toNat : Int))).setCell ⟨w.heap.size, 1, none⟩ (.string x)).setCell ⟨w.heap.size, 2, none⟩ (.string y) := ⟨_, rfl⟩
                        rw [← hW3] at q0 q1 q2 hbz ⊢
                        exact bodyPost_ret (v := .tuple #[.agg #[(.int .i64 (b0.toNat : Int)), (.string x), (.string y)], .int .i64 0]) (by simp [results, Tryd.results14, go_sem, q0, q1, q2]) rfl ⟨by rw [HN.out]; rfl, hbz⟩
                      · have HN := hide (show o = .error 4 by rw [HX7.out, bitE, if_pos hq])
                        rw [if_neg hq]
                        clear hq
                        obtain ⟨r0, r1, r2, f0, f1, f2⟩ := (HSH.out.r).facts
                        obtain ⟨n0, n1, n2, -, -, -⟩ := (HSH.out.n).facts
                        go_wp2_with fail
                        obtain ⟨q0, q1, q2⟩ := (HSH.out.r).store (.int .i64 0) (.string ⟨#[]⟩) (.string ⟨#[]⟩)
                        have hbz := (((HSH.out.below).setCell (p := ⟨w.heap.size, 0, none⟩) (Nat.le_refl _) (.int .i64 0)).setCell (p := ⟨w.heap.size, 1, none⟩) (Nat.le_refl _) (.string ⟨#[]⟩)).setCell (p := ⟨w.heap.size, 2, none⟩) (Nat.le_refl _) (.string ⟨#[]⟩)
                        obtain ⟨W3, hW3⟩ : ∃ W3, W3 = ((w14.setCell ⟨w.heap.size, 0, none⟩ (.int .i64 0)).setCell ⟨w.heap.size, 1, none⟩ (.string ⟨#[]⟩)).setCell ⟨w.heap.size, 2, none⟩ (.string ⟨#[]⟩) := ⟨_, rfl⟩
                        rw [← hW3] at q0 q1 q2 hbz ⊢
                        exact bodyPost_ret (v := .tuple #[.agg #[(.int .i64 0), (.string ⟨#[]⟩), (.string ⟨#[]⟩)], .int .i64 4]) (by simp [results, Tryd.results14, go_sem, q0, q1, q2]) rfl ⟨by rw [HN.out]; rfl, hbz⟩
                    · have h18 : kq = 18 := by
                        have := HKQ2.out
                        unfold chkK at this
                        split at this <;> omega
                      subst h18
                      have HN := hide (show o = .error 18 from HX6.out)
                      obtain ⟨r0, r1, r2, f0, f1, f2⟩ := (HSG.out.r).facts
                      obtain ⟨n0, n1, n2, -, -, -⟩ := (HSG.out.n).facts
                      go_wp2_with fail
                      obtain ⟨q0, q1, q2⟩ := (HSG.out.r).store (.int .i64 0) (.string ⟨#[]⟩) (.string ⟨#[]⟩)
                      have hbz := (((HSG.out.below).setCell (p := ⟨w.heap.size, 0, none⟩) (Nat.le_refl _) (.int .i64 0)).setCell (p := ⟨w.heap.size, 1, none⟩) (Nat.le_refl _) (.string ⟨#[]⟩)).setCell (p := ⟨w.heap.size, 2, none⟩) (Nat.le_refl _) (.string ⟨#[]⟩)
                      obtain ⟨W3, hW3⟩ : ∃ W3, W3 = ((w13.setCell ⟨w.heap.size, 0, none⟩ (.int .i64 0)).setCell ⟨w.heap.size, 1, none⟩ (.string ⟨#[]⟩)).setCell ⟨w.heap.size, 2, none⟩ (.string ⟨#[]⟩) := ⟨_, rfl⟩
                      rw [← hW3] at q0 q1 q2 hbz ⊢
                      exact bodyPost_ret (v := .tuple #[.agg #[(.int .i64 0), (.string ⟨#[]⟩), (.string ⟨#[]⟩)], .int .i64 18]) (by simp [results, Tryd.results14, go_sem, q0, q1, q2]) rfl ⟨by rw [HN.out]; rfl, hbz⟩
                · have t2 : ((z.size : Int) != 33) = true := bne_iff_ne.2 (by omega)
                  have hu0 : ((u : Int) != 0) = false := by rw [hu]; rfl
                  have HN := hide (show o = .error 18 by rw [HX5.out, if_pos (.inr hs33)]; rfl)
                  clear hs33 hu
                  obtain ⟨r0, r1, r2, f0, f1, f2⟩ := (HSF.out.r).facts
                  obtain ⟨n0, n1, n2, -, -, -⟩ := (HSF.out.n).facts
                  go_wp2_with fail
                  obtain ⟨q0, q1, q2⟩ := (HSF.out.r).store (.int .i64 0) (.string ⟨#[]⟩) (.string ⟨#[]⟩)
                  have hbz := (((HSF.out.below).setCell (p := ⟨w.heap.size, 0, none⟩) (Nat.le_refl _) (.int .i64 0)).setCell (p := ⟨w.heap.size, 1, none⟩) (Nat.le_refl _) (.string ⟨#[]⟩)).setCell (p := ⟨w.heap.size, 2, none⟩) (Nat.le_refl _) (.string ⟨#[]⟩)
                  obtain ⟨W3, hW3⟩ : ∃ W3, W3 = ((w12.setCell ⟨w.heap.size, 0, none⟩ (.int .i64 0)).setCell ⟨w.heap.size, 1, none⟩ (.string ⟨#[]⟩)).setCell ⟨w.heap.size, 2, none⟩ (.string ⟨#[]⟩) := ⟨_, rfl⟩
                  rw [← hW3] at q0 q1 q2 hbz ⊢
                  exact bodyPost_ret (v := .tuple #[.agg #[(.int .i64 0), (.string ⟨#[]⟩), (.string ⟨#[]⟩)], .int .i64 18]) (by simp [results, Tryd.results14, go_sem, q0, q1, q2]) rfl ⟨by rw [HN.out]; rfl, hbz⟩
              · have hu0 : ((u : Int) != 0) = true := bne_iff_ne.2 (by omega)
                have HN := hide (show o = .error 18 by rw [HX5.out, if_pos (.inl hu)]; rfl)
                clear hu
                obtain ⟨r0, r1, r2, f0, f1, f2⟩ := (HSF.out.r).facts
                obtain ⟨n0, n1, n2, -, -, -⟩ := (HSF.out.n).facts
                go_wp2_with fail
                obtain ⟨q0, q1, q2⟩ := (HSF.out.r).store (.int .i64 0) (.string ⟨#[]⟩) (.string ⟨#[]⟩)
                have hbz := (((HSF.out.below).setCell (p := ⟨w.heap.size, 0, none⟩) (Nat.le_refl _) (.int .i64 0)).setCell (p := ⟨w.heap.size, 1, none⟩) (Nat.le_refl _) (.string ⟨#[]⟩)).setCell (p := ⟨w.heap.size, 2, none⟩) (Nat.le_refl _) (.string ⟨#[]⟩)
                obtain ⟨W3, hW3⟩ : ∃ W3, W3 = ((w12.setCell ⟨w.heap.size, 0, none⟩ (.int .i64 0)).setCell ⟨w.heap.size, 1, none⟩ (.string ⟨#[]⟩)).setCell ⟨w.heap.size, 2, none⟩ (.string ⟨#[]⟩) := ⟨_, rfl⟩
                rw [← hW3] at q0 q1 q2 hbz ⊢
                exact bodyPost_ret (v := .tuple #[.agg #[(.int .i64 0), (.string ⟨#[]⟩), (.string ⟨#[]⟩)], .int .i64 18]) (by simp [results, Tryd.results14, go_sem, q0, q1, q2]) rfl ⟨by rw [HN.out]; rfl, hbz⟩
          · have HNE := hide (show (needF ((vt, vc, vr) :: q) 3).1 = .error 5 by rw [needF, if_pos ⟨by omega, fun e => h3 (by simp only at e; omega)⟩])
            have HN := hide (show o = .error 5 by rw [HX3.out, keyT_cons]; simp only; rw [bitF, if_pos (by omega)]; rfl)
            clear h3
            go_wp2_with fail
            refine (Need_any g ((vt, vc, vr) :: q) 3 _ (HSD.out).f).mono ?_
            rintro e w9 ⟨rfl, hf9, hx9⟩
            have hs9 := (HSD.out).step hx9 hf9
            have hsA := hs9.grow ((Below.refl w9.heap.size w9).alloc (Nat.le_refl _) (.cells #[.int .i64 0, .string ⟨#[]⟩, .string ⟨#[]⟩] 38))
            rw [show (needF ((vt, vc, vr) :: q) 3).1 = .error 5 from HNE.out, show oneR (.error 5) = .tuple #[.agg #[.int .i64 0, .string ⟨#[]⟩, .string ⟨#[]⟩], .int .i64 5] from rfl]
            go_upto_region 15 with fail
            obtain ⟨wA9, hwA9⟩ : ∃ W, W = w9.alloc (.cells #[.int .i64 0, .string ⟨#[]⟩, .string ⟨#[]⟩] 38) := ⟨_, rfl⟩
            rw [← hwA9] at hsA ⊢
            clear hwA9 hf9 hx9 hs9
            obtain ⟨r0, r1, r2, f0, f1, f2⟩ := (hsA.r).facts
            obtain ⟨n0, n1, n2, -, -, -⟩ := (hsA.n).facts
            go_wp2_with fail
            obtain ⟨q0, q1, q2⟩ := (hsA.r).store (.int .i64 0) (.string ⟨#[]⟩) (.string ⟨#[]⟩)
            have hbz := (((hsA.below).setCell (p := ⟨w.heap.size, 0, none⟩) (Nat.le_refl _) (.int .i64 0)).setCell (p := ⟨w.heap.size, 1, none⟩) (Nat.le_refl _) (.string ⟨#[]⟩)).setCell (p := ⟨w.heap.size, 2, none⟩) (Nat.le_refl _) (.string ⟨#[]⟩)
            obtain ⟨W3, hW3⟩ : ∃ W3, W3 = ((wA9.setCell ⟨w.heap.size, 0, none⟩ (.int .i64 0)).setCell ⟨w.heap.size, 1, none⟩ (.string ⟨#[]⟩)).setCell ⟨w.heap.size, 2, none⟩ (.string ⟨#[]⟩) := ⟨_, rfl⟩
            rw [← hW3] at q0 q1 q2 hbz ⊢
            exact bodyPost_ret (v := .tuple #[.agg #[(.int .i64 0), (.string ⟨#[]⟩), (.string ⟨#[]⟩)], .int .i64 5]) (by simp [results, Tryd.results14, go_sem, q0, q1, q2]) rfl ⟨by rw [HN.out]; rfl, hbz⟩
      · have ht2 : (kq != 0) = true := by simpa using hk0
        have HN := hide (show o = .error kq by rw [HX2.out, if_pos hk0])
        clear hk0
        obtain ⟨r0, r1, r2, f0, f1, f2⟩ := (HSD.out.r).facts
        obtain ⟨n0, n1, n2, -, -, -⟩ := (HSD.out.n).facts
        go_wp2_with fail
        obtain ⟨q0, q1, q2⟩ := (HSD.out.r).store (.int .i64 0) (.string ⟨#[]⟩) (.string ⟨#[]⟩)
        have hbz := (((HSD.out.below).setCell (p := ⟨w.heap.size, 0, none⟩) (Nat.le_refl _) (.int .i64 0)).setCell (p := ⟨w.heap.size, 1, none⟩) (Nat.le_refl _) (.string ⟨#[]⟩)).setCell (p := ⟨w.heap.size, 2, none⟩) (Nat.le_refl _) (.string ⟨#[]⟩)
        obtain ⟨W3, hW3⟩ : ∃ W3, W3 = ((w10.setCell ⟨w.heap.size, 0, none⟩ (.int .i64 0)).setCell ⟨w.heap.size, 1, none⟩ (.string ⟨#[]⟩)).setCell ⟨w.heap.size, 2, none⟩ (.string ⟨#[]⟩) := ⟨_, rfl⟩
        rw [← hW3] at q0 q1 q2 hbz ⊢
        exact bodyPost_ret (v := .tuple #[.agg #[(.int .i64 0), (.string ⟨#[]⟩), (.string ⟨#[]⟩)], .int .i64 kq]) (by simp [results, Tryd.results14, go_sem, q0, q1, q2]) rfl ⟨by rw [HN.out]; rfl, hbz⟩

theorem rDecodeKey_any (s : ByteArray) (hs : s.size ≤ 1000000000) (w : World) :
    Calls Tryd.prog 14 #[.string s] w fun e w' => e = .returned (decKR (decK s.data.toList)) ∧ Below w.heap.size w w' := by
  rw [decK_one]
  cases hk : oneF s.data.toList with
  | error k => exact rDecodeKey_start s hs w k hk _ rfl
  | ok e =>
    obtain ⟨t, c, raw⟩ := e
    exact rDecodeKey_open s hs w t c raw hk _ (decKO_ok t c raw)
end Go.Proofs.YtbafpgdmnkkclaaDoor
