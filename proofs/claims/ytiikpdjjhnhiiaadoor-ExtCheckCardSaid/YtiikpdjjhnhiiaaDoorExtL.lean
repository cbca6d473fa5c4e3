/- The reference's extension, its walk. -/
import Derived.Test.YtiikpdjjhnhiiaaDoorExtK
namespace Go.Proofs.YtiikpdjjhnhiiaaDoor
open Go.RowKit



set_option maxRecDepth 100000 in
set_option maxHeartbeats 16000000 in
theorem extension_any (t : Nat) (c raw : ByteArray) (hc : c.size ≤ 131072) (w : World) :
    Calls Tryd.prog 69 #[.agg #[.int .i64 (t : Int), .string c, .string raw]] w fun e w' => e = .returned (decXR (decX (t, c.data.toList, raw.data.toList))) ∧ Below w.heap.size w w' := by
  obtain ⟨o, ho⟩ : ∃ o, decX (t, c.data.toList, raw.data.toList) = o := ⟨_, rfl⟩
  rw [ho]
  have HO := hide ho
  clear ho
  obtain ⟨W0, hW0, hb0, hr0, hn0, hz0, c0, c1, c2⟩ := three_new w (.int .i64 (t : Int)) (.string c) (.string raw)
  go_enter Tryd.func69, Tryd.ntmps69
  go_upto_region 2 with fail
  simp only [Nat.add_assoc, Nat.reduceAdd]
  rw [← hW0]
  clear hW0
  have hz00 : W0.heap.size ≤ w.heap.size + 3 := by omega
  have hz01 : w.heap.size + 3 ≤ W0.heap.size := by omega
  clear hz0
  obtain ⟨oo, hoo⟩ : ∃ oo, openF (t : Int) 48 c.data.toList = oo := ⟨_, rfl⟩
  have HOO := hide hoo
  clear hoo
  go_wp2_with fail
  refine (Open_any (t : Int) 48 c raw (by omega) _).mono ?_
  rintro e w1 ⟨hb1, hres⟩
  rw [HOO.out] at hres
  have hb01 := hb0.trans (hb1.mono (by omega))
  have hr1 := hr0.below hb1
  have hn1 := hn0.below hb1
  have hz1 := hb1.size
  clear c0 c1 c2
  have HEQ := hide (show o = decXG oo by
    rw [← HO.out, ← HOO.out, openF]
    by_cases h48 : t = 48
    · rw [if_neg (by rw [h48]; simp), decX_eq h48]
    · rw [if_pos (by omega), decX, if_pos h48]; rfl)
  cases oo with
  | error k =>
    obtain rfl : e = _ := hres
    have hk : k ≠ 0 := fun h => by
      have := HOO.out
      unfold openF at this
      split at this
      · cases this; cases h
      · rw [h] at this; exact list_err0 _ _ (Nat.le_refl _) this
    have ht2 : (k != 0) = true := by simpa using hk
    have HN := hide (show o = .error k from HEQ.out)
    have hbA := (Below.refl w1.heap.size w1).alloc (Nat.le_refl _) (.cells #[.slice none 0 0, .int .i64 0] 82)
    have hbl := hb01.trans (hbA.mono hb01.size)
    have hrA := hr1.below hbA
    have hnA := hn1.below hbA
    go_upto_region 3 with fail
    obtain ⟨wA, hwA⟩ : ∃ W, W = w1.alloc (.cells #[.slice none 0 0, .int .i64 0] 82) := ⟨_, rfl⟩
    rw [← hwA] at hbl hrA hnA ⊢
    clear hk hwA hbA
    obtain ⟨r0, r1, r2, f0, f1, f2⟩ := (hrA).facts
    obtain ⟨n0, n1, n2, -, -, -⟩ := (hnA).facts
    go_wp2_with fail
    obtain ⟨q0, q1, q2⟩ := (hrA).store (.string ⟨#[]⟩) (.bool false) (.string ⟨#[]⟩)
    have hbz := (((hbl).setCell (p := ⟨w.heap.size + 1, 0, none⟩) (by show _ ≤ w.heap.size + 1; omega) (.string ⟨#[]⟩)).setCell (p := ⟨w.heap.size + 1, 1, none⟩) (by show _ ≤ w.heap.size + 1; omega) (.bool false)).setCell (p := ⟨w.heap.size + 1, 2, none⟩) (by show _ ≤ w.heap.size + 1; omega) (.string ⟨#[]⟩)
    obtain ⟨W3, hW3⟩ : ∃ W3, W3 = ((wA.setCell ⟨w.heap.size + 1, 0, none⟩ (.string ⟨#[]⟩)).setCell ⟨w.heap.size + 1, 1, none⟩ (.bool false)).setCell ⟨w.heap.size + 1, 2, none⟩ (.string ⟨#[]⟩) := ⟨_, rfl⟩
    rw [← hW3] at q0 q1 q2 hbz ⊢
    exact bodyPost_ret (v := .tuple #[.agg #[(.string ⟨#[]⟩), (.bool false), (.string ⟨#[]⟩)], .int .i64 k]) (by simp [results, Tryd.results69, go_sem, q0, q1, q2]) rfl ⟨by rw [HN.out]; rfl, hbz⟩
  | ok l =>
    obtain ⟨A, cp, rfl, hsl⟩ := hres
    have HEQ2 := hide (show o = decL' l from HEQ.out)
    have hlis : listF c.data.toList = .ok l := by
      have := HOO.out
      unfold openF at this
      split at this
      · cases this
      · exact this
    have HML := hide (list_is_wrap _ _ _ (Nat.le_refl _) hlis)
    have hbA := (Below.refl w1.heap.size w1).alloc (Nat.le_refl _) (.cells #[.slice A l.length cp, .int .i64 0] 82)
    obtain ⟨wA, hwA⟩ : ∃ W, W = w1.alloc (.cells #[.slice A l.length cp, .int .i64 0] 82) := ⟨_, rfl⟩
    have hf := FAt.new hsl hwA
    go_upto_region 3 with fail
    rw [← hwA] at hbA ⊢
    have hsA : RSt w w1.heap.size l wA := ⟨hb01.trans (hbA.mono hb01.size), hr1.below hbA, hn1.below hbA, hf, by omega⟩
    obtain ⟨g, hg⟩ : ∃ g, g = w1.heap.size := ⟨_, rfl⟩
    rw [← hg] at hsA ⊢
    have HSA := hide hsA
    clear hwA hbA hf hsl hg hsA hlis hb1 hb01 hr1 hn1 hz1
    cases l with
    | nil =>
      have HN := hide (show o = .error 3 from HEQ2.out)
      go_wp2_with fail
      refine (Need_any g [] 6 _ HSA.out.f).mono ?_
      rintro e w9 ⟨rfl, hf9, hx9⟩
      have hs9 := HSA.out.step hx9 hf9
      have hsA := hs9.grow ((Below.refl w9.heap.size w9).alloc (Nat.le_refl _) (.cells #[.int .i64 0, .string ⟨#[]⟩, .string ⟨#[]⟩] 38))
      rw [show oneR (needF [] 6).1 = .tuple #[.agg #[.int .i64 0, .string ⟨#[]⟩, .string ⟨#[]⟩], .int .i64 3] from rfl]
      go_upto_region 6 with fail
      obtain ⟨wA9, hwA9⟩ : ∃ W, W = w9.alloc (.cells #[.int .i64 0, .string ⟨#[]⟩, .string ⟨#[]⟩] 38) := ⟨_, rfl⟩
      rw [← hwA9] at hsA ⊢
      clear hwA9 hf9 hx9 hs9
      obtain ⟨r0, r1, r2, f0, f1, f2⟩ := (hsA.r).facts
      obtain ⟨n0, n1, n2, -, -, -⟩ := (hsA.n).facts
      go_wp2_with fail
      obtain ⟨q0, q1, q2⟩ := (hsA.r).store (.string ⟨#[]⟩) (.bool false) (.string ⟨#[]⟩)
      have hbz := (((hsA.below).setCell (p := ⟨w.heap.size + 1, 0, none⟩) (by show _ ≤ w.heap.size + 1; omega) (.string ⟨#[]⟩)).setCell (p := ⟨w.heap.size + 1, 1, none⟩) (by show _ ≤ w.heap.size + 1; omega) (.bool false)).setCell (p := ⟨w.heap.size + 1, 2, none⟩) (by show _ ≤ w.heap.size + 1; omega) (.string ⟨#[]⟩)
      obtain ⟨W3, hW3⟩ : ∃ W3, W3 = ((wA9.setCell ⟨w.heap.size + 1, 0, none⟩ (.string ⟨#[]⟩)).setCell ⟨w.heap.size + 1, 1, none⟩ (.bool false)).setCell ⟨w.heap.size + 1, 2, none⟩ (.string ⟨#[]⟩) := ⟨_, rfl⟩
      rw [← hW3] at q0 q1 q2 hbz ⊢
      exact bodyPost_ret (v := .tuple #[.agg #[(.string ⟨#[]⟩), (.bool false), (.string ⟨#[]⟩)], .int .i64 3]) (by simp [results, Tryd.results69, go_sem, q0, q1, q2]) rfl ⟨by rw [HN.out]; rfl, hbz⟩
    | cons a r =>
      obtain ⟨at_, ac, ar⟩ := a
      have hacl := (HML.out (at_, ac, ar) (by simp)).2.2.1
      simp only at hacl
      obtain ⟨xa, hxa⟩ : ∃ x : ByteArray, x = ⟨ac.toArray⟩ := ⟨_, rfl⟩
      obtain ⟨xb, hxb⟩ : ∃ x : ByteArray, x = ⟨ar.toArray⟩ := ⟨_, rfl⟩
      have had : ac = xa.data.toList := by rw [hxa]
      rw [had, size_string] at hacl
      have HV := hide (show oneR (.ok (at_, ac, ar)) = .tuple #[.agg #[.int .i64 (at_ : Int), .string xa, .string xb], .int .i64 0] by rw [oneR, eltV, hxa, hxb])
      by_cases h6 : at_ = 6
      · have HNF := hide (show needF ((at_, ac, ar) :: r) 6 = (.ok (at_, ac, ar), r) by rw [needF, if_neg (fun h => h.2 (by rw [h6]; rfl))])
        obtain ⟨d, hd⟩ : ∃ d, decP xa.data.toList = d := ⟨_, rfl⟩
        have HX3 := hide (show o = decIG d r by rw [HEQ2.out, decL_eq h6, had, hd])
        have HDD := hide hd
        clear h6 hd hxa hxb had
        go_wp2_with fail
        refine (Need_any g ((at_, ac, ar) :: r) 6 _ HSA.out.f).mono ?_
        rintro e w9 ⟨rfl, hf9, hx9⟩
        rw [HNF.out] at hf9 ⊢
        have hs9 := HSA.out.step hx9 hf9
        rw [HV.out]
        have hsA := hs9.grow ((Below.refl w9.heap.size w9).alloc (Nat.le_refl _) (.cells #[.int .i64 (at_ : Int), .string xa, .string xb] 38))
        go_upto_region 6 with fail
        obtain ⟨wA9, hwA9⟩ : ∃ W, W = w9.alloc (.cells #[.int .i64 (at_ : Int), .string xa, .string xb] 38) := ⟨_, rfl⟩
        have m1 : wA9.cell? ⟨w9.heap.size, 1, none⟩ = some (.string xa) := by rw [hwA9, World.cell?_alloc_new]; rfl
        rw [← hwA9] at hsA ⊢
        have HSB := hide hsA
        clear hwA9 hf9 hx9 hs9 hsA
        go_wp2_with fail
        refine (rDecode_any xa (by omega) _).mono ?_
        rintro e w10 ⟨rfl, hb10⟩
        rw [HDD.out]
        have HSC := hide (HSB.out.grow hb10)
        clear hb10 m1
        cases d with
        | none =>
          have HN := hide (show o = .error 11 from HX3.out)
          rw [show encR none = .tuple #[.string ⟨#[]⟩, .int .i64 11] from rfl]
          obtain ⟨r0, r1, r2, f0, f1, f2⟩ := (HSC.out.r).facts
          obtain ⟨n0, n1, n2, -, -, -⟩ := (HSC.out.n).facts
          go_wp2_with fail
          obtain ⟨q0, q1, q2⟩ := (HSC.out.r).store (.string ⟨#[]⟩) (.bool false) (.string ⟨#[]⟩)
          have hbz := (((HSC.out.below).setCell (p := ⟨w.heap.size + 1, 0, none⟩) (by show _ ≤ w.heap.size + 1; omega) (.string ⟨#[]⟩)).setCell (p := ⟨w.heap.size + 1, 1, none⟩) (by show _ ≤ w.heap.size + 1; omega) (.bool false)).setCell (p := ⟨w.heap.size + 1, 2, none⟩) (by show _ ≤ w.heap.size + 1; omega) (.string ⟨#[]⟩)
          obtain ⟨W3, hW3⟩ : ∃ W3, W3 = ((w10.setCell ⟨w.heap.size + 1, 0, none⟩ (.string ⟨#[]⟩)).setCell ⟨w.heap.size + 1, 1, none⟩ (.bool false)).setCell ⟨w.heap.size + 1, 2, none⟩ (.string ⟨#[]⟩) := ⟨_, rfl⟩
          rw [← hW3] at q0 q1 q2 hbz ⊢
          exact bodyPost_ret (v := .tuple #[.agg #[(.string ⟨#[]⟩), (.bool false), (.string ⟨#[]⟩)], .int .i64 11]) (by simp [results, Tryd.results69, go_sem, q0, q1, q2]) rfl ⟨by rw [HN.out]; rfl, hbz⟩
        | some id =>
          obtain ⟨y, hy⟩ : ∃ y : ByteArray, y = ⟨id.toArray⟩ := ⟨_, rfl⟩
          have hyd : id = y.data.toList := by rw [hy]
          rw [show encR (some id) = .tuple #[.string y, .int .i64 0] by rw [hy]; rfl]
          have HX4 := hide (show o = decBG y.data.toList (boolF r) by rw [← hyd]; exact HX3.out)
          obtain ⟨fb, hfb⟩ : ∃ fb, boolF r = fb := ⟨_, rfl⟩
          have HFB := hide hfb
          rw [hfb] at HX4
          clear hy hyd hfb
          go_wp2_with fail
          refine (flag_any g r _ HSC.out.f).mono ?_
          rintro e w11 ⟨hx11, hres⟩
          rw [HFB.out] at hres
          cases fb with
          | error k =>
            obtain rfl : e = _ := hres
            have hk : k ≠ 0 := fun h => by
              have := HFB.out
              rw [h] at this
              match r, this with
              | [], hb => cases hb
              | b :: r2, hb =>
                rw [boolF] at hb
                split at hb
                · split at hb
                  · cases hb
                  · cases hb
                · cases hb
            have ht2 : (k != 0) = true := by simpa using hk
            have HN := hide (show o = .error k from HX4.out)
            have hblD := Ex.below HSC.out.below HSC.out.below.size (by have := HSC.out.hg; omega) hx11
            have hrD := HSC.out.r.ex hx11 (by have := HSC.out.hg; omega)
            have hnD := HSC.out.n.ex hx11 (by have := HSC.out.hg; omega)
            clear hk
            obtain ⟨r0, r1, r2, f0, f1, f2⟩ := (hrD).facts
            obtain ⟨n0, n1, n2, -, -, -⟩ := (hnD).facts
            go_wp2_with fail
            obtain ⟨q0, q1, q2⟩ := (hrD).store (.string ⟨#[]⟩) (.bool false) (.string ⟨#[]⟩)
            have hbz := (((hblD).setCell (p := ⟨w.heap.size + 1, 0, none⟩) (by show _ ≤ w.heap.size + 1; omega) (.string ⟨#[]⟩)).setCell (p := ⟨w.heap.size + 1, 1, none⟩) (by show _ ≤ w.heap.size + 1; omega) (.bool false)).setCell (p := ⟨w.heap.size + 1, 2, none⟩) (by show _ ≤ w.heap.size + 1; omega) (.string ⟨#[]⟩)
            obtain ⟨W3, hW3⟩ : ∃ W3, W3 = ((w11.setCell ⟨w.heap.size + 1, 0, none⟩ (.string ⟨#[]⟩)).setCell ⟨w.heap.size + 1, 1, none⟩ (.bool false)).setCell ⟨w.heap.size + 1, 2, none⟩ (.string ⟨#[]⟩) := ⟨_, rfl⟩
            rw [← hW3] at q0 q1 q2 hbz ⊢
            exact bodyPost_ret (v := .tuple #[.agg #[(.string ⟨#[]⟩), (.bool false), (.string ⟨#[]⟩)], .int .i64 k]) (by simp [results, Tryd.results69, go_sem, q0, q1, q2]) rfl ⟨by rw [HN.out]; rfl, hbz⟩
          | ok p =>
            obtain ⟨cr, M⟩ := p
            obtain ⟨rfl, hfM⟩ := hres
            have HSD := hide (HSC.out.step hx11 hfM)
            have hx : o = decV y.data.toList cr M := HX4.out
            have HXX := hide hx
            clear hx11 hfM hx
            cases M with
            | nil =>
              have HN := hide (show o = .error 3 from HXX.out)
              go_wp2_with fail
              refine (Need_any g [] 4 _ (HSD.out).f).mono ?_
              rintro e w9 ⟨rfl, hf9, hx9⟩
              have hs9 := (HSD.out).step hx9 hf9
              have hsA := hs9.grow ((Below.refl w9.heap.size w9).alloc (Nat.le_refl _) (.cells #[.int .i64 0, .string ⟨#[]⟩, .string ⟨#[]⟩] 38))
              rw [show oneR (needF [] 4).1 = .tuple #[.agg #[.int .i64 0, .string ⟨#[]⟩, .string ⟨#[]⟩], .int .i64 3] from rfl]
              go_upto_region 15 with fail
              obtain ⟨wA9, hwA9⟩ : ∃ W, W = w9.alloc (.cells #[.int .i64 0, .string ⟨#[]⟩, .string ⟨#[]⟩] 38) := ⟨_, rfl⟩
              rw [← hwA9] at hsA ⊢
              clear hwA9 hf9 hx9 hs9
              obtain ⟨r0, r1, r2, f0, f1, f2⟩ := (hsA.r).facts
              obtain ⟨n0, n1, n2, -, -, -⟩ := (hsA.n).facts
              go_wp2_with fail
              obtain ⟨q0, q1, q2⟩ := (hsA.r).store (.string ⟨#[]⟩) (.bool false) (.string ⟨#[]⟩)
              have hbz := (((hsA.below).setCell (p := ⟨w.heap.size + 1, 0, none⟩) (by show _ ≤ w.heap.size + 1; omega) (.string ⟨#[]⟩)).setCell (p := ⟨w.heap.size + 1, 1, none⟩) (by show _ ≤ w.heap.size + 1; omega) (.bool false)).setCell (p := ⟨w.heap.size + 1, 2, none⟩) (by show _ ≤ w.heap.size + 1; omega) (.string ⟨#[]⟩)
              obtain ⟨W3, hW3⟩ : ∃ W3, W3 = ((wA9.setCell ⟨w.heap.size + 1, 0, none⟩ (.string ⟨#[]⟩)).setCell ⟨w.heap.size + 1, 1, none⟩ (.bool false)).setCell ⟨w.heap.size + 1, 2, none⟩ (.string ⟨#[]⟩) := ⟨_, rfl⟩
              rw [← hW3] at q0 q1 q2 hbz ⊢
              exact bodyPost_ret (v := .tuple #[.agg #[(.string ⟨#[]⟩), (.bool false), (.string ⟨#[]⟩)], .int .i64 3]) (by simp [results, Tryd.results69, go_sem, q0, q1, q2]) rfl ⟨by rw [HN.out]; rfl, hbz⟩
            | cons v q =>
              obtain ⟨vt, vc, vr⟩ := v
              obtain ⟨xv, hxv⟩ : ∃ x : ByteArray, x = ⟨vc.toArray⟩ := ⟨_, rfl⟩
              obtain ⟨xw, hxw⟩ : ∃ x : ByteArray, x = ⟨vr.toArray⟩ := ⟨_, rfl⟩
              have hvd : vc = xv.data.toList := by rw [hxv]
              have HX := hide (show o = decV y.data.toList cr ((vt, vc, vr) :: q) from HXX.out)
              have HV := hide (show oneR (.ok (vt, vc, vr)) = .tuple #[.agg #[.int .i64 (vt : Int), .string xv, .string xw], .int .i64 0] by rw [oneR, eltV, hxv, hxw])
              clear hxv hxw
              by_cases h4 : vt = 4
              · have HNF := hide (show needF ((vt, vc, vr) :: q) 4 = (.ok (vt, vc, vr), q) by rw [needF, if_neg (fun h => h.2 (by rw [h4]; rfl))])
                have HX2 := hide (show o = if q ≠ [] then Except.error 4 else Except.ok (y.data.toList, cr, xv.data.toList) by rw [HX.out, decV, if_neg (by simpa using h4), hvd])
                clear h4
                go_wp2_with fail
                refine (Need_any g ((vt, vc, vr) :: q) 4 _ (HSD.out).f).mono ?_
                rintro e w9 ⟨rfl, hf9, hx9⟩
                rw [HNF.out] at hf9 ⊢
                have hs9 := (HSD.out).step hx9 hf9
                rw [HV.out]
                have hbA := (Below.refl w9.heap.size w9).alloc (Nat.le_refl _) (.cells #[.int .i64 (vt : Int), .string xv, .string xw] 38)
                have hsA := hs9.grow hbA
                go_upto_region 15 with fail
                obtain ⟨wA9, hwA9⟩ : ∃ W, W = w9.alloc (.cells #[.int .i64 (vt : Int), .string xv, .string xw] 38) := ⟨_, rfl⟩
                have m1 : wA9.cell? ⟨w9.heap.size, 1, none⟩ = some (.string xv) := by rw [hwA9, World.cell?_alloc_new]; rfl
                rw [← hwA9] at hsA ⊢
                obtain ⟨g10, hg10⟩ : ∃ g, g = w9.heap.size := ⟨_, rfl⟩
                rw [← hg10] at m1 ⊢
                clear hwA9 hf9 hx9 hs9 hbA hg10
                go_wp2_with fail
                refine (End_any g q _ hsA.f).mono ?_
                rintro e w10 ⟨rfl, nn, hw10⟩
                have hsB : RSt w g q w10 := by rw [hw10]; exact hsA.grow (below_drewN (Below.refl _ _) nn)
                have p1 : w10.cell? ⟨g10, 1, none⟩ = some (.string xv) := by rw [hw10]; exact m1
                clear hw10 hsA m1
                by_cases hq : q = []
                · have HN := hide (show o = .ok (y.data.toList, cr, xv.data.toList) by rw [HX2.out, if_neg (by simpa using hq)])
                  rw [if_pos hq]
                  clear hq
                  obtain ⟨r0, r1, r2, f0, f1, f2⟩ := hsB.r.facts
                  go_wp2_with fail
                  obtain ⟨q0, q1, q2⟩ := (hsB.r).store (.string y) (.bool cr) (.string xv)
                  have hbz := (((hsB.below).setCell (p := ⟨w.heap.size + 1, 0, none⟩) (by show _ ≤ w.heap.size + 1; omega) (.string y)).setCell (p := ⟨w.heap.size + 1, 1, none⟩) (by show _ ≤ w.heap.size + 1; omega) (.bool cr)).setCell (p := ⟨w.heap.size + 1, 2, none⟩) (by show _ ≤ w.heap.size + 1; omega) (.string xv)
                  obtain ⟨W3, hW3⟩ : ∃ W3, W3 = ((w10.setCell ⟨w.heap.size + 1, 0, none⟩ (.string y)).setCell ⟨w.heap.size + 1, 1, none⟩ (.bool cr)).setCell ⟨w.heap.size + 1, 2, none⟩ (.string xv) := ⟨_, rfl⟩
                  rw [← hW3] at q0 q1 q2 hbz ⊢
                  exact bodyPost_ret (v := .tuple #[.agg #[(.string y), (.bool cr), (.string xv)], .int .i64 0]) (by simp [results, Tryd.results69, go_sem, q0, q1, q2]) rfl ⟨by rw [HN.out]; rfl, hbz⟩
                · have HN := hide (show o = .error 4 by rw [HX2.out, if_pos hq])
                  rw [if_neg hq]
                  clear hq
                  obtain ⟨r0, r1, r2, f0, f1, f2⟩ := (hsB.r).facts
                  obtain ⟨n0, n1, n2, -, -, -⟩ := (hsB.n).facts
                  go_wp2_with fail
                  obtain ⟨q0, q1, q2⟩ := (hsB.r).store (.string ⟨#[]⟩) (.bool false) (.string ⟨#[]⟩)
                  have hbz := (((hsB.below).setCell (p := ⟨w.heap.size + 1, 0, none⟩) (by show _ ≤ w.heap.size + 1; omega) (.string ⟨#[]⟩)).setCell (p := ⟨w.heap.size + 1, 1, none⟩) (by show _ ≤ w.heap.size + 1; omega) (.bool false)).setCell (p := ⟨w.heap.size + 1, 2, none⟩) (by show _ ≤ w.heap.size + 1; omega) (.string ⟨#[]⟩)
                  obtain ⟨W3, hW3⟩ : ∃ W3, W3 = ((w10.setCell ⟨w.heap.size + 1, 0, none⟩ (.string ⟨#[]⟩)).setCell ⟨w.heap.size + 1, 1, none⟩ (.bool false)).setCell ⟨w.heap.size + 1, 2, none⟩ (.string ⟨#[]⟩) := ⟨_, rfl⟩
                  rw [← hW3] at q0 q1 q2 hbz ⊢
                  exact bodyPost_ret (v := .tuple #[.agg #[(.string ⟨#[]⟩), (.bool false), (.string ⟨#[]⟩)], .int .i64 4]) (by simp [results, Tryd.results69, go_sem, q0, q1, q2]) rfl ⟨by rw [HN.out]; rfl, hbz⟩
              · have HNF := hide (show needF ((vt, vc, vr) :: q) 4 = (.error 5, (vt, vc, vr) :: q) by rw [needF, if_pos ⟨by omega, fun e => h4 (by simp only at e; omega)⟩])
                have HN := hide (show o = .error 5 by rw [HX.out, decV, if_pos h4])
                clear h4
                go_wp2_with fail
                refine (Need_any g ((vt, vc, vr) :: q) 4 _ (HSD.out).f).mono ?_
                rintro e w9 ⟨rfl, hf9, hx9⟩
                rw [HNF.out] at hf9 ⊢
                have hs9 := (HSD.out).step hx9 hf9
                have hsA := hs9.grow ((Below.refl w9.heap.size w9).alloc (Nat.le_refl _) (.cells #[.int .i64 0, .string ⟨#[]⟩, .string ⟨#[]⟩] 38))
                rw [show oneR (.error 5) = .tuple #[.agg #[.int .i64 0, .string ⟨#[]⟩, .string ⟨#[]⟩], .int .i64 5] from rfl]
                go_upto_region 15 with fail
                obtain ⟨wA9, hwA9⟩ : ∃ W, W = w9.alloc (.cells #[.int .i64 0, .string ⟨#[]⟩, .string ⟨#[]⟩] 38) := ⟨_, rfl⟩
                rw [← hwA9] at hsA ⊢
                clear hwA9 hf9 hx9 hs9
                obtain ⟨r0, r1, r2, f0, f1, f2⟩ := (hsA.r).facts
                obtain ⟨n0, n1, n2, -, -, -⟩ := (hsA.n).facts
                go_wp2_with fail
                obtain ⟨q0, q1, q2⟩ := (hsA.r).store (.string ⟨#[]⟩) (.bool false) (.string ⟨#[]⟩)
                have hbz := (((hsA.below).setCell (p := ⟨w.heap.size + 1, 0, none⟩) (by show _ ≤ w.heap.size + 1; omega) (.string ⟨#[]⟩)).setCell (p := ⟨w.heap.size + 1, 1, none⟩) (by show _ ≤ w.heap.size + 1; omega) (.bool false)).setCell (p := ⟨w.heap.size + 1, 2, none⟩) (by show _ ≤ w.heap.size + 1; omega) (.string ⟨#[]⟩)
                obtain ⟨W3, hW3⟩ : ∃ W3, W3 = ((wA9.setCell ⟨w.heap.size + 1, 0, none⟩ (.string ⟨#[]⟩)).setCell ⟨w.heap.size + 1, 1, none⟩ (.bool false)).setCell ⟨w.heap.size + 1, 2, none⟩ (.string ⟨#[]⟩) := ⟨_, rfl⟩
                rw [← hW3] at q0 q1 q2 hbz ⊢
                exact bodyPost_ret (v := .tuple #[.agg #[(.string ⟨#[]⟩), (.bool false), (.string ⟨#[]⟩)], .int .i64 5]) (by simp [results, Tryd.results69, go_sem, q0, q1, q2]) rfl ⟨by rw [HN.out]; rfl, hbz⟩
      · have HNF := hide (show needF ((at_, ac, ar) :: r) 6 = (.error 5, (at_, ac, ar) :: r) by rw [needF, if_pos ⟨by omega, fun e => h6 (by simp only at e; omega)⟩])
        have HN := hide (show o = .error 5 by rw [HEQ2.out, decL', if_pos h6])
        clear h6 hxa hxb had
        go_wp2_with fail
        refine (Need_any g ((at_, ac, ar) :: r) 6 _ HSA.out.f).mono ?_
        rintro e w9 ⟨rfl, hf9, hx9⟩
        rw [HNF.out] at hf9 ⊢
        have hs9 := HSA.out.step hx9 hf9
        have hsA := hs9.grow ((Below.refl w9.heap.size w9).alloc (Nat.le_refl _) (.cells #[.int .i64 0, .string ⟨#[]⟩, .string ⟨#[]⟩] 38))
        rw [show oneR (.error 5) = .tuple #[.agg #[.int .i64 0, .string ⟨#[]⟩, .string ⟨#[]⟩], .int .i64 5] from rfl]
        go_upto_region 6 with fail
        obtain ⟨wA9, hwA9⟩ : ∃ W, W = w9.alloc (.cells #[.int .i64 0, .string ⟨#[]⟩, .string ⟨#[]⟩] 38) := ⟨_, rfl⟩
        rw [← hwA9] at hsA ⊢
        clear hwA9 hf9 hx9 hs9
        obtain ⟨r0, r1, r2, f0, f1, f2⟩ := (hsA.r).facts
        obtain ⟨n0, n1, n2, -, -, -⟩ := (hsA.n).facts
        go_wp2_with fail
        obtain ⟨q0, q1, q2⟩ := (hsA.r).store (.string ⟨#[]⟩) (.bool false) (.string ⟨#[]⟩)
        have hbz := (((hsA.below).setCell (p := ⟨w.heap.size + 1, 0, none⟩) (by show _ ≤ w.heap.size + 1; omega) (.string ⟨#[]⟩)).setCell (p := ⟨w.heap.size + 1, 1, none⟩) (by show _ ≤ w.heap.size + 1; omega) (.bool false)).setCell (p := ⟨w.heap.size + 1, 2, none⟩) (by show _ ≤ w.heap.size + 1; omega) (.string ⟨#[]⟩)
        obtain ⟨W3, hW3⟩ : ∃ W3, W3 = ((wA9.setCell ⟨w.heap.size + 1, 0, none⟩ (.string ⟨#[]⟩)).setCell ⟨w.heap.size + 1, 1, none⟩ (.bool false)).setCell ⟨w.heap.size + 1, 2, none⟩ (.string ⟨#[]⟩) := ⟨_, rfl⟩
        rw [← hW3] at q0 q1 q2 hbz ⊢
        exact bodyPost_ret (v := .tuple #[.agg #[(.string ⟨#[]⟩), (.bool false), (.string ⟨#[]⟩)], .int .i64 5]) (by simp [results, Tryd.results69, go_sem, q0, q1, q2]) rfl ⟨by rw [HN.out]; rfl, hbz⟩
end Go.Proofs.YtiikpdjjhnhiiaaDoor
