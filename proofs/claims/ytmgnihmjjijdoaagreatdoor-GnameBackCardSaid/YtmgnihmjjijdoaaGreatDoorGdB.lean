/- Decode of general names, both sides. -/
import Derived.Test.YtmgnihmjjijdoaaGreatDoorGGcA
namespace Go.Proofs.YtmgnihmjjijdoaaGreatDoor
open Go.RowKit
theorem dst_new (w : World) (tag : Int) (t raw : ByteArray) : ∃ W, W = ((w.alloc (.cells #[.int .i64 tag, .string t, .string raw] 45)).alloc (.cells #[.int .i64 0, .string ⟨#[]⟩, .slice none 0 0] 26)).alloc (.cells #[.int .i64 0, .string ⟨#[]⟩, .slice none 0 0] 26) ∧
  W.cell? ⟨w.heap.size, 0, none⟩ = some (.int .i64 tag) ∧ W.cell? ⟨w.heap.size, 1, none⟩ = some (.string t) ∧ DSt w (w.heap.size + 1) (w.heap.size + 1 + 1) 0 ⟨#[]⟩ (.slice none 0 0) W := by
 obtain ⟨W1, hW1⟩ : ∃ W, W = w.alloc (.cells #[.int .i64 tag, .string t, .string raw] 45) := ⟨_, rfl⟩
 obtain ⟨W2, hW2⟩ : ∃ W, W = W1.alloc (.cells #[.int .i64 0, .string ⟨#[]⟩, .slice none 0 0] 26) := ⟨_, rfl⟩
 obtain ⟨W3, hW3⟩ : ∃ W, W = W2.alloc (.cells #[.int .i64 0, .string ⟨#[]⟩, .slice none 0 0] 26) := ⟨_, rfl⟩
 have hz1 : W1.heap.size = w.heap.size + 1 := by rw [hW1]; simp
 have hz2 : W2.heap.size = w.heap.size + 1 + 1 := by rw [hW2, World.size_alloc, hz1]
 have b1 : Below w.heap.size w W1 := by rw [hW1]; exact (Below.refl _ _).alloc (Nat.le_refl _) _
 have b2 : Below W1.heap.size W1 W2 := by rw [hW2]; exact (Below.refl _ _).alloc (Nat.le_refl _) _
 have b3 : Below W2.heap.size W2 W3 := by rw [hW3]; exact (Below.refl _ _).alloc (Nat.le_refl _) _
 have b13 := b2.trans (b3.mono b2.size)
 have r1 : GB (w.heap.size + 1) 0 ⟨#[]⟩ (.slice none 0 0) W2 := by rw [hW2, ← hz1]; exact heap_alloc_new _ _
 have r2 : GB (w.heap.size + 1 + 1) 0 ⟨#[]⟩ (.slice none 0 0) W3 := by rw [hW3, ← hz2]; exact heap_alloc_new _ _
 have c0 : W1.cell? ⟨w.heap.size, 0, none⟩ = some (.int .i64 tag) := by rw [hW1, World.cell?_alloc_new]; rfl
 have c1 : W1.cell? ⟨w.heap.size, 1, none⟩ = some (.string t) := by rw [hW1, World.cell?_alloc_new]; rfl
 exact ⟨W3, by rw [hW3, hW2, hW1], cell_grows b13 _ _ c0, cell_grows b13 _ _ c1, b1.trans (b13.mono b1.size), r1.below b3, r2, by omega, by omega⟩
set_option maxRecDepth 100000 in
set_option maxHeartbeats 8000000 in
theorem gDecode_any (tag : Int) (t raw : ByteArray) (c : Bool) (ht : t.size ≤ 1000000) (w : World) (hmx : Mx w) (htb : Tb w) :
    Calls Tryz.prog 18 #[.agg #[.int .i64 tag, .string t, .string raw], .bool c] w (DecGPost w (toG (decG tag t.data.toList c))) := by
  obtain ⟨W0, hW0, e0, e1, hd⟩ := dst_new w tag t raw
  have hb0 := hd.below
  have hgE : w.heap.size < W0.heap.size := by have := hd.g.lt; omega
  obtain ⟨gE, hgE'⟩ : ∃ g, w.heap.size = g := ⟨_, rfl⟩
  obtain ⟨gR, hgR⟩ : ∃ g, w.heap.size + 1 = g := ⟨_, rfl⟩
  obtain ⟨gG, hgG⟩ : ∃ g, gR + 1 = g := ⟨_, rfl⟩
  rw [hgR, hgG] at hd
  rw [hgE'] at e0 e1 hgE
  have HD := hide hd
  have HMX := hide hmx
  have HTB := hide htb
  have HT := hide ht
  obtain ⟨r, hr⟩ : ∃ r, decG tag t.data.toList c = r := ⟨_, rfl⟩
  rw [hr]
  have HR0 := hide hr
  have HW0 := hide hW0
  have HGS := hide (And.intro hgE' (And.intro hgR hgG))
  clear hd hmx htb ht hr hb0 hW0 hgE' hgR hgG
  obtain ⟨g0, g1, g2, gf0, gf1, gf2⟩ := HD.out.g.facts
  by_cases h1 : tag = 129
  · subst h1
    have HR := hide (show r = decGC (1, t.data.toList, ([] : Name)) c by rw [← HR0.out]; rfl)
    have HTT := HT
    go_enter Tryz.func18, Tryz.ntmps18
    go_upto_region 2 with fail
    rw [← HW0.out, HGS.out.2.1, HGS.out.2.2, HGS.out.1]
    (go_upto_region 7 with fail; go_region)
    obtain ⟨w1, hw1⟩ : ∃ W, W = (((W0.setCell ⟨gG, 0, none⟩ (.int .i64 1)).setCell ⟨gG, 1, none⟩ (.string t)).drew) := ⟨_, rfl⟩
    have HD1 := hide (show DSt w gR gG 1 t (.slice none 0 0) w1 by rw [hw1]; exact ((HD.out.set0 1).set1 t).drew)
    rw [← hw1]
    have HSM := hide nil_small
    have HSLn := hide (Sl.nil RRdn 1 w1 (Lt w1.heap.size))
    have HSB := hide (Sl.nil RRdn 1 w1 (fun j => w.heap.size ≤ j ∧ j < w1.heap.size ∧ j ≠ gR))
    clear g0 g1 g2 gf0 gf1 gf2 e0 e1 hw1
    obtain ⟨g0, g1, g2, gf0, gf1, gf2⟩ := HD1.out.g.facts
    obtain ⟨q, hq⟩ : ∃ q, chkG (1, ByteArray.data t |>.toList, ([] : Name)) c = q := ⟨_, rfl⟩
    have HCK := hide (gCheck_any 1 t ([] : Name) c none 0 HTT.out HSM.out q hq _ (HMX.out.below HD1.out.below) HSLn.out)
    have HQ := hide hq
    clear hq
    go_wp2_with fail
    refine HCK.out.mono ?_
    rintro e w2 ⟨rfl, hb2⟩
    have HD2 := hide (HD1.out.grow hb2)
    have HSB2 := hide ((Sl.ok RRdn.ok).mono HSB.out (S' := fun j => w.heap.size ≤ j ∧ j < w2.heap.size ∧ j ≠ gR) (fun j hj => hb2.block j hj.2.1) (fun j hj => ⟨hj.1, Nat.lt_of_lt_of_le hj.2.1 hb2.size, hj.2.2⟩))
    clear hb2 g0 g1 g2 gf0 gf1 gf2
    by_cases hq0 : q = 0
    · have HY := hide (show toG r = (0, (1, ByteArray.data t |>.toList, ([] : Name))) by rw [HR.out, decGC_ok (HQ.out.trans hq0)]; rfl)
      have ht : (q != 0) = false := by simp [hq0]
      obtain ⟨g0, g1, g2, -⟩ := HD2.out.g.facts
      obtain ⟨r0, r1, r2, rf0, rf1, rf2⟩ := HD2.out.r.facts
      clear hq0
      go_wp2_with fail
      obtain ⟨W9, hW9, hgb9, hb9, hsl9⟩ := HD2.out.fin 1 t ([] : Name) none 0 HSB2.out
      try simp only [List.length_nil] at hW9 hgb9
      obtain ⟨q0, q1, q2, -⟩ := hgb9.facts
      try rw [← hW9]
      exact bodyPost_ret (v := .tuple #[.agg #[.int .i64 1, .string t, .slice none 0 0], .int .i64 0]) (by simp [results, Tryz.results18, go_sem, q0, q1, q2]) rfl (DecGPost.intro (A := none) (c := 0) HY.out rfl hsl9 hb9 ⟨by first | (rw [size_string]; exact HTT.out) | (show (0 : Nat) ≤ 1000000; omega), HSM.out⟩)
    · have ht : (q != 0) = true := by simp [hq0]
      have HN := hide (show r = .error q by rw [HR.out, decGC_no (by rw [HQ.out]; exact hq0), HQ.out])
      clear hq0
      obtain ⟨r0, r1, r2, rf0, rf1, rf2⟩ := (HD2.out).r.facts
      go_wp2_with fail
      obtain ⟨W9, hW9, hgb9, hb9⟩ := (HD2.out).fin0
      obtain ⟨q0, q1, q2, -⟩ := hgb9.facts
      try rw [← hW9]
      exact bodyPost_ret (v := .tuple #[.agg #[.int .i64 0, .string ⟨#[]⟩, .slice none 0 0], .int .i64 q]) (by simp [results, Tryz.results18, go_sem, q0, q1, q2]) rfl (DecGPost.intro0 HN.out rfl hb9)
  · by_cases h2 : tag = 130
    · subst h2
      have HR := hide (show r = decGC (2, t.data.toList, ([] : Name)) c by rw [← HR0.out]; rfl)
      have HTT := HT
      go_enter Tryz.func18, Tryz.ntmps18
      go_upto_region 2 with fail
      rw [← HW0.out, HGS.out.2.1, HGS.out.2.2, HGS.out.1]
      (go_upto_region 7 with fail; go_region)
      obtain ⟨w1, hw1⟩ : ∃ W, W = (((W0.setCell ⟨gG, 0, none⟩ (.int .i64 2)).setCell ⟨gG, 1, none⟩ (.string t)).drew) := ⟨_, rfl⟩
      have HD1 := hide (show DSt w gR gG 2 t (.slice none 0 0) w1 by rw [hw1]; exact ((HD.out.set0 2).set1 t).drew)
      rw [← hw1]
      have HSM := hide nil_small
      have HSLn := hide (Sl.nil RRdn 1 w1 (Lt w1.heap.size))
      have HSB := hide (Sl.nil RRdn 1 w1 (fun j => w.heap.size ≤ j ∧ j < w1.heap.size ∧ j ≠ gR))
      clear g0 g1 g2 gf0 gf1 gf2 e0 e1 hw1
      obtain ⟨g0, g1, g2, gf0, gf1, gf2⟩ := HD1.out.g.facts
      obtain ⟨q, hq⟩ : ∃ q, chkG (2, ByteArray.data t |>.toList, ([] : Name)) c = q := ⟨_, rfl⟩
      have HCK := hide (gCheck_any 2 t ([] : Name) c none 0 HTT.out HSM.out q hq _ (HMX.out.below HD1.out.below) HSLn.out)
      have HQ := hide hq
      clear hq
      go_wp2_with fail
      refine HCK.out.mono ?_
      rintro e w2 ⟨rfl, hb2⟩
      have HD2 := hide (HD1.out.grow hb2)
      have HSB2 := hide ((Sl.ok RRdn.ok).mono HSB.out (S' := fun j => w.heap.size ≤ j ∧ j < w2.heap.size ∧ j ≠ gR) (fun j hj => hb2.block j hj.2.1) (fun j hj => ⟨hj.1, Nat.lt_of_lt_of_le hj.2.1 hb2.size, hj.2.2⟩))
      clear hb2 g0 g1 g2 gf0 gf1 gf2
      by_cases hq0 : q = 0
      · have HY := hide (show toG r = (0, (2, ByteArray.data t |>.toList, ([] : Name))) by rw [HR.out, decGC_ok (HQ.out.trans hq0)]; rfl)
        have ht : (q != 0) = false := by simp [hq0]
        obtain ⟨g0, g1, g2, -⟩ := HD2.out.g.facts
        obtain ⟨r0, r1, r2, rf0, rf1, rf2⟩ := HD2.out.r.facts
        clear hq0
        go_wp2_with fail
        obtain ⟨W9, hW9, hgb9, hb9, hsl9⟩ := HD2.out.fin 2 t ([] : Name) none 0 HSB2.out
        try simp only [List.length_nil] at hW9 hgb9
        obtain ⟨q0, q1, q2, -⟩ := hgb9.facts
        try rw [← hW9]
        exact bodyPost_ret (v := .tuple #[.agg #[.int .i64 2, .string t, .slice none 0 0], .int .i64 0]) (by simp [results, Tryz.results18, go_sem, q0, q1, q2]) rfl (DecGPost.intro (A := none) (c := 0) HY.out rfl hsl9 hb9 ⟨by first | (rw [size_string]; exact HTT.out) | (show (0 : Nat) ≤ 1000000; omega), HSM.out⟩)
      · have ht : (q != 0) = true := by simp [hq0]
        have HN := hide (show r = .error q by rw [HR.out, decGC_no (by rw [HQ.out]; exact hq0), HQ.out])
        clear hq0
        obtain ⟨r0, r1, r2, rf0, rf1, rf2⟩ := (HD2.out).r.facts
        go_wp2_with fail
        obtain ⟨W9, hW9, hgb9, hb9⟩ := (HD2.out).fin0
        obtain ⟨q0, q1, q2, -⟩ := hgb9.facts
        try rw [← hW9]
        exact bodyPost_ret (v := .tuple #[.agg #[.int .i64 0, .string ⟨#[]⟩, .slice none 0 0], .int .i64 q]) (by simp [results, Tryz.results18, go_sem, q0, q1, q2]) rfl (DecGPost.intro0 HN.out rfl hb9)
    · by_cases h7 : tag = 135
      · subst h7
        have HR := hide (show r = decGC (7, t.data.toList, ([] : Name)) c by rw [← HR0.out]; rfl)
        have HTT := HT
        go_enter Tryz.func18, Tryz.ntmps18
        go_upto_region 2 with fail
        rw [← HW0.out, HGS.out.2.1, HGS.out.2.2, HGS.out.1]
        (go_upto_region 7 with fail; go_region)
        obtain ⟨w1, hw1⟩ : ∃ W, W = (((W0.setCell ⟨gG, 0, none⟩ (.int .i64 7)).setCell ⟨gG, 1, none⟩ (.string t)).drew) := ⟨_, rfl⟩
        have HD1 := hide (show DSt w gR gG 7 t (.slice none 0 0) w1 by rw [hw1]; exact ((HD.out.set0 7).set1 t).drew)
        rw [← hw1]
        have HSM := hide nil_small
        have HSLn := hide (Sl.nil RRdn 1 w1 (Lt w1.heap.size))
        have HSB := hide (Sl.nil RRdn 1 w1 (fun j => w.heap.size ≤ j ∧ j < w1.heap.size ∧ j ≠ gR))
        clear g0 g1 g2 gf0 gf1 gf2 e0 e1 hw1
        obtain ⟨g0, g1, g2, gf0, gf1, gf2⟩ := HD1.out.g.facts
        obtain ⟨q, hq⟩ : ∃ q, chkG (7, ByteArray.data t |>.toList, ([] : Name)) c = q := ⟨_, rfl⟩
        have HCK := hide (gCheck_any 7 t ([] : Name) c none 0 HTT.out HSM.out q hq _ (HMX.out.below HD1.out.below) HSLn.out)
        have HQ := hide hq
        clear hq
        go_wp2_with fail
        refine HCK.out.mono ?_
        rintro e w2 ⟨rfl, hb2⟩
        have HD2 := hide (HD1.out.grow hb2)
        have HSB2 := hide ((Sl.ok RRdn.ok).mono HSB.out (S' := fun j => w.heap.size ≤ j ∧ j < w2.heap.size ∧ j ≠ gR) (fun j hj => hb2.block j hj.2.1) (fun j hj => ⟨hj.1, Nat.lt_of_lt_of_le hj.2.1 hb2.size, hj.2.2⟩))
        clear hb2 g0 g1 g2 gf0 gf1 gf2
        by_cases hq0 : q = 0
        · have HY := hide (show toG r = (0, (7, ByteArray.data t |>.toList, ([] : Name))) by rw [HR.out, decGC_ok (HQ.out.trans hq0)]; rfl)
          have ht : (q != 0) = false := by simp [hq0]
          obtain ⟨g0, g1, g2, -⟩ := HD2.out.g.facts
          obtain ⟨r0, r1, r2, rf0, rf1, rf2⟩ := HD2.out.r.facts
          clear hq0
          go_wp2_with fail
          obtain ⟨W9, hW9, hgb9, hb9, hsl9⟩ := HD2.out.fin 7 t ([] : Name) none 0 HSB2.out
          try simp only [List.length_nil] at hW9 hgb9
          obtain ⟨q0, q1, q2, -⟩ := hgb9.facts
          try rw [← hW9]
          exact bodyPost_ret (v := .tuple #[.agg #[.int .i64 7, .string t, .slice none 0 0], .int .i64 0]) (by simp [results, Tryz.results18, go_sem, q0, q1, q2]) rfl (DecGPost.intro (A := none) (c := 0) HY.out rfl hsl9 hb9 ⟨by first | (rw [size_string]; exact HTT.out) | (show (0 : Nat) ≤ 1000000; omega), HSM.out⟩)
        · have ht : (q != 0) = true := by simp [hq0]
          have HN := hide (show r = .error q by rw [HR.out, decGC_no (by rw [HQ.out]; exact hq0), HQ.out])
          clear hq0
          obtain ⟨r0, r1, r2, rf0, rf1, rf2⟩ := (HD2.out).r.facts
          go_wp2_with fail
          obtain ⟨W9, hW9, hgb9, hb9⟩ := (HD2.out).fin0
          obtain ⟨q0, q1, q2, -⟩ := hgb9.facts
          try rw [← hW9]
          exact bodyPost_ret (v := .tuple #[.agg #[.int .i64 0, .string ⟨#[]⟩, .slice none 0 0], .int .i64 q]) (by simp [results, Tryz.results18, go_sem, q0, q1, q2]) rfl (DecGPost.intro0 HN.out rfl hb9)
      · by_cases h4 : tag = 164
        · subst h4
          clear h1 h2 h7
          have HR1 := hide (show r = decGN c (decN t.data.toList) by rw [← HR0.out]; rfl)
          go_enter Tryz.func18, Tryz.ntmps18
          go_upto_region 2 with fail
          rw [← HW0.out, HGS.out.2.1, HGS.out.2.2, HGS.out.1]
          have HTT := HT
          have hts := HT.out
          go_wp2_with fail
          refine (NDecodeB_any t (by omega) _ (HMX.out.below HD.out.below) (HTB.out.below HD.out.below)).mono ?_
          rintro e w5 ⟨v5, rfl, hsl5, hb5, hsm5⟩
          have hzW := HD.out.g.lt
          have hgRG := HD.out.hG
          have hgR0 := HD.out.hR
          obtain ⟨A5, c5, hv5⟩ := hsl5.shape
          subst hv5
          have HD5 := hide (HD.out.grow hb5)
          have hz5 := hb5.size
          cases hdn : decN t.data.toList with
          | error k =>
            rw [hdn] at hsl5 hsm5
            have hk : k ≠ 0 := fun h => decN_err0' _ (h ▸ hdn)
            have ht : (k != 0) = true := by simpa using hk
            have HN := hide (show r = .error k by rw [HR1.out, hdn]; rfl)
            rw [show toP (.error k) = (k, []) from rfl]
            have HD6 := hide (HD5.out.grow ((Below.refl w5.heap.size w5).alloc (Nat.le_refl _) (.cells #[.slice A5 0 c5] 24)))
            clear hk hsl5 hsm5 hb5 hdn g0 g1 g2 gf0 gf1 gf2 e0 e1
            go_upto_region 10 with fail
            obtain ⟨w6, hw6⟩ : ∃ W, W = w5.alloc (.cells #[.slice A5 0 c5] 24) := ⟨_, rfl⟩
            rw [← hw6] at HD6
            try rw [show ([] : Name).length = 0 from rfl]
            rw [← hw6]
            clear hw6
            obtain ⟨r0, r1, r2, rf0, rf1, rf2⟩ := (HD6.out).r.facts
            go_wp2_with fail
            obtain ⟨W9, hW9, hgb9, hb9⟩ := (HD6.out).fin0
            obtain ⟨q0, q1, q2, -⟩ := hgb9.facts
            try rw [← hW9]
            exact bodyPost_ret (v := .tuple #[.agg #[.int .i64 0, .string ⟨#[]⟩, .slice none 0 0], .int .i64 k]) (by simp [results, Tryz.results18, go_sem, q0, q1, q2]) rfl (DecGPost.intro0 HN.out rfl hb9)
          | ok n =>
            rw [hdn] at hsl5 hsm5
            rw [show toP (.ok n) = (0, n) from rfl] at hsl5 hsm5 ⊢
            simp only at hsl5 hsm5 ⊢
            have HR := hide (show r = decGC (4, (⟨#[]⟩ : ByteArray).data.toList, n) c by rw [HR1.out, hdn]; rfl)
            obtain ⟨w6, hw6⟩ : ∃ W, W = w5.alloc (.cells #[.slice A5 n.length c5] 24) := ⟨_, rfl⟩
            have hb6 : Below w5.heap.size w5 w6 := by rw [hw6]; exact (Below.refl _ _).alloc (Nat.le_refl _) _
            have HD6 := hide (HD5.out.grow hb6)
            have n0 : w6.cell? ⟨w5.heap.size, 0, none⟩ = some (.slice A5 n.length c5) := by rw [hw6, World.cell?_alloc_new]; rfl
            have hz6 : w6.heap.size = w5.heap.size + 1 := by rw [hw6]; simp
            have HSL6 := hide (show Sl RRdn 1 w6 (fun j => gG < j ∧ j < w6.heap.size) n [.slice A5 n.length c5] from (Sl.ok RRdn.ok).mono hsl5 (fun j hj => hb6.block j hj.2) (fun j hj => ⟨by have := hj.1; omega, by have := hj.2; omega⟩))
            have HSM := hide hsm5
            clear hsl5 hsm5 hb5 hdn g0 g1 g2 gf0 gf1 gf2 e0 e1
            go_upto_region 10 with fail
            rw [← hw6]
            clear hw6 hb6
            obtain ⟨gN, hgN⟩ : ∃ g, w5.heap.size = g := ⟨_, rfl⟩
            rw [hgN] at n0 ⊢
            have hNG : gN ≠ gG := by omega
            clear hgN
            obtain ⟨g0, g1, g2, gf0, gf1, gf2⟩ := HD6.out.g.facts
            (go_upto_region 12 with fail; go_region)
            obtain ⟨w1, hw1⟩ : ∃ W, W = (((w6.setCell ⟨gG, 0, none⟩ (.int .i64 4)).setCell ⟨gG, 2, none⟩ (.slice A5 n.length c5)).drew) := ⟨_, rfl⟩
            have HD1 := hide (show DSt w gR gG 4 ⟨#[]⟩ (.slice A5 n.length c5) w1 by rw [hw1]; exact ((HD6.out.set0 4).set2 _).drew)
            have hsl1 : Sl RRdn 1 w1 (fun j => gG < j ∧ j < w1.heap.size) n [.slice A5 n.length c5] := (Sl.ok RRdn.ok).mono HSL6.out (fun j hj => by rw [hw1]; exact ((Below.heap_setCell _ ⟨gG, 2, none⟩ _ j (by have := hj.1; show j ≠ gG; omega)).trans (Below.heap_setCell _ ⟨gG, 0, none⟩ _ j (by have := hj.1; show j ≠ gG; omega)))) (fun j hj => ⟨hj.1, by rw [hw1]; have := hj.2; simpa using this⟩)
            rw [← hw1]
            have HSLn := hide (show Sl RRdn 1 w1 (Lt w1.heap.size) n [.slice A5 n.length c5] from (Sl.ok RRdn.ok).mono hsl1 (fun _ _ => rfl) (fun j hj => hj.2))
            have HSB := hide (show Sl RRdn 1 w1 (fun j => w.heap.size ≤ j ∧ j < w1.heap.size ∧ j ≠ gR) n [.slice A5 n.length c5] from (Sl.ok RRdn.ok).mono hsl1 (fun _ _ => rfl) (fun j hj => ⟨by have := hj.1; omega, hj.2, by have := hj.1; omega⟩))
            have HTT := hide (show (⟨#[]⟩ : ByteArray).size ≤ 1000000 by decide)
            clear g0 g1 g2 gf0 gf1 gf2 hw1 hsl1 n0
            obtain ⟨g0, g1, g2, gf0, gf1, gf2⟩ := HD1.out.g.facts
            obtain ⟨q, hq⟩ : ∃ q, chkG (4, ByteArray.data ⟨#[]⟩ |>.toList, n) c = q := ⟨_, rfl⟩
            have HCK := hide (gCheck_any 4 ⟨#[]⟩ n c A5 c5 HTT.out HSM.out q hq _ (HMX.out.below HD1.out.below) HSLn.out)
            have HQ := hide hq
            clear hq
            go_wp2_with fail
            refine HCK.out.mono ?_
            rintro e w2 ⟨rfl, hb2⟩
            have HD2 := hide (HD1.out.grow hb2)
            have HSB2 := hide ((Sl.ok RRdn.ok).mono HSB.out (S' := fun j => w.heap.size ≤ j ∧ j < w2.heap.size ∧ j ≠ gR) (fun j hj => hb2.block j hj.2.1) (fun j hj => ⟨hj.1, Nat.lt_of_lt_of_le hj.2.1 hb2.size, hj.2.2⟩))
            clear hb2 g0 g1 g2 gf0 gf1 gf2
            by_cases hq0 : q = 0
            · have HY := hide (show toG r = (0, (4, ByteArray.data ⟨#[]⟩ |>.toList, n)) by rw [HR.out, decGC_ok (HQ.out.trans hq0)]; rfl)
              have ht : (q != 0) = false := by simp [hq0]
              obtain ⟨g0, g1, g2, -⟩ := HD2.out.g.facts
              obtain ⟨r0, r1, r2, rf0, rf1, rf2⟩ := HD2.out.r.facts
              clear hq0
              go_wp2_with fail
              obtain ⟨W9, hW9, hgb9, hb9, hsl9⟩ := HD2.out.fin 4 ⟨#[]⟩ n A5 c5 HSB2.out
              try simp only [List.length_nil] at hW9 hgb9
              obtain ⟨q0, q1, q2, -⟩ := hgb9.facts
              try rw [← hW9]
              exact bodyPost_ret (v := .tuple #[.agg #[.int .i64 4, .string ⟨#[]⟩, .slice A5 n.length c5], .int .i64 0]) (by simp [results, Tryz.results18, go_sem, q0, q1, q2]) rfl (DecGPost.intro (A := A5) (c := c5) HY.out rfl hsl9 hb9 ⟨by first | (rw [size_string]; exact HTT.out) | (show (0 : Nat) ≤ 1000000; omega), HSM.out⟩)
            · have ht : (q != 0) = true := by simp [hq0]
              have HN := hide (show r = .error q by rw [HR.out, decGC_no (by rw [HQ.out]; exact hq0), HQ.out])
              clear hq0
              obtain ⟨r0, r1, r2, rf0, rf1, rf2⟩ := (HD2.out).r.facts
              go_wp2_with fail
              obtain ⟨W9, hW9, hgb9, hb9⟩ := (HD2.out).fin0
              obtain ⟨q0, q1, q2, -⟩ := hgb9.facts
              try rw [← hW9]
              exact bodyPost_ret (v := .tuple #[.agg #[.int .i64 0, .string ⟨#[]⟩, .slice none 0 0], .int .i64 q]) (by simp [results, Tryz.results18, go_sem, q0, q1, q2]) rfl (DecGPost.intro0 HN.out rfl hb9)
        · have t1 : (tag == 129) = false := by simpa using h1
          have t2 : (tag == 130) = false := by simpa using h2
          have t7 : (tag == 135) = false := by simpa using h7
          have t4 : (tag == 164) = false := by simpa using h4
          have HN := hide (show r = .error 5 by rw [← HR0.out, decG, if_neg (by omega), if_neg h4])
          clear h1 h2 h4 h7
          go_enter Tryz.func18, Tryz.ntmps18
          go_upto_region 2 with fail
          rw [← HW0.out, HGS.out.2.1, HGS.out.2.2, HGS.out.1]
          obtain ⟨r0, r1, r2, rf0, rf1, rf2⟩ := (HD.out).r.facts
          go_wp2_with fail
          obtain ⟨W9, hW9, hgb9, hb9⟩ := (HD.out).fin0
          obtain ⟨q0, q1, q2, -⟩ := hgb9.facts
          try rw [← hW9]
          exact bodyPost_ret (v := .tuple #[.agg #[.int .i64 0, .string ⟨#[]⟩, .slice none 0 0], .int .i64 5]) (by simp [results, Tryz.results18, go_sem, q0, q1, q2]) rfl (DecGPost.intro0 HN.out rfl hb9)
end Go.Proofs.YtmgnihmjjijdoaaGreatDoor
