/- ext.decodeOne, its walk. -/
import Derived.Test.YtiikpdjjhnhiiaaDoorExtH
namespace Go.Proofs.YtiikpdjjhnhiiaaDoor
open Go.RowKit

def decXR : Except Int Ext → Value
  | .error k => .tuple #[noExt, .int .i64 k]
  | .ok x => .tuple #[extV x, .int .i64 0]
theorem elem_elt : Tryd.prog.underlying 41 = some (.slice (Tryd.prog.elem 41)) := by kernel_rfl
def decBG (id : List UInt8) : Except Int (Bool × List Elt) → Except Int Ext
  | Except.error k => Except.error k
  | Except.ok (c, r) => decV id c r
def decIG : Option (List UInt8) → List Elt → Except Int Ext
  | none, _ => .error 11
  | some id, r => decBG id (boolF r)
def decXG : Except Int (List Elt) → Except Int Ext
  | .error k => .error k
  | .ok l => decL' l
theorem decX_eq {t : Nat} {c raw : List UInt8} (h : t = 48) : decX (t, c, raw) = decXG (listF c) := by
  unfold decX decXG
  rw [if_neg (by simpa using h)]
  simp only
  cases listF c <;> rfl
theorem decL_eq {t : Nat} {c raw : List UInt8} {r : List Elt} (h : t = 6) : decL' ((t, c, raw) :: r) = decIG (decP c) r := by
  rw [decL', if_neg (by simpa using h)]
  cases hd : decP c with
  | none => rfl
  | some id =>
    simp only
    show _ = decBG id (boolF r)
    cases boolF r <;> rfl
theorem boolF_yes {t : Nat} {c raw : List UInt8} {r : List Elt} (h : t = 1) : boolF ((t, c, raw) :: r) = if c = [255] then Except.ok (true, r) else Except.error 7 := by rw [boolF, if_pos h]
theorem boolF_no {t : Nat} {c raw : List UInt8} {r : List Elt} (h : ¬ t = 1) : boolF ((t, c, raw) :: r) = .ok (false, (t, c, raw) :: r) := by rw [boolF, if_neg h]
theorem four_new (w : World) (a b c : Value) : ∃ W, W = (((w.alloc (.cells #[a, b, c] 38)).alloc (.cells #[.string ⟨#[]⟩, .bool false, .string ⟨#[]⟩] 49)).alloc (.cells #[.string ⟨#[]⟩, .bool false, .string ⟨#[]⟩] 49)).alloc (.cells #[.string ⟨#[]⟩, .bool false, .string ⟨#[]⟩] 49) ∧
    DSt w [] (.slice none 0 0) ⟨#[]⟩ false ⟨#[]⟩ W ∧ W.heap.size = w.heap.size + 4 ∧ W.cell? ⟨w.heap.size, 0, none⟩ = some a ∧ W.cell? ⟨w.heap.size, 1, none⟩ = some b := by
  have z1 : (w.alloc (.cells #[a, b, c] 38)).heap.size = w.heap.size + 1 := by simp
  have z2 : ((w.alloc (.cells #[a, b, c] 38)).alloc (.cells #[.string ⟨#[]⟩, .bool false, .string ⟨#[]⟩] 49)).heap.size = w.heap.size + 2 := by simp
  have z3 : (((w.alloc (.cells #[a, b, c] 38)).alloc (.cells #[.string ⟨#[]⟩, .bool false, .string ⟨#[]⟩] 49)).alloc (.cells #[.string ⟨#[]⟩, .bool false, .string ⟨#[]⟩] 49)).heap.size = w.heap.size + 3 := by simp
  have h0 : (w.alloc (.cells #[a, b, c] 38)).heap[w.heap.size]? = some (.cells #[a, b, c] 38 (0, 0)) := heap_alloc_new w _
  have h1 := resX_new (w.alloc (.cells #[a, b, c] 38))
  have h2 := resX_new ((w.alloc (.cells #[a, b, c] 38)).alloc (.cells #[.string ⟨#[]⟩, .bool false, .string ⟨#[]⟩] 49))
  have h3 := resX_new (((w.alloc (.cells #[a, b, c] 38)).alloc (.cells #[.string ⟨#[]⟩, .bool false, .string ⟨#[]⟩] 49)).alloc (.cells #[.string ⟨#[]⟩, .bool false, .string ⟨#[]⟩] 49))
  rw [z1] at h1
  rw [z2] at h2
  rw [z3] at h3
  have k1 := fun (W : World) (ob : Obj) => (Below.refl W.heap.size W).alloc (Nat.le_refl _) ob
  have h0' := (Below.heap_alloc ((((w.alloc (.cells #[a, b, c] 38)).alloc (.cells #[.string ⟨#[]⟩, .bool false, .string ⟨#[]⟩] 49)).alloc (.cells #[.string ⟨#[]⟩, .bool false, .string ⟨#[]⟩] 49))) (.cells #[.string ⟨#[]⟩, .bool false, .string ⟨#[]⟩] 49) w.heap.size (by omega)).trans ((Below.heap_alloc _ (.cells #[.string ⟨#[]⟩, .bool false, .string ⟨#[]⟩] 49) w.heap.size (by omega)).trans ((Below.heap_alloc _ (.cells #[.string ⟨#[]⟩, .bool false, .string ⟨#[]⟩] 49) w.heap.size (by omega)).trans h0))
  refine ⟨_, rfl, ⟨?_, ?_, ?_, h3, Sl.nil _ _ _ _⟩, by simp, by simp [World.cell?, h0'], by simp [World.cell?, h0']⟩
  · exact ((((Below.refl _ _).alloc (Nat.le_refl _) _).alloc (by omega) _).alloc (by omega) _).alloc (by omega) _
  · exact (h1.below (k1 _ _)).below (k1 _ _)
  · exact h2.below (k1 _ _)


set_option maxRecDepth 100000 in
set_option maxHeartbeats 16000000 in
theorem decOne_any (t : Nat) (c raw : ByteArray) (hc : c.size ≤ 131072) (w : World) (htb : Tb w) :
    Calls Tryd.prog 68 #[.agg #[.int .i64 (t : Int), .string c, .string raw]] w fun e w' => e = .returned (decXR (decX (t, c.data.toList, raw.data.toList))) ∧ Below w.heap.size w w' := by
  obtain ⟨o, ho⟩ : ∃ o, decX (t, c.data.toList, raw.data.toList) = o := ⟨_, rfl⟩
  rw [ho]
  have HO := hide ho
  have HTB := hide htb
  clear ho htb
  obtain ⟨W0, hW0, hd0, hz0, n0, n1⟩ := four_new w (.int .i64 (t : Int)) (.string c) (.string raw)
  have HD0 := hide hd0
  clear hd0
  go_enter Tryd.func68, Tryd.ntmps68
  go_upto_region 2 with fail
  simp only [Nat.add_assoc, Nat.reduceAdd]
  rw [← hW0]
  clear hW0
  by_cases h48 : t = 48
  · have ht : ((t : Int) != 48) = false := by rw [h48]; rfl
    obtain ⟨L, hL⟩ : ∃ L, listF c.data.toList = L := ⟨_, rfl⟩
    have HX := hide (show o = decXG L by rw [← HO.out, decX_eq h48, hL])
    have HL := hide hL
    clear h48 hL
    go_wp2_with fail
    refine (List_any c (by omega) _).mono ?_
    rintro e w1 ⟨hb1, hres⟩
    rw [HL.out] at hres
    have hd1 := HD0.out.grow hb1
    clear n0 n1
    cases L with
    | error k =>
      obtain rfl : e = _ := hres
      have hk : k ≠ 0 := fun h => list_err0 _ _ (Nat.le_refl _) (h ▸ HL.out)
      have ht2 : (k != 0) = true := by simpa using hk
      have HN := hide (show o = .error k from HX.out)
      clear hk
      obtain ⟨r0, r1, r2, f0, f1, f2⟩ := (hd1).r.facts
      obtain ⟨n0, n1, n2, -, -, -⟩ := (hd1).n.facts
      go_wp2_with fail
      obtain ⟨q0, q1, q2⟩ := (hd1).r.store (.string ⟨#[]⟩) (.bool false) (.string ⟨#[]⟩)
      have hbz := ((((hd1).below.setCell (p := ⟨w.heap.size + 1, 0, none⟩) (by show _ ≤ w.heap.size + 1; omega) (.string ⟨#[]⟩)).setCell (p := ⟨w.heap.size + 1, 1, none⟩) (by show _ ≤ w.heap.size + 1; omega) (.bool false)).setCell (p := ⟨w.heap.size + 1, 2, none⟩) (by show _ ≤ w.heap.size + 1; omega) (.string ⟨#[]⟩))
      obtain ⟨W3, hW3⟩ : ∃ W3, W3 = ((w1.setCell ⟨w.heap.size + 1, 0, none⟩ (.string ⟨#[]⟩)).setCell ⟨w.heap.size + 1, 1, none⟩ (.bool false)).setCell ⟨w.heap.size + 1, 2, none⟩ (.string ⟨#[]⟩) := ⟨_, rfl⟩
      rw [← hW3] at q0 q1 q2 hbz ⊢
      exact bodyPost_ret (v := .tuple #[.agg #[(.string ⟨#[]⟩), (.bool false), (.string ⟨#[]⟩)], .int .i64 k]) (by simp [results, Tryd.results68, go_sem, q0, q1, q2]) rfl ⟨by rw [HN.out]; rfl, hbz⟩
    | ok l =>
      obtain ⟨A, cp, rfl, hsl⟩ := hres
      have HX2 := hide (show o = decL' l from HX.out)
      have hd1 : DSt w l (.slice A l.length cp) ⟨#[]⟩ false ⟨#[]⟩ w1 := ⟨hd1.below, hd1.r, hd1.n, hd1.x, by rw [hz0] at hsl; exact hsl⟩
      have HML := hide (list_is_wrap _ _ _ (Nat.le_refl _) HL.out)
      cases l with
      | nil =>
        have HN := hide (show o = .error 3 from HX2.out)
        rw [List.length_nil]
        obtain ⟨r0, r1, r2, f0, f1, f2⟩ := (hd1).r.facts
        obtain ⟨n0, n1, n2, -, -, -⟩ := (hd1).n.facts
        go_wp2_with fail
        obtain ⟨q0, q1, q2⟩ := (hd1).r.store (.string ⟨#[]⟩) (.bool false) (.string ⟨#[]⟩)
        have hbz := ((((hd1).below.setCell (p := ⟨w.heap.size + 1, 0, none⟩) (by show _ ≤ w.heap.size + 1; omega) (.string ⟨#[]⟩)).setCell (p := ⟨w.heap.size + 1, 1, none⟩) (by show _ ≤ w.heap.size + 1; omega) (.bool false)).setCell (p := ⟨w.heap.size + 1, 2, none⟩) (by show _ ≤ w.heap.size + 1; omega) (.string ⟨#[]⟩))
        obtain ⟨W3, hW3⟩ : ∃ W3, W3 = ((w1.setCell ⟨w.heap.size + 1, 0, none⟩ (.string ⟨#[]⟩)).setCell ⟨w.heap.size + 1, 1, none⟩ (.bool false)).setCell ⟨w.heap.size + 1, 2, none⟩ (.string ⟨#[]⟩) := ⟨_, rfl⟩
        rw [← hW3] at q0 q1 q2 hbz ⊢
        exact bodyPost_ret (v := .tuple #[.agg #[(.string ⟨#[]⟩), (.bool false), (.string ⟨#[]⟩)], .int .i64 3]) (by simp [results, Tryd.results68, go_sem, q0, q1, q2]) rfl ⟨by rw [HN.out]; rfl, hbz⟩
      | cons a r =>
        obtain ⟨at_, ac, ar⟩ := a
        obtain ⟨A1, c1, hsl1, hlr⟩ := tail_elt hd1.l
        obtain ⟨bb, oo, hAA, hSS, e0, e1, e2⟩ := hd1.l.eltAt (i := 0) (by simp)
        have hacl := (HML.out (at_, ac, ar) (by simp)).2.2.1
        subst hAA
        simp only [List.getElem_cons_zero, Nat.zero_mul, Nat.add_zero] at e0 e1 e2 hacl
        obtain ⟨xa, hxa⟩ : ∃ x : ByteArray, x = ⟨ac.toArray⟩ := ⟨_, rfl⟩
        have had : ac = xa.data.toList := by rw [hxa]
        rw [← hxa] at e1
        rw [had, size_string] at hacl
        have hlen : ((at_, ac, ar) :: r).length = r.length + 1 := rfl
        have hlt0 : (((at_, ac, ar) :: r).length : Int) = (r.length : Int) + 1 := by rw [hlen]; rfl
        have hne0 : ((((at_, ac, ar) :: r).length : Int) == 0) = false := beq_false_of_ne (by omega)
        obtain ⟨nn, hnn⟩ : ∃ nn, ((at_, ac, ar) :: r).length = nn := ⟨_, rfl⟩
        rw [hnn] at hsl1 hne0 hlt0 hlen hd1 ⊢
        have hnn1 : (0 : Int) < (nn : Int) := by omega
        have hnn2 : 0 < nn := by omega
        clear hxa hnn hsl hlen hlt0
        by_cases h6 : at_ = 6
        · have ht6 : ((at_ : Int) != 6) = false := by rw [h6]; rfl
          obtain ⟨d, hd⟩ : ∃ d, decP xa.data.toList = d := ⟨_, rfl⟩
          have HX3 := hide (show o = decIG d r by rw [HX2.out, decL_eq h6, had, hd])
          have HDD := hide hd
          clear h6 hd
          go_wp2_with fail
          refine (Decode_any xa (by omega) _ (HTB.out.below hd1.below)).mono ?_
          rintro e w2 ⟨rfl, hb2⟩
          rw [HDD.out]
          have hd2 := hd1.grow hb2
          cases d with
          | none =>
            have HN := hide (show o = .error 11 from HX3.out)
            rw [show encR none = .tuple #[.string ⟨#[]⟩, .int .i64 11] from rfl]
            obtain ⟨x0, x1, x2, g0, g1, g2⟩ := hd2.x.facts
            clear e0 e1 e2
            go_upto_region 12 with fail
            obtain ⟨w3, hw3⟩ : ∃ W, W = w2.setCell ⟨w.heap.size + 3, 0, none⟩ (.string ⟨#[]⟩) := ⟨_, rfl⟩
            have hd3 := hd2.st0 ⟨#[]⟩
            rw [← hw3] at hd3 ⊢
            clear hw3 x0 x1 x2 g0 g1 g2
            obtain ⟨r0, r1, r2, f0, f1, f2⟩ := (hd3).r.facts
            obtain ⟨n0, n1, n2, -, -, -⟩ := (hd3).n.facts
            go_wp2_with fail
            obtain ⟨q0, q1, q2⟩ := (hd3).r.store (.string ⟨#[]⟩) (.bool false) (.string ⟨#[]⟩)
            have hbz := ((((hd3).below.setCell (p := ⟨w.heap.size + 1, 0, none⟩) (by show _ ≤ w.heap.size + 1; omega) (.string ⟨#[]⟩)).setCell (p := ⟨w.heap.size + 1, 1, none⟩) (by show _ ≤ w.heap.size + 1; omega) (.bool false)).setCell (p := ⟨w.heap.size + 1, 2, none⟩) (by show _ ≤ w.heap.size + 1; omega) (.string ⟨#[]⟩))
            obtain ⟨W3, hW3⟩ : ∃ W3, W3 = ((w3.setCell ⟨w.heap.size + 1, 0, none⟩ (.string ⟨#[]⟩)).setCell ⟨w.heap.size + 1, 1, none⟩ (.bool false)).setCell ⟨w.heap.size + 1, 2, none⟩ (.string ⟨#[]⟩) := ⟨_, rfl⟩
            rw [← hW3] at q0 q1 q2 hbz ⊢
            exact bodyPost_ret (v := .tuple #[.agg #[(.string ⟨#[]⟩), (.bool false), (.string ⟨#[]⟩)], .int .i64 11]) (by simp [results, Tryd.results68, go_sem, q0, q1, q2]) rfl ⟨by rw [HN.out]; rfl, hbz⟩
          | some id =>
            obtain ⟨y, hy⟩ : ∃ y : ByteArray, y = ⟨id.toArray⟩ := ⟨_, rfl⟩
            have hyd : id = y.data.toList := by rw [hy]
            rw [show encR (some id) = .tuple #[.string y, .int .i64 0] by rw [hy]; rfl]
            have HX4 := hide (show o = decBG y.data.toList (boolF r) by rw [← hyd]; exact HX3.out)
            obtain ⟨x0, x1, x2, g0, g1, g2⟩ := hd2.x.facts
            clear hy hyd e0 e1 e2
            go_upto_region 15 with (with_reducible refine wpList_slice1 rfl 41 (.tmp 45) (.const (.int .i64 1)) rfl (.slice (some ⟨bb, oo, none⟩) nn cp) (.slice A1 r.length c1) (.int .i64 1) rfl rfl elem_elt hsl1 ?_)
            obtain ⟨w3, hw3⟩ : ∃ W, W = w2.setCell ⟨w.heap.size + 3, 0, none⟩ (.string y) := ⟨_, rfl⟩
            have hd3 : DSt w r (.slice A1 r.length c1) y false ⟨#[]⟩ w3 := by
              have h := hd2.st0 y
              have hlr2 : Sl RElt 3 w2 (Btw (w.heap.size + 4) w2.heap.size) r [.slice A1 r.length c1] := (Sl.ok RElt.ok).mono hlr (fun j hj => hb2.block j hj.2) (fun j hj => ⟨hj.1, Nat.lt_of_lt_of_le hj.2 hb2.size⟩)
              rw [← hw3] at h
              exact ⟨h.below, h.r, h.n, h.x, by rw [hw3]; exact DSt.sl_set hlr2⟩
            rw [← hw3]
            clear hw3 x0 x1 x2 g0 g1 g2 hsl1 hlr hb2 hne0 hnn1 hnn2
            cases r with
            | nil =>
              have hl0 : ([] : List Elt).length = 0 := rfl
              have HN := hide (show o = .error 3 from HX4.out)
              rw [hl0]
              obtain ⟨r0, r1, r2, f0, f1, f2⟩ := (hd3).r.facts
              obtain ⟨n0, n1, n2, -, -, -⟩ := (hd3).n.facts
              go_wp2_with fail
              obtain ⟨q0, q1, q2⟩ := (hd3).r.store (.string ⟨#[]⟩) (.bool false) (.string ⟨#[]⟩)
              have hbz := ((((hd3).below.setCell (p := ⟨w.heap.size + 1, 0, none⟩) (by show _ ≤ w.heap.size + 1; omega) (.string ⟨#[]⟩)).setCell (p := ⟨w.heap.size + 1, 1, none⟩) (by show _ ≤ w.heap.size + 1; omega) (.bool false)).setCell (p := ⟨w.heap.size + 1, 2, none⟩) (by show _ ≤ w.heap.size + 1; omega) (.string ⟨#[]⟩))
              obtain ⟨W3, hW3⟩ : ∃ W3, W3 = ((w3.setCell ⟨w.heap.size + 1, 0, none⟩ (.string ⟨#[]⟩)).setCell ⟨w.heap.size + 1, 1, none⟩ (.bool false)).setCell ⟨w.heap.size + 1, 2, none⟩ (.string ⟨#[]⟩) := ⟨_, rfl⟩
              rw [← hW3] at q0 q1 q2 hbz ⊢
              exact bodyPost_ret (v := .tuple #[.agg #[(.string ⟨#[]⟩), (.bool false), (.string ⟨#[]⟩)], .int .i64 3]) (by simp [results, Tryd.results68, go_sem, q0, q1, q2]) rfl ⟨by rw [HN.out]; rfl, hbz⟩
            | cons b r2 =>
              obtain ⟨bt, bc, br⟩ := b
              obtain ⟨A2, c2, hsl2, hlr2⟩ := tail_elt hd3.l
              obtain ⟨bb2, oo2, hAA2, hSS2, e0, e1, e2⟩ := hd3.l.eltAt (i := 0) (by simp)
              subst hAA2
              simp only [List.getElem_cons_zero, Nat.zero_mul, Nat.add_zero] at e0 e1 e2
              obtain ⟨xb, hxb⟩ : ∃ x : ByteArray, x = ⟨bc.toArray⟩ := ⟨_, rfl⟩
              have hbd : bc = xb.data.toList := by rw [hxb]
              have hlen2 : ((bt, bc, br) :: r2).length = r2.length + 1 := rfl
              by_cases hb1 : bt = 1
              · have ht1 : ((bt : Int) == 1) = true := by rw [hb1]; rfl
                rw [← hxb] at e1
                have HX5 := hide (show o = decBG y.data.toList (if xb.data.toList = [255] then Except.ok (true, r2) else Except.error 7) by rw [HX4.out, boolF_yes hb1, hbd])
                obtain ⟨nn2, hnn2⟩ : ∃ nn, ((bt, bc, br) :: r2).length = nn := ⟨_, rfl⟩
                rw [hnn2] at hsl2 hlen2 hd3 ⊢
                have hn1 : (0 : Int) < (nn2 : Int) := by omega
                have hn2 : 0 < nn2 := by omega
                clear hb1 hxb hbd hnn2 hlen2
                go_wp2_with fail
                refine (Boolean_any xb _).mono ?_
                rintro e w4 ⟨rfl, rfl⟩
                obtain ⟨x0, x1, x2, g0, g1, g2⟩ := hd3.x.facts
                by_cases h255 : xb.data.toList = [255]
                · have hx := HX5.out
                  rw [if_pos h255] at hx
                  rw [boolR, if_neg (by rw [h255]; decide), if_pos h255]
                  go_upto_region 22 with (with_reducible refine wpList_slice1 rfl 41 (.tmp 74) (.const (.int .i64 1)) rfl (.slice (some ⟨bb2, oo2, none⟩) nn2 c1) (.slice A2 r2.length c2) (.int .i64 1) rfl rfl elem_elt hsl2 ?_)
                  obtain ⟨w5, hw5⟩ : ∃ W, W = w3.setCell ⟨w.heap.size + 3, 1, none⟩ (.bool true) := ⟨_, rfl⟩
                  have hd5 : DSt w r2 (.slice A2 r2.length c2) y true ⟨#[]⟩ w5 := by
                    have h := hd3.st1 true
                    rw [← hw5] at h
                    exact ⟨h.below, h.r, h.n, h.x, by rw [hw5]; exact DSt.sl_set hlr2⟩
                  rw [← hw5]
                  clear hw5 x0 x1 x2 g0 g1 g2 e0 e1 e2 hsl2 hlr2 hn1 hn2
                  cases r2 with
                  | nil =>
                    have HN := hide (show o = .error 3 from hx)
                    obtain ⟨r0, r1, r2, f0, f1, f2⟩ := (hd5).r.facts
                    obtain ⟨n0, n1, n2, -, -, -⟩ := (hd5).n.facts
                    go_wp2_with fail
                    obtain ⟨q0, q1, q2⟩ := (hd5).r.store (.string ⟨#[]⟩) (.bool false) (.string ⟨#[]⟩)
                    have hbz := ((((hd5).below.setCell (p := ⟨w.heap.size + 1, 0, none⟩) (by show _ ≤ w.heap.size + 1; omega) (.string ⟨#[]⟩)).setCell (p := ⟨w.heap.size + 1, 1, none⟩) (by show _ ≤ w.heap.size + 1; omega) (.bool false)).setCell (p := ⟨w.heap.size + 1, 2, none⟩) (by show _ ≤ w.heap.size + 1; omega) (.string ⟨#[]⟩))
                    obtain ⟨W3, hW3⟩ : ∃ W3, W3 = ((w5.setCell ⟨w.heap.size + 1, 0, none⟩ (.string ⟨#[]⟩)).setCell ⟨w.heap.size + 1, 1, none⟩ (.bool false)).setCell ⟨w.heap.size + 1, 2, none⟩ (.string ⟨#[]⟩) := ⟨_, rfl⟩
                    rw [← hW3] at q0 q1 q2 hbz ⊢
                    exact bodyPost_ret (v := .tuple #[.agg #[(.string ⟨#[]⟩), (.bool false), (.string ⟨#[]⟩)], .int .i64 3]) (by simp [results, Tryd.results68, go_sem, q0, q1, q2]) rfl ⟨by rw [HN.out]; rfl, hbz⟩
                  | cons v q =>
                    obtain ⟨vt, vc, vr⟩ := v
                    obtain ⟨bb, oo, hAA, hSS, e0, e1, e2⟩ := (hd5).l.eltAt (i := 0) (by simp)
                    cases hAA
                    simp only [List.getElem_cons_zero, Nat.zero_mul, Nat.add_zero] at e0 e1 e2
                    obtain ⟨xv, hxv⟩ : ∃ x : ByteArray, x = ⟨vc.toArray⟩ := ⟨_, rfl⟩
                    have hvd : vc = xv.data.toList := by rw [hxv]
                    rw [← hxv] at e1
                    have hxc := hx
                    have HX := hide (show o = decV y.data.toList true ((vt, vc, vr) :: q) from hxc)
                    clear hxv hxc
                    have hlen : ((vt, vc, vr) :: q).length = q.length + 1 := rfl
                    rw [hlen]
                    clear hlen
                    by_cases h4 : vt = 4
                    · have ht4 : ((vt : Int) != 4) = false := by rw [h4]; rfl
                      have HX2 := hide (show o = if q ≠ [] then .error 4 else .ok (y.data.toList, true, xv.data.toList) by rw [HX.out, decV, if_neg (by simpa using h4), hvd])
                      clear h4
                      by_cases hq : q = []
                      · have HN := hide (show o = .ok (y.data.toList, true, xv.data.toList) by rw [HX2.out, if_neg (by simpa using hq)])
                        have hql : q.length = 0 := by rw [hq]; rfl
                        clear hq
                        rw [hql]
                        obtain ⟨x0, x1', x2', g0, g1, g2⟩ := (hd5).x.facts
                        go_upto_region 29 with fail
                        obtain ⟨wf, hwf⟩ : ∃ W, W = w5.setCell ⟨w.heap.size + 3, 2, none⟩ (.string xv) := ⟨_, rfl⟩
                        have hsf := (hd5).st2 xv
                        rw [← hwf] at hsf ⊢
                        clear hwf x0 x1' x2' g0 g1 g2 e0 e1 e2
                        obtain ⟨x0, x1', x2', -, -, -⟩ := hsf.x.facts
                        obtain ⟨r0, r1, r2, f0, f1, f2⟩ := hsf.r.facts
                        go_wp2_with fail
                        obtain ⟨q0, q1, q2⟩ := (hsf).r.store (.string y) (.bool true) (.string xv)
                        have hbz := ((((hsf).below.setCell (p := ⟨w.heap.size + 1, 0, none⟩) (by show _ ≤ w.heap.size + 1; omega) (.string y)).setCell (p := ⟨w.heap.size + 1, 1, none⟩) (by show _ ≤ w.heap.size + 1; omega) (.bool true)).setCell (p := ⟨w.heap.size + 1, 2, none⟩) (by show _ ≤ w.heap.size + 1; omega) (.string xv))
                        obtain ⟨W3, hW3⟩ : ∃ W3, W3 = ((wf.setCell ⟨w.heap.size + 1, 0, none⟩ (.string y)).setCell ⟨w.heap.size + 1, 1, none⟩ (.bool true)).setCell ⟨w.heap.size + 1, 2, none⟩ (.string xv) := ⟨_, rfl⟩
                        rw [← hW3] at q0 q1 q2 hbz ⊢
                        exact bodyPost_ret (v := .tuple #[.agg #[(.string y), (.bool true), (.string xv)], .int .i64 0]) (by simp [results, Tryd.results68, go_sem, q0, q1, q2]) rfl ⟨by rw [HN.out]; rfl, hbz⟩
                      · have HN := hide (show o = .error 4 by rw [HX2.out, if_pos hq])
                        have hql : (1 : Int) < ((q.length : Int) + 1) := by have := List.length_pos_iff.2 hq; omega
                        clear hq
                        obtain ⟨r0, r1, r2, f0, f1, f2⟩ := (hd5).r.facts
                        obtain ⟨n0, n1, n2, -, -, -⟩ := (hd5).n.facts
                        go_wp2_with fail
                        obtain ⟨q0, q1, q2⟩ := (hd5).r.store (.string ⟨#[]⟩) (.bool false) (.string ⟨#[]⟩)
                        have hbz := ((((hd5).below.setCell (p := ⟨w.heap.size + 1, 0, none⟩) (by show _ ≤ w.heap.size + 1; omega) (.string ⟨#[]⟩)).setCell (p := ⟨w.heap.size + 1, 1, none⟩) (by show _ ≤ w.heap.size + 1; omega) (.bool false)).setCell (p := ⟨w.heap.size + 1, 2, none⟩) (by show _ ≤ w.heap.size + 1; omega) (.string ⟨#[]⟩))
                        obtain ⟨W3, hW3⟩ : ∃ W3, W3 = ((w5.setCell ⟨w.heap.size + 1, 0, none⟩ (.string ⟨#[]⟩)).setCell ⟨w.heap.size + 1, 1, none⟩ (.bool false)).setCell ⟨w.heap.size + 1, 2, none⟩ (.string ⟨#[]⟩) := ⟨_, rfl⟩
                        rw [← hW3] at q0 q1 q2 hbz ⊢
                        exact bodyPost_ret (v := .tuple #[.agg #[(.string ⟨#[]⟩), (.bool false), (.string ⟨#[]⟩)], .int .i64 4]) (by simp [results, Tryd.results68, go_sem, q0, q1, q2]) rfl ⟨by rw [HN.out]; rfl, hbz⟩
                    · have ht4 : ((vt : Int) != 4) = true := bne_iff_ne.2 (fun e => h4 (Int.ofNat.inj e))
                      have HN := hide (show o = .error 5 by rw [HX.out, decV, if_pos h4])
                      clear h4
                      obtain ⟨r0, r1, r2, f0, f1, f2⟩ := (hd5).r.facts
                      obtain ⟨n0, n1, n2, -, -, -⟩ := (hd5).n.facts
                      go_wp2_with fail
                      obtain ⟨q0, q1, q2⟩ := (hd5).r.store (.string ⟨#[]⟩) (.bool false) (.string ⟨#[]⟩)
                      have hbz := ((((hd5).below.setCell (p := ⟨w.heap.size + 1, 0, none⟩) (by show _ ≤ w.heap.size + 1; omega) (.string ⟨#[]⟩)).setCell (p := ⟨w.heap.size + 1, 1, none⟩) (by show _ ≤ w.heap.size + 1; omega) (.bool false)).setCell (p := ⟨w.heap.size + 1, 2, none⟩) (by show _ ≤ w.heap.size + 1; omega) (.string ⟨#[]⟩))
                      obtain ⟨W3, hW3⟩ : ∃ W3, W3 = ((w5.setCell ⟨w.heap.size + 1, 0, none⟩ (.string ⟨#[]⟩)).setCell ⟨w.heap.size + 1, 1, none⟩ (.bool false)).setCell ⟨w.heap.size + 1, 2, none⟩ (.string ⟨#[]⟩) := ⟨_, rfl⟩
                      rw [← hW3] at q0 q1 q2 hbz ⊢
                      exact bodyPost_ret (v := .tuple #[.agg #[(.string ⟨#[]⟩), (.bool false), (.string ⟨#[]⟩)], .int .i64 5]) (by simp [results, Tryd.results68, go_sem, q0, q1, q2]) rfl ⟨by rw [HN.out]; rfl, hbz⟩
                · have hx := HX5.out
                  rw [if_neg h255] at hx
                  have HN := hide (show o = .error 7 from hx)
                  by_cases h00 : xb.data.toList = [0]
                  · rw [boolR, if_pos h00]
                    clear e0 e1 e2 hx h255 h00
                    go_upto_region 17 with fail
                    obtain ⟨w5, hw5⟩ : ∃ W, W = w3.setCell ⟨w.heap.size + 3, 1, none⟩ (.bool false) := ⟨_, rfl⟩
                    have hd5 := hd3.st1 false
                    rw [← hw5] at hd5 ⊢
                    clear hw5 x0 x1 x2 g0 g1 g2 hsl2 hlr2
                    obtain ⟨x0, x1, x2, -, -, -⟩ := hd5.x.facts
                    obtain ⟨r0, r1, r2, f0, f1, f2⟩ := (hd5).r.facts
                    obtain ⟨n0, n1, n2, -, -, -⟩ := (hd5).n.facts
                    go_wp2_with fail
                    obtain ⟨q0, q1, q2⟩ := (hd5).r.store (.string ⟨#[]⟩) (.bool false) (.string ⟨#[]⟩)
                    have hbz := ((((hd5).below.setCell (p := ⟨w.heap.size + 1, 0, none⟩) (by show _ ≤ w.heap.size + 1; omega) (.string ⟨#[]⟩)).setCell (p := ⟨w.heap.size + 1, 1, none⟩) (by show _ ≤ w.heap.size + 1; omega) (.bool false)).setCell (p := ⟨w.heap.size + 1, 2, none⟩) (by show _ ≤ w.heap.size + 1; omega) (.string ⟨#[]⟩))
                    obtain ⟨W3, hW3⟩ : ∃ W3, W3 = ((w5.setCell ⟨w.heap.size + 1, 0, none⟩ (.string ⟨#[]⟩)).setCell ⟨w.heap.size + 1, 1, none⟩ (.bool false)).setCell ⟨w.heap.size + 1, 2, none⟩ (.string ⟨#[]⟩) := ⟨_, rfl⟩
                    rw [← hW3] at q0 q1 q2 hbz ⊢
                    exact bodyPost_ret (v := .tuple #[.agg #[(.string ⟨#[]⟩), (.bool false), (.string ⟨#[]⟩)], .int .i64 7]) (by simp [results, Tryd.results68, go_sem, q0, q1, q2]) rfl ⟨by rw [HN.out]; rfl, hbz⟩
                  · rw [boolR, if_neg h00, if_neg h255]
                    clear e0 e1 e2 hx h255 h00
                    go_upto_region 17 with fail
                    obtain ⟨w5, hw5⟩ : ∃ W, W = w3.setCell ⟨w.heap.size + 3, 1, none⟩ (.bool false) := ⟨_, rfl⟩
                    have hd5 := hd3.st1 false
                    rw [← hw5] at hd5 ⊢
                    clear hw5 x0 x1 x2 g0 g1 g2 hsl2 hlr2
                    obtain ⟨r0, r1, r2, f0, f1, f2⟩ := (hd5).r.facts
                    obtain ⟨n0, n1, n2, -, -, -⟩ := (hd5).n.facts
                    go_wp2_with fail
                    obtain ⟨q0, q1, q2⟩ := (hd5).r.store (.string ⟨#[]⟩) (.bool false) (.string ⟨#[]⟩)
                    have hbz := ((((hd5).below.setCell (p := ⟨w.heap.size + 1, 0, none⟩) (by show _ ≤ w.heap.size + 1; omega) (.string ⟨#[]⟩)).setCell (p := ⟨w.heap.size + 1, 1, none⟩) (by show _ ≤ w.heap.size + 1; omega) (.bool false)).setCell (p := ⟨w.heap.size + 1, 2, none⟩) (by show _ ≤ w.heap.size + 1; omega) (.string ⟨#[]⟩))
                    obtain ⟨W3, hW3⟩ : ∃ W3, W3 = ((w5.setCell ⟨w.heap.size + 1, 0, none⟩ (.string ⟨#[]⟩)).setCell ⟨w.heap.size + 1, 1, none⟩ (.bool false)).setCell ⟨w.heap.size + 1, 2, none⟩ (.string ⟨#[]⟩) := ⟨_, rfl⟩
                    rw [← hW3] at q0 q1 q2 hbz ⊢
                    exact bodyPost_ret (v := .tuple #[.agg #[(.string ⟨#[]⟩), (.bool false), (.string ⟨#[]⟩)], .int .i64 7]) (by simp [results, Tryd.results68, go_sem, q0, q1, q2]) rfl ⟨by rw [HN.out]; rfl, hbz⟩
              · have ht1 : ((bt : Int) == 1) = false := beq_false_of_ne (fun e => hb1 (Int.ofNat.inj e))
                have hx : o = decV y.data.toList false ((bt, bc, br) :: r2) := (HX4.out.trans (congrArg (decBG y.data.toList) (boolF_no hb1)))
                obtain ⟨M, hM⟩ : ∃ M, (bt, bc, br) :: r2 = M := ⟨_, rfl⟩
                have hMl : M.length = r2.length + 1 := by rw [← hM]; rfl
                have hn1 : (0 : Int) < (M.length : Int) := by omega
                have hn2 : 0 < M.length := by omega
                rw [hM] at hd3 hx ⊢
                clear hM hsl2 hlr2 hlen2 hb1 hxb hbd hMl
                go_upto_region 22 with fail
                clear e0 e1 e2 ht1
                cases M with
                | nil =>
                  have HN := hide (show o = .error 3 from hx)
                  obtain ⟨r0, r1, r2, f0, f1, f2⟩ := (hd3).r.facts
                  obtain ⟨n0, n1, n2, -, -, -⟩ := (hd3).n.facts
                  go_wp2_with fail
                  obtain ⟨q0, q1, q2⟩ := (hd3).r.store (.string ⟨#[]⟩) (.bool false) (.string ⟨#[]⟩)
                  have hbz := ((((hd3).below.setCell (p := ⟨w.heap.size + 1, 0, none⟩) (by show _ ≤ w.heap.size + 1; omega) (.string ⟨#[]⟩)).setCell (p := ⟨w.heap.size + 1, 1, none⟩) (by show _ ≤ w.heap.size + 1; omega) (.bool false)).setCell (p := ⟨w.heap.size + 1, 2, none⟩) (by show _ ≤ w.heap.size + 1; omega) (.string ⟨#[]⟩))
                  obtain ⟨W3, hW3⟩ : ∃ W3, W3 = ((w3.setCell ⟨w.heap.size + 1, 0, none⟩ (.string ⟨#[]⟩)).setCell ⟨w.heap.size + 1, 1, none⟩ (.bool false)).setCell ⟨w.heap.size + 1, 2, none⟩ (.string ⟨#[]⟩) := ⟨_, rfl⟩
                  rw [← hW3] at q0 q1 q2 hbz ⊢
                  exact bodyPost_ret (v := .tuple #[.agg #[(.string ⟨#[]⟩), (.bool false), (.string ⟨#[]⟩)], .int .i64 3]) (by simp [results, Tryd.results68, go_sem, q0, q1, q2]) rfl ⟨by rw [HN.out]; rfl, hbz⟩
                | cons v q =>
                  obtain ⟨vt, vc, vr⟩ := v
                  obtain ⟨bb, oo, hAA, hSS, e0, e1, e2⟩ := (hd3).l.eltAt (i := 0) (by simp)
                  cases hAA
                  simp only [List.getElem_cons_zero, Nat.zero_mul, Nat.add_zero] at e0 e1 e2
                  obtain ⟨xv, hxv⟩ : ∃ x : ByteArray, x = ⟨vc.toArray⟩ := ⟨_, rfl⟩
                  have hvd : vc = xv.data.toList := by rw [hxv]
                  rw [← hxv] at e1
                  have hxc := hx
                  have HX := hide (show o = decV y.data.toList false ((vt, vc, vr) :: q) from hxc)
                  clear hxv hxc
                  have hlen : ((vt, vc, vr) :: q).length = q.length + 1 := rfl
                  rw [hlen]
                  clear hlen
                  by_cases h4 : vt = 4
                  · have ht4 : ((vt : Int) != 4) = false := by rw [h4]; rfl
                    have HX2 := hide (show o = if q ≠ [] then .error 4 else .ok (y.data.toList, false, xv.data.toList) by rw [HX.out, decV, if_neg (by simpa using h4), hvd])
                    clear h4
                    by_cases hq : q = []
                    · have HN := hide (show o = .ok (y.data.toList, false, xv.data.toList) by rw [HX2.out, if_neg (by simpa using hq)])
                      have hql : q.length = 0 := by rw [hq]; rfl
                      clear hq
                      rw [hql]
                      obtain ⟨x0, x1', x2', g0, g1, g2⟩ := (hd3).x.facts
                      go_upto_region 29 with fail
                      obtain ⟨wf, hwf⟩ : ∃ W, W = w3.setCell ⟨w.heap.size + 3, 2, none⟩ (.string xv) := ⟨_, rfl⟩
                      have hsf := (hd3).st2 xv
                      rw [← hwf] at hsf ⊢
                      clear hwf x0 x1' x2' g0 g1 g2 e0 e1 e2
                      obtain ⟨x0, x1', x2', -, -, -⟩ := hsf.x.facts
                      obtain ⟨r0, r1, r2, f0, f1, f2⟩ := hsf.r.facts
                      go_wp2_with fail
                      obtain ⟨q0, q1, q2⟩ := (hsf).r.store (.string y) (.bool false) (.string xv)
                      have hbz := ((((hsf).below.setCell (p := ⟨w.heap.size + 1, 0, none⟩) (by show _ ≤ w.heap.size + 1; omega) (.string y)).setCell (p := ⟨w.heap.size + 1, 1, none⟩) (by show _ ≤ w.heap.size + 1; omega) (.bool false)).setCell (p := ⟨w.heap.size + 1, 2, none⟩) (by show _ ≤ w.heap.size + 1; omega) (.string xv))
                      obtain ⟨W3, hW3⟩ : ∃ W3, W3 = ((wf.setCell ⟨w.heap.size + 1, 0, none⟩ (.string y)).setCell ⟨w.heap.size + 1, 1, none⟩ (.bool false)).setCell ⟨w.heap.size + 1, 2, none⟩ (.string xv) := ⟨_, rfl⟩
                      rw [← hW3] at q0 q1 q2 hbz ⊢
                      exact bodyPost_ret (v := .tuple #[.agg #[(.string y), (.bool false), (.string xv)], .int .i64 0]) (by simp [results, Tryd.results68, go_sem, q0, q1, q2]) rfl ⟨by rw [HN.out]; rfl, hbz⟩
                    · have HN := hide (show o = .error 4 by rw [HX2.out, if_pos hq])
                      have hql : (1 : Int) < ((q.length : Int) + 1) := by have := List.length_pos_iff.2 hq; omega
                      clear hq
                      obtain ⟨r0, r1, r2, f0, f1, f2⟩ := (hd3).r.facts
                      obtain ⟨n0, n1, n2, -, -, -⟩ := (hd3).n.facts
                      go_wp2_with fail
                      obtain ⟨q0, q1, q2⟩ := (hd3).r.store (.string ⟨#[]⟩) (.bool false) (.string ⟨#[]⟩)
                      have hbz := ((((hd3).below.setCell (p := ⟨w.heap.size + 1, 0, none⟩) (by show _ ≤ w.heap.size + 1; omega) (.string ⟨#[]⟩)).setCell (p := ⟨w.heap.size + 1, 1, none⟩) (by show _ ≤ w.heap.size + 1; omega) (.bool false)).setCell (p := ⟨w.heap.size + 1, 2, none⟩) (by show _ ≤ w.heap.size + 1; omega) (.string ⟨#[]⟩))
                      obtain ⟨W3, hW3⟩ : ∃ W3, W3 = ((w3.setCell ⟨w.heap.size + 1, 0, none⟩ (.string ⟨#[]⟩)).setCell ⟨w.heap.size + 1, 1, none⟩ (.bool false)).setCell ⟨w.heap.size + 1, 2, none⟩ (.string ⟨#[]⟩) := ⟨_, rfl⟩
                      rw [← hW3] at q0 q1 q2 hbz ⊢
                      exact bodyPost_ret (v := .tuple #[.agg #[(.string ⟨#[]⟩), (.bool false), (.string ⟨#[]⟩)], .int .i64 4]) (by simp [results, Tryd.results68, go_sem, q0, q1, q2]) rfl ⟨by rw [HN.out]; rfl, hbz⟩
                  · have ht4 : ((vt : Int) != 4) = true := bne_iff_ne.2 (fun e => h4 (Int.ofNat.inj e))
                    have HN := hide (show o = .error 5 by rw [HX.out, decV, if_pos h4])
                    clear h4
                    obtain ⟨r0, r1, r2, f0, f1, f2⟩ := (hd3).r.facts
                    obtain ⟨n0, n1, n2, -, -, -⟩ := (hd3).n.facts
                    go_wp2_with fail
                    obtain ⟨q0, q1, q2⟩ := (hd3).r.store (.string ⟨#[]⟩) (.bool false) (.string ⟨#[]⟩)
                    have hbz := ((((hd3).below.setCell (p := ⟨w.heap.size + 1, 0, none⟩) (by show _ ≤ w.heap.size + 1; omega) (.string ⟨#[]⟩)).setCell (p := ⟨w.heap.size + 1, 1, none⟩) (by show _ ≤ w.heap.size + 1; omega) (.bool false)).setCell (p := ⟨w.heap.size + 1, 2, none⟩) (by show _ ≤ w.heap.size + 1; omega) (.string ⟨#[]⟩))
                    obtain ⟨W3, hW3⟩ : ∃ W3, W3 = ((w3.setCell ⟨w.heap.size + 1, 0, none⟩ (.string ⟨#[]⟩)).setCell ⟨w.heap.size + 1, 1, none⟩ (.bool false)).setCell ⟨w.heap.size + 1, 2, none⟩ (.string ⟨#[]⟩) := ⟨_, rfl⟩
                    rw [← hW3] at q0 q1 q2 hbz ⊢
                    exact bodyPost_ret (v := .tuple #[.agg #[(.string ⟨#[]⟩), (.bool false), (.string ⟨#[]⟩)], .int .i64 5]) (by simp [results, Tryd.results68, go_sem, q0, q1, q2]) rfl ⟨by rw [HN.out]; rfl, hbz⟩
        · have ht6 : ((at_ : Int) != 6) = true := bne_iff_ne.2 (fun e => h6 (Int.ofNat.inj e))
          have HN := hide (show o = .error 5 by rw [HX2.out, decL', if_pos h6])
          clear h6
          obtain ⟨r0, r1, r2, f0, f1, f2⟩ := (hd1).r.facts
          obtain ⟨n0, n1, n2, -, -, -⟩ := (hd1).n.facts
          go_wp2_with fail
          obtain ⟨q0, q1, q2⟩ := (hd1).r.store (.string ⟨#[]⟩) (.bool false) (.string ⟨#[]⟩)
          have hbz := ((((hd1).below.setCell (p := ⟨w.heap.size + 1, 0, none⟩) (by show _ ≤ w.heap.size + 1; omega) (.string ⟨#[]⟩)).setCell (p := ⟨w.heap.size + 1, 1, none⟩) (by show _ ≤ w.heap.size + 1; omega) (.bool false)).setCell (p := ⟨w.heap.size + 1, 2, none⟩) (by show _ ≤ w.heap.size + 1; omega) (.string ⟨#[]⟩))
          obtain ⟨W3, hW3⟩ : ∃ W3, W3 = ((w1.setCell ⟨w.heap.size + 1, 0, none⟩ (.string ⟨#[]⟩)).setCell ⟨w.heap.size + 1, 1, none⟩ (.bool false)).setCell ⟨w.heap.size + 1, 2, none⟩ (.string ⟨#[]⟩) := ⟨_, rfl⟩
          rw [← hW3] at q0 q1 q2 hbz ⊢
          exact bodyPost_ret (v := .tuple #[.agg #[(.string ⟨#[]⟩), (.bool false), (.string ⟨#[]⟩)], .int .i64 5]) (by simp [results, Tryd.results68, go_sem, q0, q1, q2]) rfl ⟨by rw [HN.out]; rfl, hbz⟩
  · have ht : ((t : Int) != 48) = true := bne_iff_ne.2 (fun e => h48 (Int.ofNat.inj e))
    have HN := hide (show o = .error 5 by rw [← HO.out, decX, if_pos h48])
    clear h48
    obtain ⟨r0, r1, r2, f0, f1, f2⟩ := (HD0.out).r.facts
    obtain ⟨n0, n1, n2, -, -, -⟩ := (HD0.out).n.facts
    go_wp2_with fail
    obtain ⟨q0, q1, q2⟩ := (HD0.out).r.store (.string ⟨#[]⟩) (.bool false) (.string ⟨#[]⟩)
    have hbz := ((((HD0.out).below.setCell (p := ⟨w.heap.size + 1, 0, none⟩) (by show _ ≤ w.heap.size + 1; omega) (.string ⟨#[]⟩)).setCell (p := ⟨w.heap.size + 1, 1, none⟩) (by show _ ≤ w.heap.size + 1; omega) (.bool false)).setCell (p := ⟨w.heap.size + 1, 2, none⟩) (by show _ ≤ w.heap.size + 1; omega) (.string ⟨#[]⟩))
    obtain ⟨W3, hW3⟩ : ∃ W3, W3 = ((W0.setCell ⟨w.heap.size + 1, 0, none⟩ (.string ⟨#[]⟩)).setCell ⟨w.heap.size + 1, 1, none⟩ (.bool false)).setCell ⟨w.heap.size + 1, 2, none⟩ (.string ⟨#[]⟩) := ⟨_, rfl⟩
    rw [← hW3] at q0 q1 q2 hbz ⊢
    exact bodyPost_ret (v := .tuple #[.agg #[(.string ⟨#[]⟩), (.bool false), (.string ⟨#[]⟩)], .int .i64 5]) (by simp [results, Tryd.results68, go_sem, q0, q1, q2]) rfl ⟨by rw [HN.out]; rfl, hbz⟩
end Go.Proofs.YtiikpdjjhnhiiaaDoor
