/- keyinfo.Decode. -/
import Derived.Test.YtmgnihmjjijdoaaDoorKKeyJ
namespace Go.Proofs.YtmgnihmjjijdoaaDoor
open Go.RowKit
theorem RK.ex {g d : Nat} {h : Int} {i r : ByteArray} {W W' : World} (k : RK g h i r W) (hx : Ex d W W') (hne : g ≠ d) : RK g h i r W' := (hx.block g k.lt (fun e => hne (Option.some.inj e))).trans k
structure KDSt (w : World) (gR gF : Nat) (W : World) : Prop where
 below : Below w.heap.size w W
 r : KX w.heap.size 0 ⟨#[]⟩ ⟨#[]⟩ W
 n : KX (w.heap.size + 1) 0 ⟨#[]⟩ ⟨#[]⟩ W
 f0 : W.cell? ⟨gF, 0, none⟩ = some (.func (.func 28) #[] #[])
 f1 : W.cell? ⟨gF, 1, none⟩ = some (.func (.func 29) #[] #[])
 hR : w.heap.size + 2 ≤ gR
 hF : gR < gF
 hS : gF < W.heap.size
theorem KDSt.ex {w : World} {gR gF : Nat} {W W' : World} (h : KDSt w gR gF W) (hx : Ex gR W W') : KDSt w gR gF W' :=
 ⟨Ex.below h.below h.below.size (by have := h.hR; omega) hx, h.r.ex hx (by have := h.hR; omega), h.n.ex hx (by have := h.hR; omega),
  (hx.cell (p := ⟨gF, 0, none⟩) h.hS (by have := h.hF; show gF ≠ gR; omega)).trans h.f0, (hx.cell (p := ⟨gF, 1, none⟩) h.hS (by have := h.hF; show gF ≠ gR; omega)).trans h.f1, h.hR, h.hF, Nat.lt_of_lt_of_le h.hS hx.size⟩
theorem KDSt.grow {w : World} {gR gF : Nat} {W W' : World} (h : KDSt w gR gF W) (hb : Below W.heap.size W W') : KDSt w gR gF W' := h.ex (Ex.of_below hb)
def KT (gR : Nat) (W : World) (o : Except Int Key) (l : List Elt) : Nat → Prop
 | 0 => o = decKl l ∧ ∃ h i r, RK gR h i r W
 | 1 => o = keyT l ∧ ∃ h i r, RK gR h i r W
 | _ => ∃ h i r, o = bitE l (.ok (h, i.data.toList, r.data.toList)) ∧ RK gR h i r W
theorem sl_exR {gR : Nat} {W W' : World} {l : List Elt} {v : Value} (h : Sl RElt 3 W (Lt gR) l [v]) (hg : gR ≤ W.heap.size) (hx : Ex gR W W') : Sl RElt 3 W' (Lt gR) l [v] :=
 (Sl.ok RElt.ok).mono h (fun j hj => hx.block j (Nat.lt_of_lt_of_le hj hg) (fun e => Nat.ne_of_lt hj (Option.some.inj e))) (fun _ hj => hj)
set_option maxRecDepth 100000 in
set_option maxHeartbeats 16000000 in
theorem KDecode_start (s : ByteArray) (hs : s.size ≤ 1000000000) (w : World) (k : Int) (hk : oneF s.data.toList = .error k) (o : Except Int Key) (ho : o = .error k) :
  Calls Tryd.prog 13 #[.string s] w fun e w' => e = .returned (decKR o) ∧ Below w.heap.size w w' := by
 obtain ⟨W0, hW0, hb0, hr0, hn0, hz0⟩ := two_keys w
 have HK := hide hk
 have HO := hide ho
 have hk0 : k ≠ 0 := fun h => one_err0 _ (h ▸ hk)
 have ht2 : (k != 0) = true := by simpa using hk0
 clear hk hk0 ho
 go_enter Tryd.func13, Tryd.ntmps13
 go_upto_region 2 with fail
 rw [← hW0]
 clear hW0
 have hz00 : W0.heap.size ≤ w.heap.size + 2 := by omega
 have hz01 : w.heap.size + 2 ≤ W0.heap.size := by omega
 clear hz0
 go_wp2_with fail
 refine (One_any s hs _).mono ?_
 rintro e w1 ⟨rfl, hb1⟩
 rw [HK.out, show oneR (.error k) = .tuple #[.agg #[.int .i64 0, .string ⟨#[]⟩, .string ⟨#[]⟩], .int .i64 k] from rfl]
 have hb01 := hb0.trans (hb1.mono (by omega))
 have hbA := (Below.refl w1.heap.size w1).alloc (Nat.le_refl _) (.cells #[.int .i64 0, .string ⟨#[]⟩, .string ⟨#[]⟩] 50)
 have hbl := hb01.trans (hbA.mono hb01.size)
 have hrA := (hr0.below hb1).below hbA
 have hnA := (hn0.below hb1).below hbA
 go_upto_region 3 with fail
 obtain ⟨wA, hwA⟩ : ∃ W, W = w1.alloc (.cells #[.int .i64 0, .string ⟨#[]⟩, .string ⟨#[]⟩] 50) := ⟨_, rfl⟩
 rw [← hwA] at hbl hrA hnA ⊢
 clear hwA hbA
 obtain ⟨r0, r1, r2, f0, f1, f2⟩ := (hrA).facts
 obtain ⟨n0, n1, n2, -, -, -⟩ := (hnA).facts
 go_wp2_with fail
 obtain ⟨q0, q1, q2⟩ := (hrA).store (.int .i64 0) (.string ⟨#[]⟩) (.string ⟨#[]⟩)
 have hbz := (((hbl).setCell (p := ⟨w.heap.size, 0, none⟩) (Nat.le_refl _) (.int .i64 0)).setCell (p := ⟨w.heap.size, 1, none⟩) (Nat.le_refl _) (.string ⟨#[]⟩)).setCell (p := ⟨w.heap.size, 2, none⟩) (Nat.le_refl _) (.string ⟨#[]⟩)
 obtain ⟨W3, hW3⟩ : ∃ W3, W3 = ((wA.setCell ⟨w.heap.size, 0, none⟩ (.int .i64 0)).setCell ⟨w.heap.size, 1, none⟩ (.string ⟨#[]⟩)).setCell ⟨w.heap.size, 2, none⟩ (.string ⟨#[]⟩) := ⟨_, rfl⟩
 rw [← hW3] at q0 q1 q2 hbz ⊢
 exact bodyPost_ret (v := .tuple #[.agg #[(.int .i64 0), (.string ⟨#[]⟩), (.string ⟨#[]⟩)], .int .i64 k]) (by simp [results, Tryd.results13, go_sem, q0, q1, q2]) rfl ⟨by rw [HO.out]; rfl, hbz⟩
set_option maxRecDepth 100000 in
set_option maxHeartbeats 16000000 in
theorem KDecode_list (s : ByteArray) (hs : s.size ≤ 1000000000) (w : World) (htb : Tb w) (c raw : List UInt8) (hk : oneF s.data.toList = .ok (48, c, raw)) (o : Except Int Key) (ho : o = decKG (listF c)) :
    Calls Tryd.prog 13 #[.string s] w fun e w' => e = .returned (decKR o) ∧ Below w.heap.size w w' := by
  have hcf0 : ∀ (x y : Value) (W : World), (callFunc 28 #[x, y]).run Tryd.prog W = .ok (.enter 28 #[x, y]) W := fun x y W => by kernel_rfl
  have hcf1 : ∀ (x y : Value) (W : World), (callFunc 29 #[x, y]).run Tryd.prog W = .ok (.enter 29 #[x, y]) W := fun x y W => by kernel_rfl
  have HTB := hide htb
  obtain ⟨W0, hW0, hb0, hr0, hn0, hz0⟩ := two_keys w
  have HK := hide hk
  have hcl : c.length ≤ 131072 := (one_is_wrap hk).2.2.1
  obtain ⟨x1, hx1⟩ : ∃ x : ByteArray, x = ⟨c.toArray⟩ := ⟨_, rfl⟩
  obtain ⟨x2, hx2⟩ : ∃ x : ByteArray, x = ⟨raw.toArray⟩ := ⟨_, rfl⟩
  have hx1d : c = x1.data.toList := by rw [hx1]
  have HV := hide (show oneR (.ok (48, c, raw)) = .tuple #[.agg #[.int .i64 48, .string x1, .string x2], .int .i64 0] by rw [oneR, eltV, hx1, hx2]; rfl)
  obtain ⟨oo, hoo⟩ : ∃ oo, listF x1.data.toList = oo := ⟨_, rfl⟩
  have HO := hide (show o = decKG oo by rw [ho, hx1d, hoo])
  have HOO := hide hoo
  rw [hx1d, size_string] at hcl
  clear hk ho hx1 hx2 hx1d hoo htb
  go_enter Tryd.func13, Tryd.ntmps13
  go_upto_region 2 with fail
  rw [← hW0]
  clear hW0
  have hz01 : w.heap.size + 2 ≤ W0.heap.size := by omega
  clear hz0
  go_wp2_with fail
  refine (One_any s hs _).mono ?_
  rintro e w1 ⟨rfl, hb1⟩
  rw [HK.out, HV.out]
  have hb01 := hb0.trans (hb1.mono (by omega))
  have hz1 := hb1.size
  have hbA := (Below.refl w1.heap.size w1).alloc (Nat.le_refl _) (.cells #[.int .i64 48, .string x1, .string x2] 50)
  have hbl := hb01.trans (hbA.mono hb01.size)
  have hrA := (hr0.below hb1).below hbA
  have hnA := (hn0.below hb1).below hbA
  go_upto_region 3 with fail
  obtain ⟨wA, hwA⟩ : ∃ W, W = w1.alloc (.cells #[.int .i64 48, .string x1, .string x2] 50) := ⟨_, rfl⟩
  have m0 : wA.cell? ⟨w1.heap.size, 0, none⟩ = some (.int .i64 48) := by rw [hwA, World.cell?_alloc_new]; rfl
  have m1 : wA.cell? ⟨w1.heap.size, 1, none⟩ = some (.string x1) := by rw [hwA, World.cell?_alloc_new]; rfl
  have hzA : w.heap.size + 2 ≤ wA.heap.size := by rw [hwA]; simp; omega
  rw [← hwA] at hbl hrA hnA ⊢
  clear hwA hbA hb0 hr0 hn0 hb1 hb01
  go_wp2_with fail
  refine (List_any x1 (by omega) _).mono ?_
  rintro e w2 ⟨hb2, hres⟩
  rw [HOO.out] at hres
  have hbl2 := hbl.trans (hb2.mono hbl.size)
  have hr2 := hrA.below hb2
  have hn2 := hnA.below hb2
  have hz2 := hb2.size
  clear m0 m1 hrA hnA hbl
  cases oo with
  | error k =>
    obtain rfl : e = _ := hres
    have hk : k ≠ 0 := fun h => list_err0 _ _ (Nat.le_refl _) (h ▸ HOO.out)
    have ht2 : (k != 0) = true := by simpa using hk
    have HN := hide (show o = .error k from HO.out)
    clear hk
    obtain ⟨r0, r1, r2, f0, f1, f2⟩ := (hr2).facts
    obtain ⟨n0, n1, n2, -, -, -⟩ := (hn2).facts
    go_wp2_with fail
    obtain ⟨q0, q1, q2⟩ := (hr2).store (.int .i64 0) (.string ⟨#[]⟩) (.string ⟨#[]⟩)
    have hbz := (((hbl2).setCell (p := ⟨w.heap.size, 0, none⟩) (Nat.le_refl _) (.int .i64 0)).setCell (p := ⟨w.heap.size, 1, none⟩) (Nat.le_refl _) (.string ⟨#[]⟩)).setCell (p := ⟨w.heap.size, 2, none⟩) (Nat.le_refl _) (.string ⟨#[]⟩)
    obtain ⟨W3, hW3⟩ : ∃ W3, W3 = ((w2.setCell ⟨w.heap.size, 0, none⟩ (.int .i64 0)).setCell ⟨w.heap.size, 1, none⟩ (.string ⟨#[]⟩)).setCell ⟨w.heap.size, 2, none⟩ (.string ⟨#[]⟩) := ⟨_, rfl⟩
    rw [← hW3] at q0 q1 q2 hbz ⊢
    exact bodyPost_ret (v := .tuple #[.agg #[(.int .i64 0), (.string ⟨#[]⟩), (.string ⟨#[]⟩)], .int .i64 k]) (by simp [results, Tryd.results13, go_sem, q0, q1, q2]) rfl ⟨by rw [HN.out]; rfl, hbz⟩
  | ok L =>
    obtain ⟨A, cp, rfl, hsl⟩ := hres
    have HML := hide (show ∀ e ∈ L, e.2.1.length ≤ 131072 from fun e he => (list_is_wrap _ _ _ (Nat.le_refl _) HOO.out e he).2.2.1)
    have HX := hide (show o = decKl L from HO.out)
    obtain ⟨gR, hgR⟩ : ∃ g, w2.heap.size = g := ⟨_, rfl⟩
    obtain ⟨wB, hwB⟩ : ∃ W, W = w2.alloc (.cells #[.int .i64 0, .string ⟨#[]⟩, .string ⟨#[]⟩] 57) := ⟨_, rfl⟩
    obtain ⟨wC, hwC⟩ : ∃ W, W = wB.alloc (.cells #[.func (.func 28) #[] #[], .func (.func 29) #[] #[]] 58) := ⟨_, rfl⟩
    have hzB : wB.heap.size = gR + 1 := by rw [hwB]; simp [hgR]
    have hzC : wC.heap.size = gR + 2 := by rw [hwC]; simp [hzB]
    have hbB : Below w2.heap.size w2 wB := by rw [hwB]; exact (Below.refl _ _).alloc (Nat.le_refl _) _
    have hbC : Below wB.heap.size wB wC := by rw [hwC]; exact (Below.refl _ _).alloc (Nat.le_refl _) _
    have hbBC := hbB.trans (hbC.mono hbB.size)
    have hRK : RK gR 0 ⟨#[]⟩ ⟨#[]⟩ wC := by
      refine RK.below (W := wB) ?_ hbC
      rw [hwB, ← hgR]
      exact heap_alloc_new w2 _
    have hst : KDSt w gR (gR + 1) wC := ⟨hbl2.trans (hbBC.mono hbl2.size), hr2.below hbBC, hn2.below hbBC, by rw [hwC, ← hzB, World.cell?_alloc_new]; rfl, by rw [hwC, ← hzB, World.cell?_alloc_new]; rfl, by omega, by omega, by omega⟩
    have hslC : Sl RElt 3 wC (Lt gR) L [.slice A L.length cp] := (Sl.ok RElt.ok).mono hsl (fun j hj => hbBC.block j hj.2) (fun j hj => by rw [← hgR]; exact hj.2)
    have HST0 := hide hst
    have HSL0 := hide hslC
    have HRK0 := hide hRK
    have hgR1 : w2.heap.size + 1 = gR + 1 := by omega
    clear hbB hbC hbBC hRK hst hslC hb2 hbl2 hr2 hn2 hz2 hsl
    go_wp2_with fail
    rw [← hwB, ← hwC]
    clear hwB hwC hgR1
    have hgRC : gR ≤ wC.heap.size := by omega
    clear hzB hzC hgR hzA
    go_loopw [7, 37] (fun x i wr => ∃ (j : Nat) (l : List Elt) (A : Option Addr) (cp : Nat), j ≤ 2 ∧ x = .slice A l.length cp ∧ i = .int .i64 j ∧ KDSt w gR (gR + 1) wr ∧ Sl RElt 3 wr (Lt gR) l [.slice A l.length cp] ∧ (∀ e ∈ l, e.2.1.length ≤ 131072) ∧ KT gR wr o l j) (fun _ i _ => 2 - (intOf i).toNat)
    case atStart => exact ⟨0, L, A, cp, by omega, rfl, rfl, HST0.out, HSL0.out, HML.out, HX.out, 0, _, _, HRK0.out⟩
    case round =>
      obtain ⟨j, l, A, cp, hj, rfl, rfl, hst, hsl, hle, hkt⟩ := hrel
      have HST := hide hst
      have HSL := hide hsl
      have HLE := hide hle
      have hgr : gR ≤ wr.heap.size := by have := hst.hS; omega
      have hb00 := hst.below
      have HBR := hide hb00
      have m0 := hst.f0
      have m1 := hst.f1
      clear hst hsl hle hb00
      match j, hj, hkt with
      | 0, _, hkt =>
        obtain ⟨hx, hr0, ir0, rr0, hrk⟩ := hkt
        have HX := hide hx
        have HRK := hide hrk
        clear hx hrk
        cases l with
        | nil =>
          have HN := hide (show o = .error 3 from HX.out)
          obtain ⟨r0, r1, r2, f0, f1, f2⟩ := (HST.out.r).facts
          obtain ⟨n0, n1, n2, -, -, -⟩ := (HST.out.n).facts
          go_wp2_with fail
          obtain ⟨q0, q1, q2⟩ := (HST.out.r).store (.int .i64 0) (.string ⟨#[]⟩) (.string ⟨#[]⟩)
          have hbz := (((HST.out.below).setCell (p := ⟨w.heap.size, 0, none⟩) (Nat.le_refl _) (.int .i64 0)).setCell (p := ⟨w.heap.size, 1, none⟩) (Nat.le_refl _) (.string ⟨#[]⟩)).setCell (p := ⟨w.heap.size, 2, none⟩) (Nat.le_refl _) (.string ⟨#[]⟩)
          obtain ⟨W3, hW3⟩ : ∃ W3, W3 = ((wr.setCell ⟨w.heap.size, 0, none⟩ (.int .i64 0)).setCell ⟨w.heap.size, 1, none⟩ (.string ⟨#[]⟩)).setCell ⟨w.heap.size, 2, none⟩ (.string ⟨#[]⟩) := ⟨_, rfl⟩
          rw [← hW3] at q0 q1 q2 hbz ⊢
          exact bodyPost_ret (v := .tuple #[.agg #[(.int .i64 0), (.string ⟨#[]⟩), (.string ⟨#[]⟩)], .int .i64 3]) (by simp [results, Tryd.results13, go_sem, q0, q1, q2]) rfl ⟨by rw [HN.out]; rfl, hbz⟩
        | cons a r =>
          obtain ⟨at_, ac, ar⟩ := a
          obtain ⟨A1, c1, hsl1, hlr⟩ := tail_elt HSL.out
          obtain ⟨bb, oo, hAA, hSS, e0, e1, e2⟩ := HSL.out.eltAt (i := 0) (by simp)
          have hacl := HLE.out (at_, ac, ar) (by simp)
          subst hAA
          simp only [List.getElem_cons_zero, Nat.zero_mul, Nat.add_zero] at e0 e1 e2 hacl
          obtain ⟨xa, hxa⟩ : ∃ x : ByteArray, x = ⟨ac.toArray⟩ := ⟨_, rfl⟩
          obtain ⟨xb, hxb⟩ : ∃ x : ByteArray, x = ⟨ar.toArray⟩ := ⟨_, rfl⟩
          have had : ac = xa.data.toList := by rw [hxa]
          rw [← hxa] at e1
          rw [← hxb] at e2
          rw [had, size_string] at hacl
          have HX1 := hide (show o = if chkAlg (at_ : Int) xa.data.toList ≠ 0 then .error (chkAlg (at_ : Int) xa.data.toList) else keyT r by rw [HX.out, decKl]; simp only; rw [had])
          have hlen : ((at_, ac, ar) :: r).length = r.length + 1 := rfl
          have hne0 : ((((at_, ac, ar) :: r).length : Int) == 0) = false := beq_false_of_ne (by omega)
          obtain ⟨nn, hnn⟩ : ∃ nn, ((at_, ac, ar) :: r).length = nn := ⟨_, rfl⟩
          have HLE2 := hide (show ∀ e ∈ r, e.2.1.length ≤ 131072 from fun e he => HLE.out e (by simp [he]))
          rw [hnn] at hsl1 hne0 hlen ⊢
          have hnn1 : (0 : Int) < (nn : Int) := by omega
          have hnn2 : 0 < nn := by omega
          have HLR := hide hlr
          clear hxa hxb hnn hlen had hlr
          go_wp2_with fail
          refine (ralg_any ⟨gR, 0, none⟩ (at_ : Int) xa xb (by omega) _ (HTB.out.below HBR.out)).mono ?_
          rintro e w5 ⟨rfl, hb5⟩
          have HST5 := hide (HST.out.grow hb5)
          have HRK5 := hide (HRK.out.below hb5)
          have HLR5 := hide (sl_exR HLR.out hgr (Ex.of_below hb5))
          obtain ⟨kq, hkq⟩ : ∃ kq, chkAlg (at_ : Int) xa.data.toList = kq := ⟨_, rfl⟩
          have HX3 := hide (show o = if kq ≠ 0 then .error kq else keyT r by rw [HX1.out, hkq])
          rw [hkq]
          clear hkq hb5 e0 e1 e2 m0 m1
          by_cases hk0 : kq = 0
          · subst hk0
            have HX4 := hide (show o = keyT r from HX3.out)
            go_wp2_with (with_reducible refine wpList_slice1 rfl 53 (.tmp 54) (.const (.int .i64 1)) rfl (.slice (some ⟨bb, oo, none⟩) nn cp) (.slice A1 r.length c1) (.int .i64 1) rfl rfl elem_elt hsl1 ?_)
            go_roundw
            case rel => exact ⟨1, r, A1, c1, by omega, rfl, rfl, HST5.out, HLR5.out, HLE2.out, HX4.out, _, _, _, HRK5.out⟩
            case measure => simp [intOf]
          · have ht2 : (kq != 0) = true := by simpa using hk0
            have HN := hide (show o = .error kq by rw [HX3.out, if_pos hk0])
            clear hk0
            obtain ⟨r0, r1, r2, f0, f1, f2⟩ := (HST5.out.r).facts
            obtain ⟨n0, n1, n2, -, -, -⟩ := (HST5.out.n).facts
            go_wp2_with fail
            obtain ⟨q0, q1, q2⟩ := (HST5.out.r).store (.int .i64 0) (.string ⟨#[]⟩) (.string ⟨#[]⟩)
            have hbz := (((HST5.out.below).setCell (p := ⟨w.heap.size, 0, none⟩) (Nat.le_refl _) (.int .i64 0)).setCell (p := ⟨w.heap.size, 1, none⟩) (Nat.le_refl _) (.string ⟨#[]⟩)).setCell (p := ⟨w.heap.size, 2, none⟩) (Nat.le_refl _) (.string ⟨#[]⟩)
            obtain ⟨W3, hW3⟩ : ∃ W3, W3 = ((w5.setCell ⟨w.heap.size, 0, none⟩ (.int .i64 0)).setCell ⟨w.heap.size, 1, none⟩ (.string ⟨#[]⟩)).setCell ⟨w.heap.size, 2, none⟩ (.string ⟨#[]⟩) := ⟨_, rfl⟩
            rw [← hW3] at q0 q1 q2 hbz ⊢
            exact bodyPost_ret (v := .tuple #[.agg #[(.int .i64 0), (.string ⟨#[]⟩), (.string ⟨#[]⟩)], .int .i64 kq]) (by simp [results, Tryd.results13, go_sem, q0, q1, q2]) rfl ⟨by rw [HN.out]; rfl, hbz⟩
      | 1, _, hkt =>
        obtain ⟨hx, hr0, ir0, rr0, hrk⟩ := hkt
        have HX := hide hx
        have HRK := hide hrk
        clear hx hrk
        cases l with
        | nil =>
          have HN := hide (show o = .error 3 from HX.out)
          obtain ⟨r0, r1, r2, f0, f1, f2⟩ := (HST.out.r).facts
          obtain ⟨n0, n1, n2, -, -, -⟩ := (HST.out.n).facts
          go_wp2_with fail
          obtain ⟨q0, q1, q2⟩ := (HST.out.r).store (.int .i64 0) (.string ⟨#[]⟩) (.string ⟨#[]⟩)
          have hbz := (((HST.out.below).setCell (p := ⟨w.heap.size, 0, none⟩) (Nat.le_refl _) (.int .i64 0)).setCell (p := ⟨w.heap.size, 1, none⟩) (Nat.le_refl _) (.string ⟨#[]⟩)).setCell (p := ⟨w.heap.size, 2, none⟩) (Nat.le_refl _) (.string ⟨#[]⟩)
          obtain ⟨W3, hW3⟩ : ∃ W3, W3 = ((wr.setCell ⟨w.heap.size, 0, none⟩ (.int .i64 0)).setCell ⟨w.heap.size, 1, none⟩ (.string ⟨#[]⟩)).setCell ⟨w.heap.size, 2, none⟩ (.string ⟨#[]⟩) := ⟨_, rfl⟩
          rw [← hW3] at q0 q1 q2 hbz ⊢
          exact bodyPost_ret (v := .tuple #[.agg #[(.int .i64 0), (.string ⟨#[]⟩), (.string ⟨#[]⟩)], .int .i64 3]) (by simp [results, Tryd.results13, go_sem, q0, q1, q2]) rfl ⟨by rw [HN.out]; rfl, hbz⟩
        | cons a r =>
          obtain ⟨at_, ac, ar⟩ := a
          obtain ⟨A1, c1, hsl1, hlr⟩ := tail_elt HSL.out
          obtain ⟨bb, oo, hAA, hSS, e0, e1, e2⟩ := HSL.out.eltAt (i := 0) (by simp)
          have hacl := HLE.out (at_, ac, ar) (by simp)
          subst hAA
          simp only [List.getElem_cons_zero, Nat.zero_mul, Nat.add_zero] at e0 e1 e2 hacl
          obtain ⟨xa, hxa⟩ : ∃ x : ByteArray, x = ⟨ac.toArray⟩ := ⟨_, rfl⟩
          obtain ⟨xb, hxb⟩ : ∃ x : ByteArray, x = ⟨ar.toArray⟩ := ⟨_, rfl⟩
          have had : ac = xa.data.toList := by rw [hxa]
          rw [← hxa] at e1
          rw [← hxb] at e2
          rw [had, size_string] at hacl
          have HX1 := hide (show o = bitE r (bitF (at_ : Int) xa.data.toList) by rw [HX.out, keyT_cons]; simp only; rw [had])
          have hlen : ((at_, ac, ar) :: r).length = r.length + 1 := rfl
          have hne0 : ((((at_, ac, ar) :: r).length : Int) == 0) = false := beq_false_of_ne (by omega)
          obtain ⟨nn, hnn⟩ : ∃ nn, ((at_, ac, ar) :: r).length = nn := ⟨_, rfl⟩
          have HLE2 := hide (show ∀ e ∈ r, e.2.1.length ≤ 131072 from fun e he => HLE.out e (by simp [he]))
          rw [hnn] at hsl1 hne0 hlen ⊢
          have hnn1 : (0 : Int) < (nn : Int) := by omega
          have hnn2 : 0 < nn := by omega
          have HLR := hide hlr
          clear hxa hxb hnn hlen had hlr
          go_wp2_with fail
          refine (rbits_any gR (at_ : Int) xa xb (by omega) hr0 ir0 rr0 _ HRK.out).mono ?_
          rintro e w5 ⟨hx5, hr5, hres⟩
          have HST5 := hide (HST.out.ex hx5)
          have HLR5 := hide (sl_exR HLR.out hgr hx5)
          obtain ⟨ob, hob⟩ : ∃ ob, bitF (at_ : Int) xa.data.toList = ob := ⟨_, rfl⟩
          have HX3 := hide (show o = bitE r ob by rw [HX1.out, hob])
          have HOB := hide hob
          rw [hob] at hres
          clear hob hx5 e0 e1 e2 m0 m1
          cases ob with
          | error k =>
            obtain rfl : e = _ := hres
            have hk0 : k ≠ 0 := fun h => bitF_err0 (h ▸ HOB.out)
            have ht2 : (k != 0) = true := by simpa using hk0
            have HN := hide (show o = .error k from HX3.out)
            clear hk0
            obtain ⟨r0, r1, r2, f0, f1, f2⟩ := (HST5.out.r).facts
            obtain ⟨n0, n1, n2, -, -, -⟩ := (HST5.out.n).facts
            go_wp2_with fail
            obtain ⟨q0, q1, q2⟩ := (HST5.out.r).store (.int .i64 0) (.string ⟨#[]⟩) (.string ⟨#[]⟩)
            have hbz := (((HST5.out.below).setCell (p := ⟨w.heap.size, 0, none⟩) (Nat.le_refl _) (.int .i64 0)).setCell (p := ⟨w.heap.size, 1, none⟩) (Nat.le_refl _) (.string ⟨#[]⟩)).setCell (p := ⟨w.heap.size, 2, none⟩) (Nat.le_refl _) (.string ⟨#[]⟩)
            obtain ⟨W3, hW3⟩ : ∃ W3, W3 = ((w5.setCell ⟨w.heap.size, 0, none⟩ (.int .i64 0)).setCell ⟨w.heap.size, 1, none⟩ (.string ⟨#[]⟩)).setCell ⟨w.heap.size, 2, none⟩ (.string ⟨#[]⟩) := ⟨_, rfl⟩
            rw [← hW3] at q0 q1 q2 hbz ⊢
            exact bodyPost_ret (v := .tuple #[.agg #[(.int .i64 0), (.string ⟨#[]⟩), (.string ⟨#[]⟩)], .int .i64 k]) (by simp [results, Tryd.results13, go_sem, q0, q1, q2]) rfl ⟨by rw [HN.out]; rfl, hbz⟩
          | ok ky =>
            obtain ⟨rfl, hrk⟩ := hres
            have HRK5 := hide hrk
            clear hrk
            go_wp2_with (with_reducible refine wpList_slice1 rfl 53 (.tmp 54) (.const (.int .i64 1)) rfl (.slice (some ⟨bb, oo, none⟩) nn cp) (.slice A1 r.length c1) (.int .i64 1) rfl rfl elem_elt hsl1 ?_)
            go_roundw
            case rel => exact ⟨2, r, A1, c1, by omega, rfl, rfl, HST5.out, HLR5.out, HLE2.out, _, _, _, HX3.out, HRK5.out⟩
            case measure => simp [intOf]
      | 2, _, hkt =>
        obtain ⟨hh2, ii2, rr2, hx, hrk⟩ := hkt
        have HX := hide hx
        clear hx m0 m1
        obtain ⟨c0, c1, c2, -, -, -⟩ := hrk.facts
        clear hrk
        by_cases hl : l = []
        · have hll : l.length = 0 := by rw [hl]; rfl
          have HN := hide (show o = .ok (hh2, ii2.data.toList, rr2.data.toList) by rw [HX.out, bitE, if_neg (by simpa using hl)])
          rw [hll]
          clear hl hll
          obtain ⟨r0, r1, r2, f0, f1, f2⟩ := HST.out.r.facts
          go_wp2_with fail
          obtain ⟨q0, q1, q2⟩ := (HST.out.r).store (.int .i64 hh2) (.string ii2) (.string rr2)
          have hbz := (((HST.out.below).setCell (p := ⟨w.heap.size, 0, none⟩) (Nat.le_refl _) (.int .i64 hh2)).setCell (p := ⟨w.heap.size, 1, none⟩) (Nat.le_refl _) (.string ii2)).setCell (p := ⟨w.heap.size, 2, none⟩) (Nat.le_refl _) (.string rr2)
          obtain ⟨W3, hW3⟩ : ∃ W3, W3 = ((wr.setCell ⟨w.heap.size, 0, none⟩ (.int .i64 hh2)).setCell ⟨w.heap.size, 1, none⟩ (.string ii2)).setCell ⟨w.heap.size, 2, none⟩ (.string rr2) := ⟨_, rfl⟩
          rw [← hW3] at q0 q1 q2 hbz ⊢
          exact bodyPost_ret (v := .tuple #[.agg #[(.int .i64 hh2), (.string ii2), (.string rr2)], .int .i64 0]) (by simp [results, Tryd.results13, go_sem, q0, q1, q2]) rfl ⟨by rw [HN.out]; rfl, hbz⟩
        · have hll : (0 : Int) < (l.length : Int) := by have := List.length_pos_iff.2 hl; omega
          have HN := hide (show o = .error 4 by rw [HX.out, bitE, if_pos hl])
          clear hl c0 c1 c2
          obtain ⟨r0, r1, r2, f0, f1, f2⟩ := (HST.out.r).facts
          obtain ⟨n0, n1, n2, -, -, -⟩ := (HST.out.n).facts
          go_wp2_with fail
          obtain ⟨q0, q1, q2⟩ := (HST.out.r).store (.int .i64 0) (.string ⟨#[]⟩) (.string ⟨#[]⟩)
          have hbz := (((HST.out.below).setCell (p := ⟨w.heap.size, 0, none⟩) (Nat.le_refl _) (.int .i64 0)).setCell (p := ⟨w.heap.size, 1, none⟩) (Nat.le_refl _) (.string ⟨#[]⟩)).setCell (p := ⟨w.heap.size, 2, none⟩) (Nat.le_refl _) (.string ⟨#[]⟩)
          obtain ⟨W3, hW3⟩ : ∃ W3, W3 = ((wr.setCell ⟨w.heap.size, 0, none⟩ (.int .i64 0)).setCell ⟨w.heap.size, 1, none⟩ (.string ⟨#[]⟩)).setCell ⟨w.heap.size, 2, none⟩ (.string ⟨#[]⟩) := ⟨_, rfl⟩
          rw [← hW3] at q0 q1 q2 hbz ⊢
          exact bodyPost_ret (v := .tuple #[.agg #[(.int .i64 0), (.string ⟨#[]⟩), (.string ⟨#[]⟩)], .int .i64 4]) (by simp [results, Tryd.results13, go_sem, q0, q1, q2]) rfl ⟨by rw [HN.out]; rfl, hbz⟩
set_option maxRecDepth 100000 in
set_option maxHeartbeats 16000000 in
theorem KDecode_tag (s : ByteArray) (hs : s.size ≤ 1000000000) (w : World) (t : Nat) (ht48 : t ≠ 48) (c raw : List UInt8) (hk : oneF s.data.toList = .ok (t, c, raw)) (o : Except Int Key) (ho : o = .error 5) :
  Calls Tryd.prog 13 #[.string s] w fun e w' => e = .returned (decKR o) ∧ Below w.heap.size w w' := by
 obtain ⟨W0, hW0, hb0, hr0, hn0, hz0⟩ := two_keys w
 have HK := hide hk
 have HO := hide ho
 obtain ⟨x1, hx1⟩ : ∃ x : ByteArray, x = ⟨c.toArray⟩ := ⟨_, rfl⟩
 obtain ⟨x2, hx2⟩ : ∃ x : ByteArray, x = ⟨raw.toArray⟩ := ⟨_, rfl⟩
 have HV := hide (show oneR (.ok (t, c, raw)) = .tuple #[.agg #[.int .i64 (t : Int), .string x1, .string x2], .int .i64 0] by rw [oneR, eltV, hx1, hx2])
 have ht2 : ((t : Int) != 48) = true := bne_iff_ne.2 (fun e => ht48 (Int.ofNat.inj e))
 clear hk ho hx1 hx2 ht48
 go_enter Tryd.func13, Tryd.ntmps13
 go_upto_region 2 with fail
 rw [← hW0]
 clear hW0
 have hz01 : w.heap.size + 2 ≤ W0.heap.size := by omega
 clear hz0
 go_wp2_with fail
 refine (One_any s hs _).mono ?_
 rintro e w1 ⟨rfl, hb1⟩
 rw [HK.out, HV.out]
 have hb01 := hb0.trans (hb1.mono (by omega))
 have hbA := (Below.refl w1.heap.size w1).alloc (Nat.le_refl _) (.cells #[.int .i64 (t : Int), .string x1, .string x2] 50)
 have hbl := hb01.trans (hbA.mono hb01.size)
 have hrA := (hr0.below hb1).below hbA
 have hnA := (hn0.below hb1).below hbA
 go_upto_region 3 with fail
 obtain ⟨wA, hwA⟩ : ∃ W, W = w1.alloc (.cells #[.int .i64 (t : Int), .string x1, .string x2] 50) := ⟨_, rfl⟩
 have m0 : wA.cell? ⟨w1.heap.size, 0, none⟩ = some (.int .i64 (t : Int)) := by rw [hwA, World.cell?_alloc_new]; rfl
 rw [← hwA] at hbl hrA hnA ⊢
 clear hwA hbA
 obtain ⟨r0, r1, r2, f0, f1, f2⟩ := (hrA).facts
 obtain ⟨n0, n1, n2, -, -, -⟩ := (hnA).facts
 go_wp2_with fail
 obtain ⟨q0, q1, q2⟩ := (hrA).store (.int .i64 0) (.string ⟨#[]⟩) (.string ⟨#[]⟩)
 have hbz := (((hbl).setCell (p := ⟨w.heap.size, 0, none⟩) (Nat.le_refl _) (.int .i64 0)).setCell (p := ⟨w.heap.size, 1, none⟩) (Nat.le_refl _) (.string ⟨#[]⟩)).setCell (p := ⟨w.heap.size, 2, none⟩) (Nat.le_refl _) (.string ⟨#[]⟩)
 obtain ⟨W3, hW3⟩ : ∃ W3, W3 = ((wA.setCell ⟨w.heap.size, 0, none⟩ (.int .i64 0)).setCell ⟨w.heap.size, 1, none⟩ (.string ⟨#[]⟩)).setCell ⟨w.heap.size, 2, none⟩ (.string ⟨#[]⟩) := ⟨_, rfl⟩
 rw [← hW3] at q0 q1 q2 hbz ⊢
 exact bodyPost_ret (v := .tuple #[.agg #[(.int .i64 0), (.string ⟨#[]⟩), (.string ⟨#[]⟩)], .int .i64 5]) (by simp [results, Tryd.results13, go_sem, q0, q1, q2]) rfl ⟨by rw [HO.out]; rfl, hbz⟩
theorem KDecode_any (s : ByteArray) (hs : s.size ≤ 1000000000) (w : World) (htb : Tb w) :
    Calls Tryd.prog 13 #[.string s] w fun e w' => e = .returned (decKR (decK s.data.toList)) ∧ Below w.heap.size w w' := by
  rw [decK_one]
  cases hk : oneF s.data.toList with
  | error k => exact KDecode_start s hs w k hk _ rfl
  | ok e =>
    obtain ⟨t, c, raw⟩ := e
    by_cases h48 : t = 48
    · subst h48
      exact KDecode_list s hs w htb c raw hk _ (by show (if (48 : Nat) ≠ 48 then Except.error 5 else decKG (listF c)) = _; rw [if_neg (by simp)])
    · exact KDecode_tag s hs w t h48 c raw hk _ (by show (if t ≠ 48 then Except.error 5 else decKG (listF c)) = _; rw [if_pos h48])
end Go.Proofs.YtmgnihmjjijdoaaDoor
