/- The reference's EncodeExtensions. -/
import Derived.Test.YtiikpdjjhnhiiaaDoorExt2
import Derived.Test.YtiikpdjjhnhiiaaDoorExtF
namespace Go.Proofs.YtiikpdjjhnhiiaaDoor
open Go.RowKit

theorem rechk_v (l : List Ext) (r : Int) (hr : chkE l = r) (A : Option Addr) (c : Nat) (w : World) (h : Sl RExt 3 w (Lt w.heap.size) l [.slice A l.length c]) (hsm : SmallX l) :
    Calls Tryd.prog 35 #[.slice A l.length c] w fun e w' => e = .returned (.int .i64 r) ∧ Below w.heap.size w w' := hr ▸ rECheck_any l A c w h hsm
set_option maxHeartbeats 400000 in
theorem rputB_any (w : World) : Calls Tryd.prog 65 #[.bool true] w fun e w' => e = .returned (.string ⟨#[255]⟩) ∧ w = w' := by
  go_enter Tryd.func65, Tryd.ntmps65
  go_wp2_with fail
  go_ret
  exact ⟨rfl, rfl⟩
/-- Fit of one text, and of three, that have just been laid -/
theorem fit_one (t : Nat) (ht : t < 256) (ht31 : t % 32 ≠ 31) (x : ByteArray) (hx : x.size ≤ 100000000) (o : Option (List UInt8)) (ho : wrapO t x.data.toList = o) (w : World) :
    Calls Tryd.prog 66 #[.int .i64 (t : Int), .slice (some ⟨w.heap.size, 0, none⟩) 1 1] (w.alloc (.cells #[.string x] 9)) fun e w' => e = .returned (fitR o) ∧ Below w.heap.size w w' := by
  have hsl := sl_pu (f := strC) (size := 1) (fun _ => rfl) w #[.string x] 9 [x.data.toList] rfl (by simp [maxLen])
  have hf : [x.data.toList].flatten = x.data.toList := by simp
  refine (rFit_any t ht ht31 [x.data.toList] _ 1 (by rw [hf, size_string]; omega) _ hsl).mono ?_
  rintro e w' ⟨he, hb⟩
  exact ⟨by rw [he, hf, ho], ((Below.refl _ _).alloc (Nat.le_refl _) _).trans (hb.mono (by simp))⟩
theorem fit_three (t : Nat) (ht : t < 256) (ht31 : t % 32 ≠ 31) (x y z : ByteArray) (hx : x.size ≤ 100000000) (hy : y.size ≤ 100000000) (hz : z.size ≤ 100000000) (o : Option (List UInt8)) (ho : wrapO t (x.data.toList ++ (y.data.toList ++ z.data.toList)) = o) (w : World) :
    Calls Tryd.prog 66 #[.int .i64 (t : Int), .slice (some ⟨w.heap.size, 0, none⟩) 3 3] (w.alloc (.cells #[.string x, .string y, .string z] 9)) fun e w' => e = .returned (fitR o) ∧ Below w.heap.size w w' := by
  have hsl := sl_pu (f := strC) (size := 1) (fun _ => rfl) w #[.string x, .string y, .string z] 9 [x.data.toList, y.data.toList, z.data.toList] rfl (by simp [maxLen])
  have hf : [x.data.toList, y.data.toList, z.data.toList].flatten = x.data.toList ++ (y.data.toList ++ z.data.toList) := by simp
  refine (rFit_any t ht ht31 [x.data.toList, y.data.toList, z.data.toList] _ 3 (by rw [hf, List.length_append, List.length_append, size_string, size_string, size_string]; omega) _ hsl).mono ?_
  rintro e w' ⟨he, hb⟩
  exact ⟨by rw [he, hf, ho], ((Below.refl _ _).alloc (Nat.le_refl _) _).trans (hb.mono (by simp))⟩
theorem wrap7_one (t : Nat) (ht : t < 256) (x : ByteArray) (hx : x.size ≤ 1000000) (y : ByteArray) (hy : (⟨(wrapG t [x.data.toList]).1.toArray⟩ : ByteArray) = y) (w : World) :
    Calls Tryd.prog 42 #[.int .i64 (t : Int), .slice (some ⟨w.heap.size, 0, none⟩) 1 1] (w.alloc (.cells #[.string x] 9)) fun e w' => e = .returned (.string y) ∧ Below w.heap.size w w' := by
  have hsl := sl_pu (f := strC) (size := 1) (fun _ => rfl) w #[.string x] 9 [x.data.toList] rfl (by simp [maxLen])
  have hf : [x.data.toList].flatten = x.data.toList := by simp
  refine (rWrap7_any t ht [x.data.toList] _ 1 (by rw [hf, size_string]; omega) _ hsl).mono ?_
  rintro e w' ⟨he, hb⟩
  exact ⟨by rw [he, hy], ((Below.refl _ _).alloc (Nat.le_refl _) _).trans (hb.mono (by simp))⟩
theorem idW_len (s : List UInt8) : (idW s).length ≤ 1005 := by
  rw [idW, wrapW_len]
  have := encP_len s
  have := lenB_le ((encP s).getD []).length
  omega


set_option maxRecDepth 100000 in
set_option maxHeartbeats 8000000 in
theorem rEEncode_any (l : List Ext) (A : Option Addr) (c : Nat) (w : World) (h : Sl RExt 3 w (Lt w.heap.size) l [.slice A l.length c]) (hsm : SmallX l) :
    Calls Tryd.prog 28 #[.slice A l.length c] w fun e w' => e = .returned (wrapR (encE l)) ∧ Below w.heap.size w w' := by
  obtain ⟨-, hnc, hcm⟩ := h.len_
  unfold maxLen at hcm
  obtain ⟨r, hr⟩ : ∃ r, encE l = r := ⟨_, rfl⟩
  rw [hr]
  have K := hide h
  have HSM := hide hsm
  obtain ⟨q, hq⟩ : ∃ q, chkE l = q := ⟨_, rfl⟩
  have HQ := hide hq
  have HRR := hide hr
  clear h hsm hr hq
  go_enter Tryd.func28, Tryd.ntmps28
  go_wp2_with fail
  refine (rechk_v l q HQ.out A c _ K.out HSM.out).mono ?_
  rintro e w1 ⟨rfl, hb1⟩
  have HB1 := hide hb1
  clear hb1
  by_cases hq0 : q = 0
  · have ht : (q != 0) = false := by simp [hq0]
    have HR := hide (show r = encG (encXs l) by rw [← HRR.out, encE_ok (HQ.out.trans hq0)])
    have hl24 : l.length ≤ 24 := by
      have := HQ.out.trans hq0
      unfold chkE at this
      split at this
      · cases this
      · split at this
        · cases this
        · omega
    obtain ⟨E, hE⟩ : ∃ E : ByteArray, E = ⟨#[]⟩ := ⟨_, rfl⟩
    have hEs : E.size = 0 := by rw [hE]; rfl
    have H0 := hide (show encXs l = preX E.data.toList (encXs (l.drop 0)) by rw [preX, hE]; simp)
    clear hq0
    go_wp2_with fail
    clear ht
    go_loopw [5, 19] (fun v i wr => ∃ (k : Nat) (y : ByteArray), k ≤ l.length ∧ i = .int .i64 k ∧ v = .string y ∧ y.size ≤ k * 131077 ∧ Below w.heap.size w wr ∧ Hid (encXs l = preX y.data.toList (encXs (l.drop k)))) (fun _ i _ => l.length - (intOf i).toNat)
    case atStart => exact ⟨0, E, by omega, rfl, by rw [hE], by omega, HB1.out, H0⟩
    case round =>
      obtain ⟨k, y, hk, rfl, rfl, hyk, hb, H⟩ := hrel
      have HB := hide hb
      clear hb
      by_cases hlt : k < l.length
      · obtain ⟨b, off, hA, hbS, e0, e1, e2⟩ := K.out.extAt hlt
        subst hA
        obtain ⟨hs0, hs2⟩ := HSM.out l[k] (List.getElem_mem hlt)
        have HPS := hide (fun (ee : List UInt8) (h : encX l[k] = some ee) => H.out.trans (preX_at hlt h))
        have HPN := hide (fun (h : encX l[k] = none) => H.out.trans (preX_none hlt h))
        obtain ⟨⟨id, cr, va⟩, hel⟩ : ∃ e, l[k] = e := ⟨_, rfl⟩
        rw [hel] at e0 e1 e2 hs0 hs2 HPS HPN
        simp only at e0 e1 e2 hs0 hs2
        obtain ⟨x1, hx1⟩ : ∃ x : ByteArray, x = ⟨id.toArray⟩ := ⟨_, rfl⟩
        obtain ⟨x2, hx2⟩ : ∃ x : ByteArray, x = ⟨va.toArray⟩ := ⟨_, rfl⟩
        have hid : id = x1.data.toList := by rw [hx1]
        have hva : va = x2.data.toList := by rw [hx2]
        rw [← hx1] at e0
        rw [← hx2] at e2
        rw [hid] at hs0 HPS HPN
        rw [hva] at hs2 HPS HPN
        rw [size_string] at hs0 hs2
        have hbS' : b < w.heap.size := hbS
        have p0 := (HB.out.cell (p := ⟨b, off + k * 3, none⟩) hbS').trans e0
        have p1 := (HB.out.cell (p := ⟨b, off + k * 3 + 1, none⟩) hbS').trans e1
        have p2 := (HB.out.cell (p := ⟨b, off + k * 3 + 2, none⟩) hbS').trans e2
        obtain ⟨o, ho⟩ : ∃ o, encX (x1.data.toList, cr, x2.data.toList) = o := ⟨_, rfl⟩
        rw [ho] at HPS HPN
        have HO := hide ho
        clear e0 e1 e2 hx1 hx2 hel hid hva ho
        obtain ⟨wo, rfl⟩ : ∃ wo : World, wo = wr := ⟨_, rfl⟩
        go_upto_region 9 with fail
        obtain ⟨wB, hwB⟩ : ∃ W, W = wo.alloc (.cells #[.string x1, .bool cr, .string x2] 49) := ⟨_, rfl⟩
        have q0 : wB.cell? ⟨wo.heap.size, 0, none⟩ = some (.string x1) := by rw [hwB, World.cell?_alloc_new]; rfl
        have q1 : wB.cell? ⟨wo.heap.size, 1, none⟩ = some (.bool cr) := by rw [hwB, World.cell?_alloc_new]; rfl
        have q2 : wB.cell? ⟨wo.heap.size, 2, none⟩ = some (.string x2) := by rw [hwB, World.cell?_alloc_new]; rfl
        have hbB : Below wo.heap.size wo wB := by rw [hwB]; exact (Below.refl _ _).alloc (Nat.le_refl _) _
        have HBB := hide (HB.out.trans (hbB.mono HB.out.size))
        have hzq : wo.heap.size < wB.heap.size := by rw [hwB]; simp
        rw [← hwB]
        clear hwB p0 p1 p2 hbB
        obtain ⟨gx, hgx⟩ : ∃ g, wo.heap.size = g := ⟨_, rfl⟩
        rw [hgx] at q0 q1 q2 hzq ⊢
        clear hgx
        cases cr
        · have HEC := hide (show (⟨#[]⟩ : ByteArray).data.toList = critB false from rfl)
          have hE0 : (⟨#[]⟩ : ByteArray).size = 0 := rfl
          obtain ⟨o4, ho4⟩ : ∃ o, wrapO 4 x2.data.toList = o := ⟨_, rfl⟩
          have HO4 := hide ho4
          clear ho4
          go_wp2_with fail
          refine (fit_one 4 (by omega) (by omega) x2 (by omega) o4 HO4.out _).mono ?_
          rintro e w7 ⟨rfl, hb7⟩
          have s0 := (hb7.cell (p := ⟨gx, 0, none⟩) hzq).trans q0
          have HB7 := hide ((HBB.out).trans (hb7.mono (HBB.out).size))
          clear hb7
          cases o4 with
          | none =>
            have HN := hide (HPN.out (by rw [← HO.out, encX, HO4.out]; rfl))
            have HY := hide (show r = ([], 2) by rw [HR.out, HN.out]; rfl)
            rw [show fitR none = .tuple #[.string ⟨#[]⟩, .int .i64 2] from rfl]
            go_wp2_with fail
            go_ret2
            exact ⟨by rw [HY.out]; rfl, HB7.out⟩
          | some v =>
            have hvl := (wrapO_some HO4.out)
            have hvl2 : v.length ≤ 131077 := by rw [hvl.2, wrapW_len]; have := lenB_le x2.data.toList.length; have := hvl.1; omega
            obtain ⟨yv, hyv⟩ : ∃ y : ByteArray, y = ⟨v.toArray⟩ := ⟨_, rfl⟩
            have hyvs : yv.size ≤ 131077 := by rw [hyv, ba_mk]; exact hvl2
            have hvd : v = yv.data.toList := by rw [hyv]
            rw [show fitR (some v) = .tuple #[.string yv, .int .i64 0] by rw [fitR, hyv]]
            have HO5 := hide (show wrapO 48 ((idW x1.data.toList) ++ ((ByteArray.data (⟨#[]⟩ : ByteArray)).toList ++ yv.data.toList)) = o by
              rw [← HO.out, encX, HO4.out, Option.bind_some, bodyX, ← HEC.out, hvd])
            have hil := idW_len x1.data.toList
            obtain ⟨yi, hyi⟩ : ∃ y : ByteArray, y = ⟨(idW x1.data.toList).toArray⟩ := ⟨_, rfl⟩
            have hyis : yi.size ≤ 1005 := by rw [hyi, ba_mk]; exact hil
            have HO6 := hide (show wrapO 48 (yi.data.toList ++ ((ByteArray.data (⟨#[]⟩ : ByteArray)).toList ++ yv.data.toList)) = o by rw [hyi]; exact HO5.out)
            clear hvl hvl2 hyv hvd hil
            go_wp2_with fail
            refine (rOID_any x1 hs0 _).mono ?_
            rintro e w8 ⟨rfl, hb8⟩
            rw [← hyi]
            have HB8 := hide (HB7.out.trans (hb8.mono HB7.out.size))
            clear hb8 hyi s0
            go_wp2_with fail
            refine (fit_three 48 (by omega) (by omega) yi ((⟨#[]⟩ : ByteArray)) yv (by omega) (by omega) (by omega) o HO6.out _).mono ?_
            rintro e w9 ⟨rfl, hb9⟩
            have HB9 := hide (HB8.out.trans (hb9.mono HB8.out.size))
            clear hb9
            cases o with
            | none =>
              have HY := hide (show r = ([], 2) by rw [HR.out, HPN.out rfl]; rfl)
              rw [show fitR none = .tuple #[.string ⟨#[]⟩, .int .i64 2] from rfl]
              go_wp2_with fail
              go_ret2
              exact ⟨by rw [HY.out]; rfl, HB9.out⟩
            | some ee =>
              have HYP := HPS.out ee rfl
              have hel2 := encX_len HO.out
              obtain ⟨ye, hye⟩ : ∃ y : ByteArray, y = ⟨ee.toArray⟩ := ⟨_, rfl⟩
              have hyes : ye.size ≤ 131077 := by rw [hye, ba_mk]; exact hel2
              have hed : ee = ye.data.toList := by rw [hye]
              rw [show fitR (some ee) = .tuple #[.string ye, .int .i64 0] by rw [fitR, hye]]
              have hbs : ¬ 9223372036854775807 < y.size + ye.size := by omega
              have hzs := ba_size y ye
              have hzd := ba_append y ye
              obtain ⟨z, hz⟩ : ∃ yy9 : ByteArray, y ++ ye = yy9 := ⟨_, rfl⟩
              rw [hz] at hzs hzd
              have HYP2 := hide (show encXs l = preX z.data.toList (encXs (l.drop (k + 1))) by rw [hzd, ← hed]; exact HYP)
              clear hel2 hye hed hzd HYP
              go_wp2_with fail
              go_roundw
              case rel => exact ⟨k + 1, z, by omega, by go_num, rfl, by omega, HB9.out, HYP2⟩
              case measure => simp [intOf]; omega
        · have hwc : wrapG 1 [(⟨#[255]⟩ : ByteArray).data.toList] = (wrapW 1 [255], 0) := by decide +kernel
          obtain ⟨yc, hyc⟩ : ∃ y : ByteArray, (⟨(wrapG 1 [(⟨#[255]⟩ : ByteArray).data.toList]).1.toArray⟩ : ByteArray) = y := ⟨_, rfl⟩
          have hycs : yc.size ≤ 10 := by rw [← hyc, hwc]; decide
          have HEC := hide (show yc.data.toList = critB true by rw [← hyc, hwc]; rfl)
          have HYC := hide hyc
          clear hyc hwc
          go_wp2_with fail
          refine (rputB_any _).mono ?_
          rintro e w5 ⟨rfl, rfl⟩
          go_wp2_with fail
          refine (wrap7_one 1 (by omega) ⟨#[255]⟩ (by decide) yc HYC.out _).mono ?_
          rintro e w6 ⟨rfl, hb6⟩
          have t0 := (hb6.cell (p := ⟨gx, 0, none⟩) hzq).trans q0
          have t2 := (hb6.cell (p := ⟨gx, 2, none⟩) hzq).trans q2
          have hzq6 := Nat.lt_of_lt_of_le hzq hb6.size
          have HB6 := hide (HBB.out.trans (hb6.mono HBB.out.size))
          clear hb6 q0 q1 q2 hzq
          have q0 := t0
          have q2 := t2
          have hzq := hzq6
          clear t0 t2 hzq6
          obtain ⟨o4, ho4⟩ : ∃ o, wrapO 4 x2.data.toList = o := ⟨_, rfl⟩
          have HO4 := hide ho4
          clear ho4
          go_wp2_with fail
          refine (fit_one 4 (by omega) (by omega) x2 (by omega) o4 HO4.out _).mono ?_
          rintro e w7 ⟨rfl, hb7⟩
          have s0 := (hb7.cell (p := ⟨gx, 0, none⟩) hzq).trans q0
          have HB7 := hide ((HB6.out).trans (hb7.mono (HB6.out).size))
          clear hb7
          cases o4 with
          | none =>
            have HN := hide (HPN.out (by rw [← HO.out, encX, HO4.out]; rfl))
            have HY := hide (show r = ([], 2) by rw [HR.out, HN.out]; rfl)
            rw [show fitR none = .tuple #[.string ⟨#[]⟩, .int .i64 2] from rfl]
            go_wp2_with fail
            go_ret2
            exact ⟨by rw [HY.out]; rfl, HB7.out⟩
          | some v =>
            have hvl := (wrapO_some HO4.out)
            have hvl2 : v.length ≤ 131077 := by rw [hvl.2, wrapW_len]; have := lenB_le x2.data.toList.length; have := hvl.1; omega
            obtain ⟨yv, hyv⟩ : ∃ y : ByteArray, y = ⟨v.toArray⟩ := ⟨_, rfl⟩
            have hyvs : yv.size ≤ 131077 := by rw [hyv, ba_mk]; exact hvl2
            have hvd : v = yv.data.toList := by rw [hyv]
            rw [show fitR (some v) = .tuple #[.string yv, .int .i64 0] by rw [fitR, hyv]]
            have HO5 := hide (show wrapO 48 ((idW x1.data.toList) ++ ((ByteArray.data yc).toList ++ yv.data.toList)) = o by
              rw [← HO.out, encX, HO4.out, Option.bind_some, bodyX, ← HEC.out, hvd])
            have hil := idW_len x1.data.toList
            obtain ⟨yi, hyi⟩ : ∃ y : ByteArray, y = ⟨(idW x1.data.toList).toArray⟩ := ⟨_, rfl⟩
            have hyis : yi.size ≤ 1005 := by rw [hyi, ba_mk]; exact hil
            have HO6 := hide (show wrapO 48 (yi.data.toList ++ ((ByteArray.data yc).toList ++ yv.data.toList)) = o by rw [hyi]; exact HO5.out)
            clear hvl hvl2 hyv hvd hil
            go_wp2_with fail
            refine (rOID_any x1 hs0 _).mono ?_
            rintro e w8 ⟨rfl, hb8⟩
            rw [← hyi]
            have HB8 := hide (HB7.out.trans (hb8.mono HB7.out.size))
            clear hb8 hyi s0
            go_wp2_with fail
            refine (fit_three 48 (by omega) (by omega) yi (yc) yv (by omega) (by omega) (by omega) o HO6.out _).mono ?_
            rintro e w9 ⟨rfl, hb9⟩
            have HB9 := hide (HB8.out.trans (hb9.mono HB8.out.size))
            clear hb9
            cases o with
            | none =>
              have HY := hide (show r = ([], 2) by rw [HR.out, HPN.out rfl]; rfl)
              rw [show fitR none = .tuple #[.string ⟨#[]⟩, .int .i64 2] from rfl]
              go_wp2_with fail
              go_ret2
              exact ⟨by rw [HY.out]; rfl, HB9.out⟩
            | some ee =>
              have HYP := HPS.out ee rfl
              have hel2 := encX_len HO.out
              obtain ⟨ye, hye⟩ : ∃ y : ByteArray, y = ⟨ee.toArray⟩ := ⟨_, rfl⟩
              have hyes : ye.size ≤ 131077 := by rw [hye, ba_mk]; exact hel2
              have hed : ee = ye.data.toList := by rw [hye]
              rw [show fitR (some ee) = .tuple #[.string ye, .int .i64 0] by rw [fitR, hye]]
              have hbs : ¬ 9223372036854775807 < y.size + ye.size := by omega
              have hzs := ba_size y ye
              have hzd := ba_append y ye
              obtain ⟨z, hz⟩ : ∃ yy9 : ByteArray, y ++ ye = yy9 := ⟨_, rfl⟩
              rw [hz] at hzs hzd
              have HYP2 := hide (show encXs l = preX z.data.toList (encXs (l.drop (k + 1))) by rw [hzd, ← hed]; exact HYP)
              clear hel2 hye hed hzd HYP
              go_wp2_with fail
              go_roundw
              case rel => exact ⟨k + 1, z, by omega, by go_num, rfl, by omega, HB9.out, HYP2⟩
              case measure => simp [intOf]; omega
      · have HS := hide (show encXs l = some y.data.toList by rw [H.out, List.drop_of_length_le (by omega)]; simp [preX, encXs])
        obtain ⟨o, ho⟩ : ∃ o, wrapO 48 y.data.toList = o := ⟨_, rfl⟩
        have HO := hide ho
        have hk24 : y.size ≤ 3145848 := Nat.le_trans hyk (Nat.mul_le_mul_right 131077 (Nat.le_trans hk hl24))
        clear ho
        go_wp2_with fail
        refine (fit_one 48 (by omega) (by omega) y (by omega) o HO.out _).mono ?_
        rintro e w5 ⟨rfl, hb5⟩
        have HB5 := hide (HB.out.trans (hb5.mono HB.out.size))
        clear hb5
        cases o with
        | none =>
          have HY := hide (show r = ([], 2) by rw [HR.out, HS.out, encG, Option.bind_some, HO.out])
          rw [show fitR none = .tuple #[.string ⟨#[]⟩, .int .i64 2] from rfl]
          go_wp2_with fail
          go_ret2
          exact ⟨by rw [HY.out]; rfl, HB5.out⟩
        | some b =>
          have HY := hide (show r = (b, 0) by rw [HR.out, HS.out, encG, Option.bind_some, HO.out])
          rw [show fitR (some b) = .tuple #[.string ⟨b.toArray⟩, .int .i64 0] from rfl]
          go_wp2_with fail
          go_ret2
          exact ⟨by rw [HY.out]; rfl, HB5.out⟩
  · have ht : (q != 0) = true := by simp [hq0]
    have HY := hide (show r = ([], q) by rw [← HRR.out, encE, if_neg (by rw [HQ.out]; exact hq0), HQ.out])
    clear hq0
    go_wp2_with fail
    go_ret2
    exact ⟨by rw [HY.out]; rfl, HB1.out⟩
end Go.Proofs.YtiikpdjjhnhiiaaDoor
