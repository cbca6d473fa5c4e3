/- The reference's DecodeExtensions. -/
import Derived.Test.YtiikpdjjhnhiiaaDoorExtL
import Derived.Test.YtiikpdjjhnhiiaaDoorExtG
namespace Go.Proofs.YtiikpdjjhnhiiaaDoor
open Go.RowKit



theorem extension_tb (t : Nat) (c raw : ByteArray) (hc : c.size ≤ 131072) (w : World) (_ : Tb w) :
    Calls Tryd.prog 69 #[.agg #[.int .i64 (t : Int), .string c, .string raw]] w fun e w' => e = .returned (decXR (decX (t, c.data.toList, raw.data.toList))) ∧ Below w.heap.size w w' := extension_any t c raw hc w

set_option maxRecDepth 100000 in
set_option maxHeartbeats 16000000 in
theorem rEDecode_any (s : ByteArray) (hs : s.size ≤ 1000000000) (w : World) (htb : Tb w) :
    Calls Tryd.prog 31 #[.string s] w (DecPost w (decE s.data.toList)) := by
  obtain ⟨r, hr⟩ : ∃ r, decE s.data.toList = r := ⟨_, rfl⟩
  rw [hr]
  obtain ⟨oe, hoe⟩ : ∃ o, oneF s.data.toList = o := ⟨_, rfl⟩
  have HRO := hide (show r = decOG oe by rw [← hr, decE_eq, hoe])
  have HOE := hide hoe
  have HTB := hide htb
  clear hr hoe htb
  go_enter Tryd.func31, Tryd.ntmps31
  go_wp2_with fail
  refine (rOne_any s hs _).mono ?_
  rintro e w1 ⟨rfl, hb1⟩
  rw [HOE.out]
  have HB1 := hide hb1
  have hs1 := hb1.size
  clear hb1
  cases oe with
  | error k =>
    have hk : k ≠ 0 := fun h => one_err0 _ (h ▸ HOE.out)
    have ht : (k != 0) = true := by simpa using hk
    have HY := hide (show r = .error k from HRO.out)
    rw [show oneR (.error k) = .tuple #[.agg #[.int .i64 0, .string ⟨#[]⟩, .string ⟨#[]⟩], .int .i64 k] from rfl]
    clear hk
    go_wp2_with fail
    go_ret2
    exact DecPost.err HY.out (HB1.out.alloc HB1.out.size _)
  | ok p =>
    obtain ⟨t, c, raw⟩ := p
    have hw := one_is_wrap HOE.out
    have hcl : c.length ≤ 131072 := hw.2.2.1
    obtain ⟨x1, hx1⟩ : ∃ x : ByteArray, x = ⟨c.toArray⟩ := ⟨_, rfl⟩
    obtain ⟨x2, hx2⟩ : ∃ x : ByteArray, x = ⟨raw.toArray⟩ := ⟨_, rfl⟩
    have hx1d : c = x1.data.toList := by rw [hx1]
    rw [show oneR (.ok (t, c, raw)) = .tuple #[.agg #[.int .i64 (t : Int), .string x1, .string x2], .int .i64 0] by rw [oneR, eltV, hx1, hx2]]
    have HR0 := hide (show r = decLG (openF (t : Int) 48 x1.data.toList) by
      rw [HRO.out, ← hx1d]
      unfold decOG openF
      simp only
      by_cases h48 : t = 48
      · rw [if_neg (by simpa using h48), if_neg (by rw [h48]; simp)]
      · rw [if_pos h48, if_pos (by omega)]; rfl)
    rw [hx1d, size_string] at hcl
    clear hw hx1 hx2 hx1d
    go_upto_region 2 with fail
    obtain ⟨wA, hwA⟩ : ∃ W, W = w1.alloc (.cells #[.int .i64 (t : Int), .string x1, .string x2] 38) := ⟨_, rfl⟩
    have n0 : wA.cell? ⟨w1.heap.size, 0, none⟩ = some (.int .i64 (t : Int)) := by rw [hwA, World.cell?_alloc_new]; rfl
    have n1 : wA.cell? ⟨w1.heap.size, 1, none⟩ = some (.string x1) := by rw [hwA, World.cell?_alloc_new]; rfl
    have n2 : wA.cell? ⟨w1.heap.size, 2, none⟩ = some (.string x2) := by rw [hwA, World.cell?_alloc_new]; rfl
    have HBA := hide (show Below w.heap.size w wA by rw [hwA]; exact HB1.out.alloc (by omega) _)
    rw [← hwA]
    clear hwA
    obtain ⟨ol, hol⟩ : ∃ o, openF (t : Int) 48 x1.data.toList = o := ⟨_, rfl⟩
    rw [hol] at HR0
    have HOL := hide hol
    clear hol
    go_wp2_with fail
    refine (Open_any (t : Int) 48 x1 x2 (by omega) _).mono ?_
    rintro e wK ⟨hbK, hres⟩
    rw [HOL.out] at hres
    have HBK := hide (HBA.out.trans (hbK.mono HBA.out.size))
    clear hbK n0 n1 n2
    cases ol with
    | error k =>
      obtain rfl : e = _ := hres
      have hk : k ≠ 0 := fun h => by
        have := HOL.out
        unfold openF at this
        split at this
        · cases this; cases h
        · rw [h] at this; exact list_err0 _ _ (Nat.le_refl _) this
      have ht2 : (k != 0) = true := by simpa using hk
      have HY := hide (show r = .error k from HR0.out)
      clear hk
      go_wp2_with fail
      go_ret2
      exact DecPost.err HY.out (HBK.out.alloc HBK.out.size _)
    | ok L =>
      obtain ⟨A, cp, rfl, hsl⟩ := hres
      have hlis : listF x1.data.toList = .ok L := by
        have := HOL.out
        unfold openF at this
        split at this
        · cases this
        · exact this
      obtain ⟨-, hlc, hcm⟩ := hsl.len_
      unfold maxLen at hcm
      have hL := list_len _ _ _ (Nat.le_refl _) hlis
      rw [size_string] at hL
      have hL : L.length ≤ 131072 := Nat.le_trans hL hcl
      have HMM := hide (fun e (he : e ∈ L) => (list_is_wrap _ _ _ (Nat.le_refl _) hlis e he).2.2.1)
      have HML := hide (fun (k : Nat) (h : k < L.length) => HMM.out L[k] (List.getElem_mem h))
      have HR := hide (show r = decYG (decXs L) from HR0.out)
      have H0 := hide (show decXs L = preY [] (decXs (L.drop 0)) by rw [List.drop_zero]; cases decXs L <;> rfl)
      obtain ⟨wL, hwL⟩ : ∃ W, W = wK.alloc (.cells #[.slice A L.length cp, .int .i64 0] 82) := ⟨_, rfl⟩
      have k0 : wL.cell? ⟨wK.heap.size, 0, none⟩ = some (.slice A L.length cp) := by rw [hwL, World.cell?_alloc_new]; rfl
      have hbL : Below wK.heap.size wK wL := by rw [hwL]; exact (Below.refl _ _).alloc (Nat.le_refl _) _
      have HBL := hide (HBK.out.trans (hbL.mono HBK.out.size))
      have HSL := hide ((Sl.ok RElt.ok).mono hsl (fun j hj => hbL.block j hj.2) (S' := Btw wA.heap.size wL.heap.size) (fun j hj => ⟨hj.1, Nat.lt_of_lt_of_le hj.2 hbL.size⟩))
      go_upto_region 5 with fail
      rw [← hwL]
      obtain ⟨gF, hgF⟩ : ∃ g, wK.heap.size = g := ⟨_, rfl⟩
      rw [hgF] at k0 ⊢
      obtain ⟨base, hbase⟩ : ∃ b, b = wL.heap.size := ⟨_, rfl⟩
      have HBASE := hide hbase
      have hgs0 : base ≤ wL.heap.size := by omega
      clear hsl hbase hlis hwL hbL hgF
      go_wp2_with fail
      go_loopw [7, 32] (fun v i wr => ∃ (k : Nat) (out : List Ext), k ≤ L.length ∧ i = .int .i64 k ∧ out.length ≤ k ∧ Own RExt 3 49 wr base No v out ∧ Below wL.heap.size wL wr ∧ base ≤ wr.heap.size ∧ Hid (decXs L = preY out (decXs (L.drop k)))) (fun _ i _ => L.length - (intOf i).toNat)
      case atStart => exact ⟨0, [], by omega, rfl, by simp, Own.nil _ _ _ _ _ _, Below.refl _ _, hgs0, H0⟩
      case round =>
        obtain ⟨k, out, hk, rfl, hol, hown, hb, hgs, H⟩ := hrel
        have HB := hide hb
        have HOWN := hide hown
        have hbase := HBASE.out
        have hzb := HBL.out.size
        clear hb
        by_cases hlt : k < L.length
        · obtain ⟨b, off, hA, hbS, e0, e1, e2⟩ := HSL.out.eltAt hlt
          subst hA
          have hcl := HML.out k hlt
          have HPS := hide (fun (x : Ext) (h : decX L[k] = .ok x) => H.out.trans (preY_at hlt h))
          have HPN := hide (fun (e : Int) (h : decX L[k] = .error e) => H.out.trans (preY_err hlt h))
          obtain ⟨⟨et, ec, er⟩, hel⟩ : ∃ e, L[k] = e := ⟨_, rfl⟩
          rw [hel] at e0 e1 e2 hcl HPS HPN
          simp only at e0 e1 e2 hcl
          obtain ⟨z1, hz1⟩ : ∃ x : ByteArray, x = ⟨ec.toArray⟩ := ⟨_, rfl⟩
          obtain ⟨z2, hz2⟩ : ∃ x : ByteArray, x = ⟨er.toArray⟩ := ⟨_, rfl⟩
          have hz1d : ec = z1.data.toList := by rw [hz1]
          have hz2d : er = z2.data.toList := by rw [hz2]
          rw [← hz1] at e1
          rw [← hz2] at e2
          rw [hz1d] at hcl
          rw [size_string] at hcl
          rw [hz1d, hz2d] at HPS HPN
          obtain ⟨o, ho⟩ : ∃ o, decX (et, z1.data.toList, z2.data.toList) = o := ⟨_, rfl⟩
          rw [ho] at HPS HPN
          have HO := hide ho
          have p0 := (HB.out.cell (p := ⟨b, off + k * 3, none⟩) hbS.2).trans e0
          have p1 := (HB.out.cell (p := ⟨b, off + k * 3 + 1, none⟩) hbS.2).trans e1
          have p2 := (HB.out.cell (p := ⟨b, off + k * 3 + 2, none⟩) hbS.2).trans e2
          have hol2 := declen hol hk hL
          obtain ⟨A2, cp2, hv⟩ := (hown.sl RExt.ok).shape
          subst hv
          clear e0 e1 e2 hz1 hz2 hel hz1d hz2d ho hown
          obtain ⟨wo, rfl⟩ : ∃ wo : World, wo = wr := ⟨_, rfl⟩
          go_upto_region 11 with fail
          obtain ⟨wB, hwB⟩ : ∃ W, W = wo.alloc (.cells #[.int .i64 (et : Int), .string z1, .string z2] 38) := ⟨_, rfl⟩
          have q0 : wB.cell? ⟨wo.heap.size, 0, none⟩ = some (.int .i64 (et : Int)) := by rw [hwB, World.cell?_alloc_new]; rfl
          have q1 : wB.cell? ⟨wo.heap.size, 1, none⟩ = some (.string z1) := by rw [hwB, World.cell?_alloc_new]; rfl
          have q2 : wB.cell? ⟨wo.heap.size, 2, none⟩ = some (.string z2) := by rw [hwB, World.cell?_alloc_new]; rfl
          have hbB : Below wo.heap.size wo wB := by rw [hwB]; exact (Below.refl _ _).alloc (Nat.le_refl _) _
          have HBB := hide (HB.out.trans (hbB.mono HB.out.size))
          have HOB := hide (HOWN.out.below RExt.ok (no_lt _) hbB)
          have hzB := hbB.size
          rw [← hwB]
          clear hwB p0 p1 p2 hbB
          obtain ⟨gx, hgx⟩ : ∃ g, wo.heap.size = g := ⟨_, rfl⟩
          rw [hgx] at q0 q1 q2 ⊢
          clear hgx
          go_wp2_with fail
          refine (extension_tb et z1 z2 hcl _ (HTB.out.below (HBL.out.trans (HBB.out.mono HBL.out.size)))).mono ?_
          rintro e w5 ⟨rfl, hb5⟩
          rw [HO.out]
          have HB5 := hide (HBB.out.trans (hb5.mono HBB.out.size))
          have HO5 := hide (HOB.out.below RExt.ok (no_lt _) hb5)
          have hz5 := hb5.size
          clear hb5 q0 q1 q2
          cases o with
          | error k9 =>
            have hk9 : k9 ≠ 0 := fun h => decX_err0 _ (h ▸ HO.out)
            have ht : (k9 != 0) = true := by simpa using hk9
            have HY := hide (show r = .error k9 by rw [HR.out, HPN.out k9 rfl]; rfl)
            rw [show decXR (.error k9) = .tuple #[.agg #[.string ⟨#[]⟩, .bool false, .string ⟨#[]⟩], .int .i64 k9] from rfl]
            clear hk9
            go_wp2_with fail
            go_ret2
            exact DecPost.err HY.out ((HBL.out.trans (HB5.out.mono HBL.out.size)).alloc (by omega) _)
          | ok x =>
            obtain ⟨id, cr, va⟩ := x
            obtain ⟨x1, hx1⟩ : ∃ x : ByteArray, x = ⟨id.toArray⟩ := ⟨_, rfl⟩
            obtain ⟨x2, hx2⟩ : ∃ x : ByteArray, x = ⟨va.toArray⟩ := ⟨_, rfl⟩
            have hid : id = x1.data.toList := by rw [hx1]
            have hva : va = x2.data.toList := by rw [hx2]
            have HY := hide (show decXs L = preY (out ++ [(x1.data.toList, cr, x2.data.toList)]) (decXs (L.drop (k + 1))) by rw [HPS.out _ rfl, hid, hva])
            rw [show decXR (.ok (id, cr, va)) = .tuple #[.agg #[.string x1, .bool cr, .string x2], .int .i64 0] by rw [decXR, extV, hx1, hx2]]
            clear hx1 hx2 hid hva
            go_upto_region 12 with fail
            obtain ⟨wC, hwC⟩ : ∃ W, W = w5.alloc (.cells #[.string x1, .bool cr, .string x2] 49) := ⟨_, rfl⟩
            have s0 : wC.cell? ⟨w5.heap.size, 0, none⟩ = some (.string x1) := by rw [hwC, World.cell?_alloc_new]; rfl
            have s1 : wC.cell? ⟨w5.heap.size, 1, none⟩ = some (.bool cr) := by rw [hwC, World.cell?_alloc_new]; rfl
            have s2 : wC.cell? ⟨w5.heap.size, 2, none⟩ = some (.string x2) := by rw [hwC, World.cell?_alloc_new]; rfl
            have hbC : Below w5.heap.size w5 wC := by rw [hwC]; exact (Below.refl _ _).alloc (Nat.le_refl _) _
            have HBC := hide (HB5.out.trans (hbC.mono HB5.out.size))
            have HOC := hide (HO5.out.below RExt.ok (no_lt _) hbC)
            have hzC := hbC.size
            rw [← hwC]
            clear hwC hbC
            obtain ⟨gy, hgy⟩ : ∃ g, w5.heap.size = g := ⟨_, rfl⟩
            rw [hgy] at s0 s1 s2 ⊢
            clear hgy
            go_wp2_with (at_builtin; refine wpList_app RExt.ok _ rfl (.tmp 44) (.tmp 46) 50 rfl base 49 (.agg #[.string ⟨#[]⟩, .bool false, .string ⟨#[]⟩]) 40 Tryd.underlying50 info_ext rfl (by decide) No _ out rfl (HOC.out.alloc RExt.ok (no_lt _) _) ⟨_, 0, none⟩ 1 1 [(x1.data.toList, cr, x2.data.toList)] rfl rfl (news_ext _ _ _ cr x1 x2) (no_lt _) (by simp; omega) (by simp [maxLen]; omega) (by simp; omega) ?_; intro v2 w2 hown2 hg2 hb2 hat2; have hsz2 := hb2.size; simp at hsz2)
            go_roundw
            case rel => exact ⟨k + 1, _, by omega, by go_num, by simp; omega, hown2, (HBC.out.alloc HBC.out.size _).trans (hb2.mono (by omega)), by omega, HY⟩
            case measure => simp [intOf]; omega
        · have HD := hide (show decXs L = .ok out by rw [H.out, List.drop_of_length_le (by omega)]; simp [preY, decXs])
          obtain ⟨hsm, hlen⟩ := decXs_small L out HMM.out HD.out
          have hsl := (Sl.ok RExt.ok).mono (HOWN.out.sl RExt.ok) (S' := Lt wr.heap.size) (fun _ _ => rfl) (fun j hj => by rcases hj with hj | hj; exact hj.elim; exact hj.2)
          obtain ⟨A2, cp2, hv⟩ := hsl.shape
          subst hv
          have HSLO := hide hsl
          have HSM := hide hsm
          obtain ⟨q, hq⟩ : ∃ q, chkE out = q := ⟨_, rfl⟩
          have HQ := hide hq
          have HBW := hide (HBL.out.trans (HB.out.mono HBL.out.size))
          clear hsl hsm hq hown hlen
          go_wp2_with fail
          refine (rechk_v out q HQ.out A2 cp2 _ HSLO.out HSM.out).mono ?_
          rintro e w5 ⟨rfl, hb5⟩
          have HB5 := hide (HBW.out.trans (hb5.mono HBW.out.size))
          have HSL5 := hide ((Sl.ok RExt.ok).mono HSLO.out (fun j hj => hb5.block j hj) (S' := Lt w5.heap.size) (fun j hj => Nat.lt_of_lt_of_le hj hb5.size))
          clear hb5
          by_cases hq0 : q = 0
          · have ht : (q != 0) = false := by simp [hq0]
            have HY := hide (show r = .ok out by rw [HR.out, HD.out, decYG, if_pos (HQ.out.trans hq0)])
            clear hq0
            go_wp2_with fail
            go_ret2
            exact DecPost.ok HY.out HB5.out HSL5.out HSM.out
          · have ht : (q != 0) = true := by simp [hq0]
            have HY := hide (show r = .error q by rw [HR.out, HD.out, decYG, if_neg (by rw [HQ.out]; exact hq0), HQ.out])
            clear hq0
            go_wp2_with fail
            go_ret2
            exact DecPost.err HY.out HB5.out
end Go.Proofs.YtiikpdjjhnhiiaaDoor
