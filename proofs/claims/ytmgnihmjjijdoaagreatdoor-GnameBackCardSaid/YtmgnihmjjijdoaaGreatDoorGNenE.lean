/- dname.Decode. -/
import Derived.Test.YtmgnihmjjijdoaaGreatDoorGNenP
namespace Go.Proofs.YtmgnihmjjijdoaaGreatDoor
open Go.RowKit
def toP : Except Int Name → Int × Name
 | .error k => (k, [])
 | .ok n => (0, n)
theorem decR_err0 (e : Elt) : decR e ≠ .error 0 := by
  unfold decR
  cases hL : openF e.1 49 e.2.1 with
  | error k =>
    intro h
    simp only [decRG, Except.error.injEq] at h
    subst h
    exact openF_err0 hL
  | ok l =>
    rw [decRG, decRL]
    split
    · simp
    · exact mapE_err0 decA_err0 l
theorem decR_small {e : Elt} {r : List Attr} (h : decR e = .ok r) : SmallR r := by
  unfold decR at h
  cases hL : openF e.1 49 e.2.1 with
  | error k => rw [hL] at h; cases h
  | ok l =>
    rw [hL, decRG, decRL] at h
    split at h
    · cases h
    · intro a ha
      obtain ⟨x, _, hx⟩ := mapE_mem l r h a ha
      exact decA_small hx
structure NSt (w W : World) : Prop where
 below : Below w.heap.size w W
 r : NB w.heap.size (.slice none 0 0) W
 n : NB (w.heap.size + 1) (.slice none 0 0) W
theorem NSt.grow {w W W' : World} (h : NSt w W) (hb : Below W.heap.size W W') : NSt w W' := ⟨h.below.trans (hb.mono h.below.size), h.r.below hb, h.n.below hb⟩
theorem NSt.ex {w W W' : World} {d : Nat} (h : NSt w W) (hx : Ex d W W') (hd : w.heap.size + 2 ≤ d) : NSt w W' :=
 ⟨Ex.below h.below h.below.size (by omega) hx, (hx.at_ h.r.lt (by omega)).trans h.r, (hx.at_ h.n.lt (by omega)).trans h.n⟩
theorem NSt.base {w W W' : World} {B : Nat} (h : NSt w W) (hb : Below B W W') (hB : w.heap.size + 2 ≤ B) : NSt w W' :=
 ⟨h.below.trans (hb.mono (by omega)), (hb.block _ (by omega)).trans h.r, (hb.block _ (by omega)).trans h.n⟩
theorem two_names (w : World) : ∃ W, W = (w.alloc (.cells #[.slice none 0 0] 24)).alloc (.cells #[.slice none 0 0] 24) ∧ NSt w W ∧ W.heap.size = w.heap.size + 2 := by
 refine ⟨_, rfl, ⟨((Below.refl _ _).alloc (Nat.le_refl _) _).alloc (by simp) _, ?_, ?_⟩, by simp⟩
 ·unfold NB
  rw [Below.heap_alloc _ _ _ (by simp)]
  exact heap_alloc_new w _
 ·unfold NB
  rw [show w.heap.size + 1 = (w.alloc (.cells #[.slice none 0 0] 24)).heap.size by simp]
  exact heap_alloc_new _ _
set_option maxRecDepth 100000 in
set_option maxHeartbeats 16000000 in
theorem NDecodeB_any (s : ByteArray) (hs : s.size ≤ 1000000000) (w : World) (hmx : Mx w) (htb : Tb w) :
    Calls Tryz.prog 49 #[.string s] w (ParsePostB w (toP (decN s.data.toList))) := by
  obtain ⟨r, hr⟩ : ∃ r, decN s.data.toList = r := ⟨_, rfl⟩
  rw [hr]
  obtain ⟨oe, hoe⟩ : ∃ o, oneF s.data.toList = o := ⟨_, rfl⟩
  have HRO := hide (show r = decNO oe by rw [← hr, decN, hoe])
  have HOE := hide hoe
  have HMX := hide hmx
  have HTB := hide htb
  obtain ⟨W0, hW0, hst0, hz0⟩ := two_names w
  have HST0 := hide hst0
  clear hr hoe hmx htb hst0
  go_enter Tryz.func49, Tryz.ntmps49
  go_upto_region 2 with fail
  rw [← hW0]
  clear hW0
  go_wp2_with fail
  refine (One_any s hs _).mono ?_
  rintro e w1 ⟨rfl, hb1⟩
  rw [HOE.out]
  have HST1 := hide (HST0.out.grow hb1)
  have hs1 := hb1.size
  clear hb1
  cases oe with
  | error k =>
    have hk : k ≠ 0 := fun h => one_err0 _ (h ▸ HOE.out)
    have ht : (k != 0) = true := by simpa using hk
    have HN := hide (show r = .error k from HRO.out)
    rw [show oneR (.error k) = .tuple #[.agg #[.int .i64 0, .string ⟨#[]⟩, .string ⟨#[]⟩], .int .i64 k] from rfl]
    have hsA := HST1.out.grow ((Below.refl w1.heap.size w1).alloc (Nat.le_refl _) (.cells #[.int .i64 0, .string ⟨#[]⟩, .string ⟨#[]⟩] 45))
    clear hk
    go_upto_region 3 with fail
    obtain ⟨wA, hwA⟩ : ∃ W, W = w1.alloc (.cells #[.int .i64 0, .string ⟨#[]⟩, .string ⟨#[]⟩] 45) := ⟨_, rfl⟩
    rw [← hwA] at hsA ⊢
    clear hwA
    obtain ⟨r0, f0⟩ := (hsA).r.facts
    obtain ⟨n0, -⟩ := (hsA).n.facts
    go_wp2_with fail
    have hNB := ((hsA).r.store (.slice none 0 0)).facts.1
    obtain ⟨W3, hW3⟩ : ∃ W3, W3 = wA.setCell ⟨w.heap.size, 0, none⟩ (.slice none 0 0) := ⟨_, rfl⟩
    have hbz : Below w.heap.size w W3 := by rw [hW3]; exact (hsA).below.setCell (p := ⟨w.heap.size, 0, none⟩) (Nat.le_refl _) _
    have HSLz := hide (show Sl RRdn 1 W3 (Btw w.heap.size W3.heap.size) (toP r).2 [(.slice none 0 0)] by rw [hW3, HN.out]; exact Sl.nil _ _ _ _)
    rw [← hW3] at hNB ⊢
    clear hW3
    exact bodyPost_ret (v := .tuple #[.agg #[(.slice none 0 0)], .int .i64 k]) (by simp [results, Tryz.results49, go_sem, hNB]) rfl ⟨(.slice none 0 0), by rw [HN.out]; rfl, HSLz.out, hbz, by rw [HN.out]; (intro x hx; cases hx)⟩
  | ok p =>
    obtain ⟨t, c, raw⟩ := p
    have hw := one_is_wrap HOE.out
    have hcl : c.length ≤ 131072 := hw.2.2.1
    obtain ⟨x1, hx1⟩ : ∃ x : ByteArray, x = ⟨c.toArray⟩ := ⟨_, rfl⟩
    obtain ⟨x2, hx2⟩ : ∃ x : ByteArray, x = ⟨raw.toArray⟩ := ⟨_, rfl⟩
    have hx1d : c = x1.data.toList := by rw [hx1]
    rw [show oneR (.ok (t, c, raw)) = .tuple #[.agg #[.int .i64 (t : Int), .string x1, .string x2], .int .i64 0] by rw [oneR, eltV, hx1, hx2]]
    have HRO2 := hide (show r = decNG (openF (t : Int) 48 x1.data.toList) by rw [HRO.out, ← hx1d]; rfl)
    rw [hx1d, size_string] at hcl
    clear hw hx1 hx2 hx1d
    go_upto_region 3 with fail
    obtain ⟨wA, hwA⟩ : ∃ W, W = w1.alloc (.cells #[.int .i64 (t : Int), .string x1, .string x2] 45) := ⟨_, rfl⟩
    have n0 : wA.cell? ⟨w1.heap.size, 0, none⟩ = some (.int .i64 (t : Int)) := by rw [hwA, World.cell?_alloc_new]; rfl
    have n1 : wA.cell? ⟨w1.heap.size, 1, none⟩ = some (.string x1) := by rw [hwA, World.cell?_alloc_new]; rfl
    have HSTA := hide (show NSt w wA by rw [hwA]; exact HST1.out.grow ((Below.refl _ _).alloc (Nat.le_refl _) _))
    have hzA : wA.heap.size = w1.heap.size + 1 := by rw [hwA]; simp
    have hzA2 : w.heap.size + 2 ≤ wA.heap.size := by omega
    rw [← hwA]
    clear hwA hzA hs1
    by_cases h48 : t = 48
    · have ht : ((t : Int) != 48) = false := by rw [h48]; rfl
      obtain ⟨ol, hol⟩ : ∃ o, listF x1.data.toList = o := ⟨_, rfl⟩
      have HR0 := hide (show r = decNG ol by rw [HRO2.out, openF, if_neg (by omega), hol])
      have HOL := hide hol
      clear h48 hol
      go_wp2_with fail
      refine (List_any x1 (by omega) _).mono ?_
      rintro e wL ⟨hbL, hres⟩
      rw [HOL.out] at hres
      have HSTL := hide (HSTA.out.grow hbL)
      have hzL := hbL.size
      clear hbL n0 n1
      cases ol with
      | error k =>
        obtain rfl : e = _ := hres
        have hk : k ≠ 0 := fun h => list_err0 _ _ (Nat.le_refl _) (h ▸ HOL.out)
        have ht2 : (k != 0) = true := by simpa using hk
        have HN := hide (show r = .error k from HR0.out)
        clear hk
        obtain ⟨r0, f0⟩ := (HSTL.out).r.facts
        obtain ⟨n0, -⟩ := (HSTL.out).n.facts
        go_wp2_with fail
        have hNB := ((HSTL.out).r.store (.slice none 0 0)).facts.1
        obtain ⟨W3, hW3⟩ : ∃ W3, W3 = wL.setCell ⟨w.heap.size, 0, none⟩ (.slice none 0 0) := ⟨_, rfl⟩
        have hbz : Below w.heap.size w W3 := by rw [hW3]; exact (HSTL.out).below.setCell (p := ⟨w.heap.size, 0, none⟩) (Nat.le_refl _) _
        have HSLz := hide (show Sl RRdn 1 W3 (Btw w.heap.size W3.heap.size) (toP r).2 [(.slice none 0 0)] by rw [hW3, HN.out]; exact Sl.nil _ _ _ _)
        rw [← hW3] at hNB ⊢
        clear hW3
        exact bodyPost_ret (v := .tuple #[.agg #[(.slice none 0 0)], .int .i64 k]) (by simp [results, Tryz.results49, go_sem, hNB]) rfl ⟨(.slice none 0 0), by rw [HN.out]; rfl, HSLz.out, hbz, by rw [HN.out]; (intro x hx; cases hx)⟩
      | ok L =>
        obtain ⟨A, cp, rfl, hsl⟩ := hres
        obtain ⟨-, hlc, hcm⟩ := hsl.len_
        unfold maxLen at hcm
        have hL := list_len _ _ _ (Nat.le_refl _) HOL.out
        rw [size_string] at hL
        have hL : L.length ≤ 131072 := Nat.le_trans hL hcl
        have HMM := hide (fun e (he : e ∈ L) => (list_is_wrap _ _ _ (Nat.le_refl _) HOL.out e he).2.2.1)
        have HML := hide (fun (k : Nat) (h : k < L.length) => HMM.out L[k] (List.getElem_mem h))
        have HR := hide (show r = decNF (mapE decR L) from HR0.out)
        have H0 := hide (show mapE decR L = preE [] (mapE decR (L.drop 0)) by rw [List.drop_zero, preE_nil])
        obtain ⟨wM, hwM⟩ : ∃ W, W = wL.alloc (.cells #[.slice none 0 0] 24) := ⟨_, rfl⟩
        obtain ⟨gN, hgN⟩ : ∃ g, wL.heap.size = g := ⟨_, rfl⟩
        have hbM : Below wL.heap.size wL wM := by rw [hwM]; exact (Below.refl _ _).alloc (Nat.le_refl _) _
        have hnbN : NB gN (.slice none 0 0) wM := by rw [hwM, ← hgN]; exact heap_alloc_new wL _
        have HSL := hide (show Sl RElt 3 wM (Lt gN) L [.slice A L.length cp] from (Sl.ok RElt.ok).mono hsl (fun j hj => hbM.block j hj.2) (fun j hj => by rw [← hgN]; exact hj.2))
        have HSTM := hide (HSTL.out.grow hbM)
        have HNBN := hide hnbN
        obtain ⟨base, hbase⟩ : ∃ b, b = wM.heap.size := ⟨_, rfl⟩
        have HBASE := hide hbase
        have hzM : wM.heap.size = gN + 1 := by rw [hwM]; simp [hgN]
        have hgb : gN < base := by omega
        have hgw : w.heap.size + 2 ≤ gN := by omega
        have hgs0 : base ≤ wM.heap.size := by omega
        clear hsl ht hbM hnbN hbase hzM hzL hzA2
        go_upto_region 11 with fail
        rw [← hwM]
        clear hwM hgN
        go_wp2_with fail
        go_loopw [39] (fun i wr => ∃ (k : Nat) (l : Name) (v : Value) (S : Nat → Prop), k ≤ L.length ∧ l.length = k ∧ i = .int .i64 k ∧ NSt w wr ∧ Ex gN wM wr ∧ base ≤ wr.heap.size ∧ NB gN v wr ∧ Own RRdn 1 82 wr base S v l ∧
          (∀ j, S j → base ≤ j ∧ j < wr.heap.size) ∧ SmallN l ∧ Hid (mapE decR L = preE l (mapE decR (L.drop k)))) (fun i _ => L.length - (intOf i).toNat)
        case atStart => exact ⟨0, [], _, No, by omega, rfl, rfl, HSTM.out, Ex.refl _ _, hgs0, HNBN.out, Own.nil _ _ _ _ _ _, fun j h => h.elim, (fun x hx => by cases hx), H0⟩
        case round =>
          obtain ⟨k, l, v, S, hk, hlk, rfl, hst, hex, hgs, hnb, hown, hS, hsm, H⟩ := hrel
          have HLK := hide hlk
          have hlk2 : l.length ≤ k := by omega
          have HST := hide hst
          have HNB := hide hnb
          have HEX := hide hex
          have HOWN := hide hown
          have HS := hide hS
          have HSM := hide hsm
          clear hlk hst hnb hex hown hS hsm
          by_cases hlt : k < L.length
          · obtain ⟨b, off, hA, hbS, e0, e1, e2⟩ := HSL.out.eltAt hlt
            subst hA
            have hcl2 := HML.out k hlt
            have HPS := hide (fun (x : List Attr) (h : decR L[k] = .ok x) => H.out.trans (preE_at hlt h))
            have HPN := hide (fun (e : Int) (h : decR L[k] = .error e) => H.out.trans (preE_err hlt h))
            obtain ⟨⟨et, ec, er⟩, hel⟩ : ∃ e, L[k] = e := ⟨_, rfl⟩
            rw [hel] at e0 e1 e2 hcl2 HPS HPN
            simp only at e0 e1 e2 hcl2
            obtain ⟨z1, hz1⟩ : ∃ x : ByteArray, x = ⟨ec.toArray⟩ := ⟨_, rfl⟩
            obtain ⟨z2, hz2⟩ : ∃ x : ByteArray, x = ⟨er.toArray⟩ := ⟨_, rfl⟩
            have hz1d : ec = z1.data.toList := by rw [hz1]
            have hz2d : er = z2.data.toList := by rw [hz2]
            rw [← hz1] at e1
            rw [← hz2] at e2
            rw [hz1d] at hcl2
            rw [size_string] at hcl2
            rw [hz1d, hz2d] at HPS HPN
            obtain ⟨o, ho⟩ : ∃ o, decR (et, z1.data.toList, z2.data.toList) = o := ⟨_, rfl⟩
            rw [ho] at HPS HPN
            have HO := hide ho
            have hbg : b < gN := hbS
            have hbM : b < wM.heap.size := by have := HNBN.out.lt; omega
            have hbne : b ≠ gN := by omega
            have p0 := (HEX.out.cell (p := ⟨b, off + k * 3, none⟩) hbM hbne).trans e0
            have p1 := (HEX.out.cell (p := ⟨b, off + k * 3 + 1, none⟩) hbM hbne).trans e1
            have p2 := (HEX.out.cell (p := ⟨b, off + k * 3 + 2, none⟩) hbM hbne).trans e2
            clear e0 e1 e2 hz1 hz2 hel hz1d hz2d ho
            obtain ⟨wo, rfl⟩ : ∃ wo : World, wo = wr := ⟨_, rfl⟩
            go_upto_region 14 with fail
            obtain ⟨wB, hwB⟩ : ∃ W, W = wo.alloc (.cells #[.int .i64 (et : Int), .string z1, .string z2] 45) := ⟨_, rfl⟩
            have q0 : wB.cell? ⟨wo.heap.size, 0, none⟩ = some (.int .i64 (et : Int)) := by rw [hwB, World.cell?_alloc_new]; rfl
            have q1 : wB.cell? ⟨wo.heap.size, 1, none⟩ = some (.string z1) := by rw [hwB, World.cell?_alloc_new]; rfl
            have q2 : wB.cell? ⟨wo.heap.size, 2, none⟩ = some (.string z2) := by rw [hwB, World.cell?_alloc_new]; rfl
            have HBB := hide (show Below wo.heap.size wo wB by rw [hwB]; exact (Below.refl _ _).alloc (Nat.le_refl _) _)
            have hzB : wB.heap.size = wo.heap.size + 1 := by rw [hwB]; simp
            rw [← hwB]
            clear hwB p0 p1 p2
            obtain ⟨gx, hgx⟩ : ∃ g, wo.heap.size = g := ⟨_, rfl⟩
            have HGX := hide hgx
            rw [hgx] at q0 q1 q2 ⊢
            clear hgx
            go_wp2_with fail
            refine (decRel_any et z1 z2 hcl2 _ (HTB.out.below (HST.out.grow HBB.out).below)).mono ?_
            rintro e w5 ⟨hb5, hres⟩
            rw [HO.out] at hres
            have hbwi := HBB.out.trans (hb5.mono HBB.out.size)
            have hsz5 := hb5.size
            clear q0 q1 q2
            cases o with
            | error k9 =>
              obtain rfl : e = _ := hres
              have hk9 : k9 ≠ 0 := fun h => decR_err0 _ (h ▸ HO.out)
              have ht : (k9 != 0) = true := by simpa using hk9
              have HN := hide (show r = .error k9 by rw [HR.out, HPN.out k9 rfl]; rfl)
              have HST5 := hide (HST.out.grow hbwi)
              clear hk9 hb5 hbwi
              obtain ⟨r0, f0⟩ := (HST5.out).r.facts
              obtain ⟨n0, -⟩ := (HST5.out).n.facts
              go_wp2_with fail
              have hNB := ((HST5.out).r.store (.slice none 0 0)).facts.1
              obtain ⟨W3, hW3⟩ : ∃ W3, W3 = w5.setCell ⟨w.heap.size, 0, none⟩ (.slice none 0 0) := ⟨_, rfl⟩
              have hbz : Below w.heap.size w W3 := by rw [hW3]; exact (HST5.out).below.setCell (p := ⟨w.heap.size, 0, none⟩) (Nat.le_refl _) _
              have HSLz := hide (show Sl RRdn 1 W3 (Btw w.heap.size W3.heap.size) (toP r).2 [(.slice none 0 0)] by rw [hW3, HN.out]; exact Sl.nil _ _ _ _)
              rw [← hW3] at hNB ⊢
              clear hW3
              exact bodyPost_ret (v := .tuple #[.agg #[(.slice none 0 0)], .int .i64 k9]) (by simp [results, Tryz.results49, go_sem, hNB]) rfl ⟨(.slice none 0 0), by rw [HN.out]; rfl, HSLz.out, hbz, by rw [HN.out]; (intro x hx; cases hx)⟩
            | ok rr =>
              obtain ⟨A6, c7, rfl, hsl5⟩ := hres
              have HSMR := hide (decR_small HO.out)
              have HY := hide (show mapE decR L = preE (l ++ [rr]) (mapE decR (L.drop (k + 1))) from HPS.out _ rfl)
              obtain ⟨S', hS'⟩ : ∃ S' : Nat → Prop, S' = fun j => S j ∨ (wB.heap.size ≤ j ∧ j < w5.heap.size) := ⟨_, rfl⟩
              have hS1 : ∀ j, S j → S' j := fun j hj => by rw [hS']; exact .inl hj
              have hS2 : ∀ j, S' j → base ≤ j ∧ j < w5.heap.size := fun j hj => by
                rw [hS'] at hj
                rcases hj with hj | hj
                · have := HS.out j hj; omega
                · omega
              have hnoS : ∀ g, v.ownBlock = some g → ¬ S' g := fun g hg hh => by
                rw [hS'] at hh
                have hlt := (HOWN.out.lt g hg).2
                rcases hh with hh | hh
                · obtain ⟨_, _, h2, _⟩ := HOWN.out
                  exact h2 g hg hh
                · omega
              have hownO := ((HOWN.out.below RRdn.ok (fun j hj => (HS.out j hj).2) hbwi).more RRdn.ok hS1 hnoS)
              have hownA := hownO.alloc RRdn.ok (fun j hj => (hS2 j hj).2) (.cells #[.slice A6 rr.length c7] 82)
              have hgA : ∀ j, S' j → j < (w5.alloc (.cells #[.slice A6 rr.length c7] 82)).heap.size := fun j hj => by have := (hS2 j hj).2; simp; omega
              have hnew : Sl RAttr 3 (w5.alloc (.cells #[.slice A6 rr.length c7] 82)) S' rr [.slice A6 rr.length c7] := (Sl.ok RAttr.ok).mono hsl5 (fun j hj => Below.heap_alloc _ _ j hj.2) (fun j hj => by rw [hS']; exact .inr hj)
              have HNEW := hide (news_one (R := RRdn) hnew)
              have hbA : Below wo.heap.size wo (w5.alloc (.cells #[.slice A6 rr.length c7] 82)) := hbwi.alloc (by omega) _
              have hnbA := HNB.out.below hbA
              have HNA := hide (fun W (h : Below base (w5.alloc (.cells #[.slice A6 rr.length c7] 82)) W) => (show NB gN v W from (h.block gN hgb).trans hnbA))
              have c0 := (HNB.out.below hbwi).facts.1
              have HBA := hide hbA
              have HOA := hide hownA
              have HS2 := hide hS2
              have hbz : base ≤ (w5.alloc (.cells #[.slice A6 rr.length c7] 82)).heap.size := by simp; omega
              clear hsl5 hb5 hbwi hS' hS1 hS2 hnoS hownO hownA hnew hbA hnbA
              go_wp2_with (at_builtin; refine wpList_app RRdn.ok _ rfl (.tmp 53) (.tmp 55) 22 rfl base 82 (.slice none 0 0) 24 Tryz.underlying22 info_rdn rfl (by decide) S' _ l rfl HOA.out ⟨_, 0, none⟩ 1 1 [rr] rfl rfl HNEW.out hgA (by simp; omega) (by simp [maxLen]; omega) hbz ?_; intro v6 w6 hown6 hg6 hb6 hat6; obtain ⟨c6, f6⟩ := (HNA.out _ hb6).facts; have hsz6 := hb6.size; obtain ⟨A8, c8, hv8⟩ := (hown6.sl RRdn.ok).shape; obtain ⟨n8, hn8⟩ : ∃ n8, (l ++ [rr]).length = n8 := ⟨_, rfl⟩; rw [hn8] at hv8; subst hv8; clear hn8)
              have hsz7 : w5.heap.size + 1 ≤ w6.heap.size := by simpa using hsz6
              have hexf : Ex gN wM w6 := (HEX.out.then_ HBA.out).then_base (HBASE.out ▸ hb6)
              have hst6 := (HST.out.grow HBA.out).base hb6 (by omega)
              have hn6 := HNA.out _ hb6
              go_roundw
              case rel => exact ⟨k + 1, l ++ [rr], _, S', by omega, by simp [HLK.out], by go_num, hst6.ex (Ex.set gN 0 w6 _) hgw, hexf.trans (Ex.set gN 0 w6 _), by simp; omega, hn6.store _, hown6.other RRdn.ok (fun j hj => (HS2.out j hj).1) hgb _, fun j hj => ⟨(HS2.out j hj).1, by have := (HS2.out j hj).2; simp; omega⟩, (fun x hx => by
                rcases List.mem_append.1 hx with hx | hx
                · exact HSM.out x hx
                · simp at hx; subst hx; exact HSMR.out), HY⟩
              case measure => simp [intOf]; omega
          · have HP := hide (show mapE decR L = .ok l by rw [H.out, List.drop_of_length_le (by omega)]; simp [preE, mapE])
            have hsl := (Sl.ok RRdn.ok).mono (HOWN.out.sl RRdn.ok) (fun _ _ => rfl) (S' := Lt wr.heap.size) (fun j hj => by rcases hj with hj | hj; exact (HS.out j hj).2; exact hj.2)
            have hslB := (Sl.ok RRdn.ok).mono (HOWN.out.sl RRdn.ok) (fun _ _ => rfl) (S' := fun j => base ≤ j ∧ j < wr.heap.size) (fun j hj => by rcases hj with hj | hj; exact HS.out j hj; exact hj)
            obtain ⟨A9, cc, hv⟩ := hsl.shape
            subst hv
            have HSLv := hide hsl
            have HSLB := hide hslB
            clear hslB
            clear hsl
            obtain ⟨c0, f0⟩ := HNB.out.facts
            go_wp2_with fail
            refine (Check_any l A9 cc _ (HMX.out.below HST.out.below) HSLv.out HSM.out).mono ?_
            rintro e w5 ⟨rfl, hb5⟩
            have HST5 := hide (HST.out.grow hb5)
            have HSL5 := hide ((Sl.ok RRdn.ok).mono HSLB.out (fun j hj => hb5.block j hj.2) (fun j hj => hj))
            have hs5 := hb5.size
            have hn5 := HNB.out.below hb5
            obtain ⟨q, hq⟩ : ∃ q, chkN l = q := ⟨_, rfl⟩
            rw [hq]
            have HQ := hide hq
            clear hb5 c0 f0 hq
            by_cases hq0 : q = 0
            · have HN := hide (show r = .ok l by rw [HR.out, HP.out, decNF, if_pos (HQ.out.trans hq0)])
              have ht : (q != 0) = false := by simp [hq0]
              obtain ⟨r0, g0⟩ := HST5.out.r.facts
              obtain ⟨d0, -⟩ := hn5.facts
              clear hq0
              go_wp2_with fail
              have hNB := ((HST5.out).r.store (.slice A9 l.length cc)).facts.1
              obtain ⟨W3, hW3⟩ : ∃ W3, W3 = w5.setCell ⟨w.heap.size, 0, none⟩ (.slice A9 l.length cc) := ⟨_, rfl⟩
              have hbz : Below w.heap.size w W3 := by rw [hW3]; exact (HST5.out).below.setCell (p := ⟨w.heap.size, 0, none⟩) (Nat.le_refl _) _
              have HSLz := hide (show Sl RRdn 1 W3 (Btw w.heap.size W3.heap.size) (toP r).2 [(.slice A9 l.length cc)] by rw [hW3, HN.out]; exact (Sl.ok RRdn.ok).mono HSL5.out (fun j hj => Below.heap_setCell w5 _ _ j (by have := hj.1; show j ≠ w.heap.size; omega)) (fun j hj => ⟨by have := hj.1; omega, by have := hj.2; simp; omega⟩))
              rw [← hW3] at hNB ⊢
              clear hW3
              exact bodyPost_ret (v := .tuple #[.agg #[(.slice A9 l.length cc)], .int .i64 0]) (by simp [results, Tryz.results49, go_sem, hNB]) rfl ⟨(.slice A9 l.length cc), by rw [HN.out]; rfl, HSLz.out, hbz, by rw [HN.out]; exact HSM.out⟩
            · have HN := hide (show r = .error q by rw [HR.out, HP.out, decNF, if_neg (by rw [HQ.out]; exact hq0), HQ.out])
              have ht : (q != 0) = true := by simp [hq0]
              clear hq0 hn5
              obtain ⟨r0, f0⟩ := (HST5.out).r.facts
              obtain ⟨n0, -⟩ := (HST5.out).n.facts
              go_wp2_with fail
              have hNB := ((HST5.out).r.store (.slice none 0 0)).facts.1
              obtain ⟨W3, hW3⟩ : ∃ W3, W3 = w5.setCell ⟨w.heap.size, 0, none⟩ (.slice none 0 0) := ⟨_, rfl⟩
              have hbz : Below w.heap.size w W3 := by rw [hW3]; exact (HST5.out).below.setCell (p := ⟨w.heap.size, 0, none⟩) (Nat.le_refl _) _
              have HSLz := hide (show Sl RRdn 1 W3 (Btw w.heap.size W3.heap.size) (toP r).2 [(.slice none 0 0)] by rw [hW3, HN.out]; exact Sl.nil _ _ _ _)
              rw [← hW3] at hNB ⊢
              clear hW3
              exact bodyPost_ret (v := .tuple #[.agg #[(.slice none 0 0)], .int .i64 q]) (by simp [results, Tryz.results49, go_sem, hNB]) rfl ⟨(.slice none 0 0), by rw [HN.out]; rfl, HSLz.out, hbz, by rw [HN.out]; (intro x hx; cases hx)⟩
    · have ht : ((t : Int) != 48) = true := bne_iff_ne.2 (fun e => h48 (Int.ofNat.inj e))
      have HN := hide (show r = .error 5 by rw [HRO2.out, openF, if_pos (by omega)]; rfl)
      clear h48
      obtain ⟨r0, f0⟩ := (HSTA.out).r.facts
      obtain ⟨n0, -⟩ := (HSTA.out).n.facts
      go_wp2_with fail
      have hNB := ((HSTA.out).r.store (.slice none 0 0)).facts.1
      obtain ⟨W3, hW3⟩ : ∃ W3, W3 = wA.setCell ⟨w.heap.size, 0, none⟩ (.slice none 0 0) := ⟨_, rfl⟩
      have hbz : Below w.heap.size w W3 := by rw [hW3]; exact (HSTA.out).below.setCell (p := ⟨w.heap.size, 0, none⟩) (Nat.le_refl _) _
      have HSLz := hide (show Sl RRdn 1 W3 (Btw w.heap.size W3.heap.size) (toP r).2 [(.slice none 0 0)] by rw [hW3, HN.out]; exact Sl.nil _ _ _ _)
      rw [← hW3] at hNB ⊢
      clear hW3
      exact bodyPost_ret (v := .tuple #[.agg #[(.slice none 0 0)], .int .i64 5]) (by simp [results, Tryz.results49, go_sem, hNB]) rfl ⟨(.slice none 0 0), by rw [HN.out]; rfl, HSLz.out, hbz, by rw [HN.out]; (intro x hx; cases hx)⟩
end Go.Proofs.YtmgnihmjjijdoaaGreatDoor
namespace Go.Proofs.YtmgnihmjjijdoaaGreatDoor
open Go.RowKit
end Go.Proofs.YtmgnihmjjijdoaaGreatDoor
