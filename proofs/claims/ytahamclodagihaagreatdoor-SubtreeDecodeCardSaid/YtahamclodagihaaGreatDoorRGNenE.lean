/- dname.Decode. -/
import Derived.Test.YtahamclodagihaaGreatDoorRGNenP
namespace Go.Proofs.YtahamclodagihaaGreatDoor
open Go.RowKit
def toP : Except Int Name → Int × Name
 | .error k => (k, [])
 | .ok n => (0, n)
theorem decR_err0 (e : Elt) : decR e ≠ .error 0 := by
  unfold decR
  cases hL : openF e.1 49 e.2.1 with
  | error k =>
    intro h
    simp only [decRG, Except.error.injEq] at h
    subst h
    exact openF_err0 hL
  | ok l =>
    rw [decRG, decRL]
    split
    · simp
    · exact mapE_err0 decA_err0 l
theorem decR_small {e : Elt} {r : List Attr} (h : decR e = .ok r) : SmallR r := by
  unfold decR at h
  cases hL : openF e.1 49 e.2.1 with
  | error k => rw [hL] at h; cases h
  | ok l =>
    rw [hL, decRG, decRL] at h
    split at h
    · cases h
    · intro a ha
      obtain ⟨x, _, hx⟩ := mapE_mem l r h a ha
      exact decA_small hx
structure NSt (w W : World) : Prop where
 below : Below w.heap.size w W
 r : NB w.heap.size (.slice none 0 0) W
 n : NB (w.heap.size + 1) (.slice none 0 0) W
theorem NSt.grow {w W W' : World} (h : NSt w W) (hb : Below W.heap.size W W') : NSt w W' := ⟨h.below.trans (hb.mono h.below.size), h.r.below hb, h.n.below hb⟩
theorem NSt.ex {w W W' : World} {d : Nat} (h : NSt w W) (hx : Ex d W W') (hd : w.heap.size + 2 ≤ d) : NSt w W' :=
 ⟨Ex.below h.below h.below.size (by omega) hx, (hx.at_ h.r.lt (by omega)).trans h.r, (hx.at_ h.n.lt (by omega)).trans h.n⟩
theorem NSt.base {w W W' : World} {B : Nat} (h : NSt w W) (hb : Below B W W') (hB : w.heap.size + 2 ≤ B) : NSt w W' :=
 ⟨h.below.trans (hb.mono (by omega)), (hb.block _ (by omega)).trans h.r, (hb.block _ (by omega)).trans h.n⟩
theorem two_names (w : World) : ∃ W, W = (w.alloc (.cells #[.slice none 0 0] 24)).alloc (.cells #[.slice none 0 0] 24) ∧ NSt w W ∧ W.heap.size = w.heap.size + 2 := by
 refine ⟨_, rfl, ⟨((Below.refl _ _).alloc (Nat.le_refl _) _).alloc (by simp) _, ?_, ?_⟩, by simp⟩
 ·unfold NB
  rw [Below.heap_alloc _ _ _ (by simp)]
  exact heap_alloc_new w _
 ·unfold NB
  rw [show w.heap.size + 1 = (w.alloc (.cells #[.slice none 0 0] 24)).heap.size by simp]
  exact heap_alloc_new _ _
set_option maxRecDepth 100000 in
set_option maxHeartbeats 16000000 in
theorem NDecodeB_any (s : ByteArray) (hs : s.size ≤ 1000000000) (w : World) (hmx : Mx w) (htb : Tb w) :
    Calls Tryz.prog 109 #[.string s] w (ParsePostB w (toP (decN s.data.toList))) := by
  obtain ⟨r, hr⟩ : ∃ r, decN s.data.toList = r := ⟨_, rfl⟩
  rw [hr]
  obtain ⟨oe, hoe⟩ : ∃ o, oneF s.data.toList = o := ⟨_, rfl⟩
  have HRO := hide (show r = decNO oe by rw [← hr, decN, hoe])
  have HOE := hide hoe
  have HMX := hide hmx
  have HTB := hide htb
  obtain ⟨W0, hW0, hst0, hz0⟩ := two_names w
  have HST0 := hide hst0
  clear hr hoe hmx htb hst0
  go_enter Tryz.func109, Tryz.ntmps109
  go_upto_region 2 with fail
  rw [← hW0]
  clear hW0
  go_wp2_with fail
  refine (One_any s hs _).mono ?_
  rintro e w1 ⟨rfl, hb1⟩
  rw [HOE.out]
  have HST1 := hide (HST0.out.grow hb1)
  have hs1 := hb1.size
  clear hb1
  cases oe with
  | error k =>
    have hk : k ≠ 0 := fun h => one_err0 _ (h ▸ HOE.out)
    have ht : (k != 0) = true := by simpa using hk
    have HN := hide (show r = .error k from HRO.out)
    rw [show oneR (.error k) = .tuple #[.agg #[.int .i64 0, .string ⟨#[]⟩, .string ⟨#[]⟩], .int .i64 k] from rfl]
    have hsA := HST1.out.grow ((Below.refl w1.heap.size w1).alloc (Nat.le_refl _) (.cells #[.int .i64 0, .string ⟨#[]⟩, .string ⟨#[]⟩] 72))
    clear hk
    go_upto_region 3 with fail
    obtain ⟨wA, hwA⟩ : ∃ W, W = w1.alloc (.cells #[.int .i64 0, .string ⟨#[]⟩, .string ⟨#[]⟩] 72) := ⟨_, rfl⟩
    rw [← hwA] at hsA ⊢
    clear hwA
    obtain ⟨r0, f0⟩ := (hsA).r.facts
    obtain ⟨n0, -⟩ := (hsA).n.facts
    go_wp2_with fail
    have hNB := ((hsA).r.store (.slice none 0 0)).facts.1
    obtain ⟨W3, hW3⟩ : ∃ W3, W3 = wA.setCell ⟨w.heap.size, 0, none⟩ (.slice none 0 0) := ⟨_, rfl⟩
    have hbz : Below w.heap.size w W3 := by rw [hW3]; exact (hsA).below.setCell (p := ⟨w.heap.size, 0, none⟩) (Nat.le_refl _) _
    have HSLz := hide (show Sl RRdn 1 W3 (Btw w.heap.size W3.heap.size) (toP r).2 [(.slice none 0 0)] by rw [hW3, HN.out]; exact Sl.nil _ _ _ _)
    rw [← hW3] at hNB ⊢
    clear hW3
    exact bodyPost_ret (v := .tuple #[.agg #[(.slice none 0 0)], .int .i64 k]) (by simp [results, Tryz.results109, go_sem, hNB]) rfl ⟨(.slice none 0 0), by rw [HN.out]; rfl, HSLz.out, hbz, by rw [HN.out]; (intro x hx; cases hx)⟩
  | ok p =>
    obtain ⟨t, c, raw⟩ := p
    have hw := one_is_wrap HOE.out
    have hcl : c.length ≤ 131072 := hw.2.2.1
    obtain ⟨x1, hx1⟩ : ∃ x : ByteArray, x = ⟨c.toArray⟩ := ⟨_, rfl⟩
    obtain ⟨x2, hx2⟩ : ∃ x : ByteArray, x = ⟨raw.toArray⟩ := ⟨_, rfl⟩
    have hx1d : c = x1.data.toList := by rw [hx1]
    rw [show oneR (.ok (t, c, raw)) = .tuple #[.agg #[.int .i64 (t : Int), .string x1, .string x2], .int .i64 0] by rw [oneR, eltV, hx1, hx2]]
    have HRO2 := hide (show r = decNG (openF (t : Int) 48 x1.data.toList) by rw [HRO.out, ← hx1d]; rfl)
    rw [hx1d, size_string] at hcl
    clear hw hx1 hx2 hx1d
    go_upto_region 3 with fail
    obtain ⟨wA, hwA⟩ : ∃ W, W = w1.alloc (.cells #[.int .i64 (t : Int), .string x1, .string x2] 72) := ⟨_, rfl⟩
    have n0 : wA.cell? ⟨w1.heap.size, 0, none⟩ = some (.int .i64 (t : Int)) := by rw [hwA, World.cell?_alloc_new]; rfl
    have n1 : wA.cell? ⟨w1.heap.size, 1, none⟩ = some (.string x1) := by rw [hwA, World.cell?_alloc_new]; rfl
    have HSTA := hide (show NSt w wA by rw [hwA]; exact HST1.out.grow ((Below.refl _ _).alloc (Nat.le_refl _) _))
    have hzA : wA.heap.size = w1.heap.size + 1 := by rw [hwA]; simp
    have hzA2 : w.heap.size + 2 ≤ wA.heap.size := by omega
    rw [← hwA]
    clear hwA hzA hs1
    by_cases h48 : t = 48
    · have ht : ((t : Int) != 48) = false := by rw [h48]; rfl
      obtain ⟨ol, hol⟩ : ∃ o, listF x1.data.toList = o := ⟨_, rfl⟩
      have HR0 := hide (show r = decNG ol by rw [HRO2.out, openF, if_neg (by omega), hol])
      have HOL := hide hol
      clear h48 hol
      go_wp2_with fail
      refine (List_any x1 (by omega) _).mono ?_
      rintro e wL ⟨hbL, hres⟩
      rw [HOL.out] at hres
      have HSTL := hide (HSTA.out.grow hbL)
      have hzL := hbL.size
      clear hbL n0 n1
      cases ol with
      | error k =>
        obtain rfl : e = _ := hres
        have hk : k ≠ 0 := fun h => list_err0 _ _ (Nat.le_refl _) (h ▸ HOL.out)
        have ht2 : (k != 0) = true := by simpa using hk
        have HN := hide (show r = .error k from HR0.out)
        clear hk
        obtain ⟨r0, f0⟩ := (HSTL.out).r.facts
        obtain ⟨n0, -⟩ := (HSTL.out).n.facts
        go_wp2_with fail
        have hNB := ((HSTL.out).r.store (.slice none 0 0)).facts.1
        obtain ⟨W3, hW3⟩ : ∃ W3, W3 = wL.setCell ⟨w.heap.size, 0, none⟩ (.slice none 0 0) := ⟨_, rfl⟩
        have hbz : Below w.heap.size w W3 := by rw [hW3]; exact (HSTL.out).below.setCell (p := ⟨w.heap.size, 0, none⟩) (Nat.le_refl _) _
        have HSLz := hide (show Sl RRdn 1 W3 (Btw w.heap.size W3.heap.size) (toP r).2 [(.slice none 0 0)] by rw [hW3, HN.out]; exact Sl.nil _ _ _ _)
        rw [← hW3] at hNB ⊢
        clear hW3
        exact bodyPost_ret (v := .tuple #[.agg #[(.slice none 0 0)], .int .i64 k]) (by simp [results, Tryz.results109, go_sem, hNB]) rfl ⟨(.slice none 0 0), by rw [HN.out]; rfl, HSLz.out, hbz, by rw [HN.out]; (intro x hx; cases hx)⟩
      | ok L =>
        obtain ⟨A, cp, rfl, hsl⟩ := hres
        obtain ⟨-, hlc, hcm⟩ := hsl.len_
        unfold maxLen at hcm
        have hL := list_len _ _ _ (Nat.le_refl _) HOL.out
        rw [size_string] at hL
        have hL : L.length ≤ 131072 := Nat.le_trans hL hcl
        have HMM := hide (fun e (he : e ∈ L) => (list_is_wrap _ _ _ (Nat.le_refl _) HOL.out e he).2.2.1)
        have HML := hide (fun (k : Nat) (h : k < L.length) => HMM.out L[k] (List.getElem_mem h))
        have HR := hide (show r = decNF (mapE decR L) from HR0.out)
        have H0 := hide (show mapE decR L = preE [] (mapE decR (L.drop 0)) by rw [List.drop_zero, preE_nil])
        obtain ⟨wM, hwM⟩ : ∃ W, W = wL.alloc (.cells #[.slice none 0 0] 24) := ⟨_, rfl⟩
        obtain ⟨gN, hgN⟩ : ∃ g, wL.heap.size = g := ⟨_, rfl⟩
        have hbM : Below wL.heap.size wL wM := by rw [hwM]; exact (Below.refl _ _).alloc (Nat.le_refl _) _
        have hnbN : NB gN (.slice none 0 0) wM := by rw [hwM, ← hgN]; exact heap_alloc_new wL _
        have HSL := hide (show Sl RElt 3 wM (Lt gN) L [.slice A L.length cp] from (Sl.ok RElt.ok).mono hsl (fun j hj => hbM.block j hj.2) (fun j hj => by rw [← hgN]; exact hj.2))
        have HSTM := hide (HSTL.out.grow hbM)
        have HNBN := hide hnbN
        obtain ⟨base, hbase⟩ : ∃ b, b = wM.heap.size := ⟨_, rfl⟩
        have HBASE := hide hbase
        have hzM : wM.heap.size = gN + 1 := by rw [hwM]; simp [hgN]
        have hgb : gN < base := by omega
        have hgw : w.heap.size + 2 ≤ gN := by omega
        have hgs0 : base ≤ wM.heap.size := by omega
        clear hsl ht hbM hnbN hbase hzM hzL hzA2
        go_upto_region 11 with fail
        rw [← hwM]
        clear hwM hgN
        go_wp2_with fail
        go_loopw [39] (fun i wr => ∃ (k : Nat) (l : Name) (v : Value) (S : Nat → Prop), k ≤ L.length ∧ l.length = k ∧ i = .int .i64 k ∧ NSt w wr ∧ Ex gN wM wr ∧ base ≤ wr.heap.size ∧ NB gN v wr ∧ Own RRdn 1 33 wr base S v l ∧
          (∀ j, S j → base ≤ j ∧ j < wr.heap.size) ∧ SmallN l ∧ Hid (mapE decR L = preE l (mapE decR (L.drop k)))) (fun i _ => L.length - (intOf i).toNat)
        case atStart => exact ⟨0, [], _, No, by omega, rfl, rfl, HSTM.out, Ex.refl _ _, hgs0, HNBN.out, Own.nil _ _ _ _ _ _, fun j h => h.elim, (fun x hx => by cases hx), H0⟩
        case round =>
          obtain ⟨k, l, v, S, hk, hlk, rfl, hst, hex, hgs, hnb, hown, hS, hsm, H⟩ := hrel
          have HLK := hide hlk
          have hlk2 : l.length ≤ k := by omega
          have HST := hide hst
          have HNB := hide hnb
          have HEX := hide hex
          have HOWN := hide hown
          have HS := hide hS
          have HSM := hide hsm
          clear hlk hst hnb hex hown hS hsm
          by_cases hlt : k < L.length
          · obtain ⟨b, off, hA, hbS, e0, e1, e2⟩ := HSL.out.eltAt hlt
            subst hA
            have hcl2 := HML.out k hlt
            have HPS := hide (fun (x : List Attr) (h : decR L[k] = .ok x) => H.out.trans (preE_at hlt h))
            have HPN := hide (fun (e : Int) (h : decR L[k] = .error e) => H.out.trans (preE_err hlt h))
            obtain ⟨⟨et, ec, er⟩, hel⟩ : ∃ e, L[k] = e := ⟨_, rfl⟩
            rw [hel] at e0 e1 e2 hcl2 HPS HPN
            simp only at e0 e1 e2 hcl2
            obtain ⟨z1, hz1⟩ : ∃ x : ByteArray, x = ⟨ec.toArray⟩ := ⟨_, rfl⟩
            obtain ⟨z2, hz2⟩ : ∃ x : ByteArray, x = ⟨er.toArray⟩ := ⟨_, rfl⟩
            have hz1d : ec = z1.data.toList := by rw [hz1]
            have hz2d : er = z2.data.toList := by rw [hz2]
            rw [← hz1] at e1
            rw [← hz2] at e2
            rw [hz1d] at hcl2
            rw [size_string] at hcl2
            rw [hz1d, hz2d] at HPS HPN
            obtain ⟨o, ho⟩ : ∃ o, decR (et, z1.data.toList, z2.data.toList) = o := ⟨_, rfl⟩
            rw [ho] at HPS HPN
            have HO := hide ho
            have hbg : b < gN := hbS
            have hbM : b < wM.heap.size := by have := HNBN.out.lt; omega
            have hbne : b ≠ gN := by omega
            have p0 := (HEX.out.cell (p := ⟨b, off + k * 3, none⟩) hbM hbne).trans e0
            have p1 := (HEX.out.cell (p := ⟨b, off + k * 3 + 1, none⟩) hbM hbne).trans e1
            have p2 := (HEX.out.cell (p := ⟨b, off + k * 3 + 2, none⟩) hbM hbne).trans e2
            clear e0 e1 e2 hz1 hz2 hel hz1d hz2d ho
            obtain ⟨wo, rfl⟩ : ∃ wo : World, wo = wr := ⟨_, rfl⟩
            go_upto_region 14 with fail
            obtain ⟨wB, hwB⟩ : ∃ W, W = wo.alloc (.cells #[.int .i64 (et : Int), .string z1, .string z2] 72) := ⟨_, rfl⟩
            have q0 : wB.cell? ⟨wo.heap.size, 0, none⟩ = some (.int .i64 (et : Int)) := by rw [hwB, World.cell?_alloc_new]; rfl
            have q1 : wB.cell? ⟨wo.heap.size, 1, none⟩ = some (.string z1) := by rw [hwB, World.cell?_alloc_new]; rfl
            have q2 : wB.cell? ⟨wo.heap.size, 2, none⟩ = some (.string z2) := by rw [hwB, World.cell?_alloc_new]; rfl
            have HBB := hide (show Below wo.heap.size wo wB by rw [hwB]; exact (Below.refl _ _).alloc (Nat.le_refl _) _)
            have hzB : wB.heap.size = wo.heap.size + 1 := by rw [hwB]; simp
            rw [← hwB]
            clear hwB p0 p1 p2
            obtain ⟨gx, hgx⟩ : ∃ g, wo.heap.size = g := ⟨_, rfl⟩
            have HGX := hide hgx
            rw [hgx] at q0 q1 q2 ⊢
            clear hgx
            go_wp2_with fail
            refine (decRel_any et z1 z2 hcl2 _ (HTB.out.below (HST.out.grow HBB.out).below)).mono ?_
            rintro e w5 ⟨hb5, hres⟩
            rw [HO.out] at hres
            have hbwi := HBB.out.trans (hb5.mono HBB.out.size)
            have hsz5 := hb5.size
            clear q0 q1 q2
            cases o with
            | error k9 =>
              obtain rfl : e = _ := hres
              have hk9 : k9 ≠ 0 := fun h => decR_err0 _ (h ▸ HO.out)
              have ht : (k9 != 0) = true := by simpa using hk9
              have HN := hide (show r = .error k9 by rw [HR.out, HPN.out k9 rfl]; rfl)
              have HST5 := hide (HST.out.grow hbwi)
              clear hk9 hb5 hbwi
              obtain ⟨r0, f0⟩ := (HST5.out).r.facts
              obtain ⟨n0, -⟩ := (HST5.out).n.facts
              go_wp2_with fail
              have hNB := ((HST5.out).r.store (.slice none 0 0)).facts.1
              obtain ⟨W3, hW3⟩ : ∃ W3, W3 = w5.setCell ⟨w.heap.size, 0, none⟩ (.slice none 0 0) := ⟨_, rfl⟩
              have hbz : Below w.heap.size w W3 := by rw [hW3]; exact (HST5.out).below.setCell (p := ⟨w.heap.size, 0, none⟩) (Nat.le_refl _) _
              have HSLz := hide (show Sl RRdn 1 W3 (Btw w.heap.size W3.heap.size) (toP r).2 [(.slice none 0 0)] by rw [hW3, HN.out]; exact Sl.nil _ _ _ _)
              rw [← hW3] at hNB ⊢
              clear hW3
              exact bodyPost_ret (v := .tuple #[.agg #[(.slice none 0 0)], .int .i64 k9]) (by simp [results, Tryz.results109, go_sem, hNB]) rfl ⟨(.slice none 0 0), by rw [HN.out]; rfl, HSLz.out, hbz, by rw [HN.out]; (intro x hx; cases hx)⟩
            | ok rr =>
              obtain ⟨A6, c7, rfl, hsl5⟩ := hres
              have HSMR := hide (decR_small HO.out)
              have HY := hide (show mapE decR L = preE (l ++ [rr]) (mapE decR (L.drop (k + 1))) from HPS.out _ rfl)
              obtain ⟨S', hS'⟩ : ∃ S' : Nat → Prop, S' = fun j => S j ∨ (wB.heap.size ≤ j ∧ j < w5.heap.size) := ⟨_, rfl⟩
              have hS1 : ∀ j, S j → S' j := fun j hj => by rw [hS']; exact .inl hj
              have hS2 : ∀ j, S' j → base ≤ j ∧ j < w5.heap.size := fun j hj => by
                rw [hS'] at hj
                rcases hj with hj | hj
                · have := HS.out j hj; omega
                · omega
              have hnoS : ∀ g, v.ownBlock = some g → ¬ S' g := fun g hg hh => by
                rw [hS'] at hh
                have hlt := (HOWN.out.lt g hg).2
                rcases hh with hh | hh
                · obtain ⟨_, _, h2, _⟩ := HOWN.out
                  exact h2 g hg hh
                · omega
              have hownO := ((HOWN.out.below RRdn.ok (fun j hj => (HS.out j hj).2) hbwi).more RRdn.ok hS1 hnoS)
              have hownA := hownO.alloc RRdn.ok (fun j hj => (hS2 j hj).2) (.cells #[.slice A6 rr.length c7] 33)
              have hgA : ∀ j, S' j → j < (w5.alloc (.cells #[.slice A6 rr.length c7] 33)).heap.size := fun j hj => by have := (hS2 j hj).2; simp; omega
              have hnew : Sl RAttr 3 (w5.alloc (.cells #[.slice A6 rr.length c7] 33)) S' rr [.slice A6 rr.length c7] := (Sl.ok RAttr.ok).mono hsl5 (fun j hj => Below.heap_alloc _ _ j hj.2) (fun j hj => by rw [hS']; exact .inr hj)
              have HNEW := hide (news_one (R := RRdn) hnew)
              have hbA : Below wo.heap.size wo (w5.alloc (.cells #[.slice A6 rr.length c7] 33)) := hbwi.alloc (by omega) _
              have hnbA := HNB.out.below hbA
              have HNA := hide (fun W (h : Below base (w5.alloc (.cells #[.slice A6 rr.length c7] 33)) W) => (show NB gN v W from (h.block gN hgb).trans hnbA))
              have c0 := (HNB.out.below hbwi).facts.1
              have HBA := hide hbA
              have HOA := hide hownA
              have HS2 := hide hS2
              have hbz : base ≤ (w5.alloc (.cells #[.slice A6 rr.length c7] 33)).heap.size := by simp; omega
              clear hsl5 hb5 hbwi hS' hS1 hS2 hnoS hownO hownA hnew hbA hnbA
              go_wp2_with (at_builtin; refine wpList_app RRdn.ok _ rfl (.tmp 53) (.tmp 55) 22 rfl base 33 (.slice none 0 0) 24 Tryz.underlying22 info_rdn rfl (by decide) S' _ l rfl HOA.out ⟨_, 0, none⟩ 1 1 [rr] rfl rfl HNEW.out hgA (by simp; omega) (by simp [maxLen]; omega) hbz ?_; intro v6 w6 hown6 hg6 hb6 hat6; obtain ⟨c6, f6⟩ := (HNA.out _ hb6).facts; have hsz6 := hb6.size; obtain ⟨A8, c8, hv8⟩ := (hown6.sl RRdn.ok).shape; obtain ⟨n8, hn8⟩ : ∃ n8, (l ++ [rr]).length = n8 := ⟨_, rfl⟩; rw [hn8] at hv8; subst hv8; clear hn8)
              have hsz7 : w5.heap.size + 1 ≤ w6.heap.size := by simpa using hsz6
              have hexf : Ex gN wM w6 := (HEX.out.then_ HBA.out).then_base (HBASE.out ▸ hb6)
              have hst6 := (HST.out.grow HBA.out).base hb6 (by omega)
              have hn6 := HNA.out _ hb6
              go_roundw
              case rel => exact ⟨k + 1, l ++ [rr], _, S', by omega, by simp [HLK.out], by go_num, hst6.ex (Ex.set gN 0 w6 _) hgw, hexf.trans (Ex.set gN 0 w6 _), by simp; omega, hn6.store _, hown6.other RRdn.ok (fun j hj => (HS2.out j hj).1) hgb _, fun j hj => ⟨(HS2.out j hj).1, by have := (HS2.out j hj).2; simp; omega⟩, (fun x hx => by
                rcases List.mem_append.1 hx with hx | hx
                · exact HSM.out x hx
                · simp at hx; subst hx; exact HSMR.out), HY⟩
              case measure => simp [intOf]; omega
          · have HP := hide (show mapE decR L = .ok l by rw [H.out, List.drop_of_length_le (by omega)]; simp [preE, mapE])
            have hsl := (Sl.ok RRdn.ok).mono (HOWN.out.sl RRdn.ok) (fun _ _ => rfl) (S' := Lt wr.heap.size) (fun j hj => by rcases hj with hj | hj; exact (HS.out j hj).2; exact hj.2)
            have hslB := (Sl.ok RRdn.ok).mono (HOWN.out.sl RRdn.ok) (fun _ _ => rfl) (S' := fun j => base ≤ j ∧ j < wr.heap.size) (fun j hj => by rcases hj with hj | hj; exact HS.out j hj; exact hj)
            obtain ⟨A9, cc, hv⟩ := hsl.shape
            subst hv
            have HSLv := hide hsl
            have HSLB := hide hslB
            clear hslB
            clear hsl
            obtain ⟨c0, f0⟩ := HNB.out.facts
            go_wp2_with fail
            refine (Check_any l A9 cc _ (HMX.out.below HST.out.below) HSLv.out HSM.out).mono ?_
            rintro e w5 ⟨rfl, hb5⟩
            have HST5 := hide (HST.out.grow hb5)
            have HSL5 := hide ((Sl.ok RRdn.ok).mono HSLB.out (fun j hj => hb5.block j hj.2) (fun j hj => hj))
            have hs5 := hb5.size
            have hn5 := HNB.out.below hb5
            obtain ⟨q, hq⟩ : ∃ q, chkN l = q := ⟨_, rfl⟩
            rw [hq]
            have HQ := hide hq
            clear hb5 c0 f0 hq
            by_cases hq0 : q = 0
            · have HN := hide (show r = .ok l by rw [HR.out, HP.out, decNF, if_pos (HQ.out.trans hq0)])
              have ht : (q != 0) = false := by simp [hq0]
              obtain ⟨r0, g0⟩ := HST5.out.r.facts
              obtain ⟨d0, -⟩ := hn5.facts
              clear hq0
              go_wp2_with fail
              have hNB := ((HST5.out).r.store (.slice A9 l.length cc)).facts.1
              obtain ⟨W3, hW3⟩ : ∃ W3, W3 = w5.setCell ⟨w.heap.size, 0, none⟩ (.slice A9 l.length cc) := ⟨_, rfl⟩
              have hbz : Below w.heap.size w W3 := by rw [hW3]; exact (HST5.out).below.setCell (p := ⟨w.heap.size, 0, none⟩) (Nat.le_refl _) _
              have HSLz := hide (show Sl RRdn 1 W3 (Btw w.heap.size W3.heap.size) (toP r).2 [(.slice A9 l.length cc)] by rw [hW3, HN.out]; exact (Sl.ok RRdn.ok).mono HSL5.out (fun j hj => Below.heap_setCell w5 _ _ j (by have := hj.1; show j ≠ w.heap.size; omega)) (fun j hj => ⟨by have := hj.1; omega, by have := hj.2; simp; omega⟩))
              rw [← hW3] at hNB ⊢
              clear hW3
              exact bodyPost_ret (v := .tuple #[.agg #[(.slice A9 l.length cc)], .int .i64 0]) (by simp [results, Tryz.results109, go_sem, hNB]) rfl ⟨(.slice A9 l.length cc), by rw [HN.out]; rfl, HSLz.out, hbz, by rw [HN.out]; exact HSM.out⟩
            · have HN := hide (show r = .error q by rw [HR.out, HP.out, decNF, if_neg (by rw [HQ.out]; exact hq0), HQ.out])
              have ht : (q != 0) = true := by simp [hq0]
              clear hq0 hn5
              obtain ⟨r0, f0⟩ := (HST5.out).r.facts
              obtain ⟨n0, -⟩ := (HST5.out).n.facts
              go_wp2_with fail
              have hNB := ((HST5.out).r.store (.slice none 0 0)).facts.1
              obtain ⟨W3, hW3⟩ : ∃ W3, W3 = w5.setCell ⟨w.heap.size, 0, none⟩ (.slice none 0 0) := ⟨_, rfl⟩
              have hbz : Below w.heap.size w W3 := by rw [hW3]; exact (HST5.out).below.setCell (p := ⟨w.heap.size, 0, none⟩) (Nat.le_refl _) _
              have HSLz := hide (show Sl RRdn 1 W3 (Btw w.heap.size W3.heap.size) (toP r).2 [(.slice none 0 0)] by rw [hW3, HN.out]; exact Sl.nil _ _ _ _)
              rw [← hW3] at hNB ⊢
              clear hW3
              exact bodyPost_ret (v := .tuple #[.agg #[(.slice none 0 0)], .int .i64 q]) (by simp [results, Tryz.results109, go_sem, hNB]) rfl ⟨(.slice none 0 0), by rw [HN.out]; rfl, HSLz.out, hbz, by rw [HN.out]; (intro x hx; cases hx)⟩
    · have ht : ((t : Int) != 48) = true := bne_iff_ne.2 (fun e => h48 (Int.ofNat.inj e))
      have HN := hide (show r = .error 5 by rw [HRO2.out, openF, if_pos (by omega)]; rfl)
      clear h48
      obtain ⟨r0, f0⟩ := (HSTA.out).r.facts
      obtain ⟨n0, -⟩ := (HSTA.out).n.facts
      go_wp2_with fail
      have hNB := ((HSTA.out).r.store (.slice none 0 0)).facts.1
      obtain ⟨W3, hW3⟩ : ∃ W3, W3 = wA.setCell ⟨w.heap.size, 0, none⟩ (.slice none 0 0) := ⟨_, rfl⟩
      have hbz : Below w.heap.size w W3 := by rw [hW3]; exact (HSTA.out).below.setCell (p := ⟨w.heap.size, 0, none⟩) (Nat.le_refl _) _
      have HSLz := hide (show Sl RRdn 1 W3 (Btw w.heap.size W3.heap.size) (toP r).2 [(.slice none 0 0)] by rw [hW3, HN.out]; exact Sl.nil _ _ _ _)
      rw [← hW3] at hNB ⊢
      clear hW3
      exact bodyPost_ret (v := .tuple #[.agg #[(.slice none 0 0)], .int .i64 5]) (by simp [results, Tryz.results109, go_sem, hNB]) rfl ⟨(.slice none 0 0), by rw [HN.out]; rfl, HSLz.out, hbz, by rw [HN.out]; (intro x hx; cases hx)⟩
end Go.Proofs.YtahamclodagihaaGreatDoor
namespace Go.Proofs.YtahamclodagihaaGreatDoor
open Go.RowKit
set_option maxRecDepth 100000 in
set_option maxHeartbeats 16000000 in
theorem rNDecodeB_any (s : ByteArray) (hs : s.size ≤ 1000000000) (w : World) (hmx : Mx w) (htb : Tb w) :
    Calls Tryz.prog 207 #[.string s] w (ParsePostB w (toP (decN s.data.toList))) := by
  obtain ⟨r, hr⟩ : ∃ r, decN s.data.toList = r := ⟨_, rfl⟩
  rw [hr]
  obtain ⟨oe, hoe⟩ : ∃ o, oneF s.data.toList = o := ⟨_, rfl⟩
  have HRO := hide (show r = decNO oe by rw [← hr, decN, hoe])
  have HOE := hide hoe
  have HMX := hide hmx
  have HTB := hide htb
  obtain ⟨W0, hW0, hst0, hz0⟩ := two_names w
  have HST0 := hide hst0
  clear hr hoe hmx htb hst0
  go_enter Tryz.func207, Tryz.ntmps207
  go_upto_region 2 with fail
  rw [← hW0]
  clear hW0
  go_wp2_with fail
  refine (rOne_any s hs _).mono ?_
  rintro e w1 ⟨rfl, hb1⟩
  rw [HOE.out]
  have HST1 := hide (HST0.out.grow hb1)
  have hs1 := hb1.size
  clear hb1
  cases oe with
  | error k =>
    have hk : k ≠ 0 := fun h => one_err0 _ (h ▸ HOE.out)
    have ht : (k != 0) = true := by simpa using hk
    have HN := hide (show r = .error k from HRO.out)
    rw [show oneR (.error k) = .tuple #[.agg #[.int .i64 0, .string ⟨#[]⟩, .string ⟨#[]⟩], .int .i64 k] from rfl]
    have hsA := HST1.out.grow ((Below.refl w1.heap.size w1).alloc (Nat.le_refl _) (.cells #[.int .i64 0, .string ⟨#[]⟩, .string ⟨#[]⟩] 72))
    clear hk
    go_upto_region 3 with fail
    obtain ⟨wA, hwA⟩ : ∃ W, W = w1.alloc (.cells #[.int .i64 0, .string ⟨#[]⟩, .string ⟨#[]⟩] 72) := ⟨_, rfl⟩
    rw [← hwA] at hsA ⊢
    clear hwA
    obtain ⟨r0, f0⟩ := (hsA).r.facts
    obtain ⟨n0, -⟩ := (hsA).n.facts
    go_wp2_with fail
    have hNB := ((hsA).r.store (.slice none 0 0)).facts.1
    obtain ⟨W3, hW3⟩ : ∃ W3, W3 = wA.setCell ⟨w.heap.size, 0, none⟩ (.slice none 0 0) := ⟨_, rfl⟩
    have hbz : Below w.heap.size w W3 := by rw [hW3]; exact (hsA).below.setCell (p := ⟨w.heap.size, 0, none⟩) (Nat.le_refl _) _
    have HSLz := hide (show Sl RRdn 1 W3 (Btw w.heap.size W3.heap.size) (toP r).2 [(.slice none 0 0)] by rw [hW3, HN.out]; exact Sl.nil _ _ _ _)
    rw [← hW3] at hNB ⊢
    clear hW3
    exact bodyPost_ret (v := .tuple #[.agg #[(.slice none 0 0)], .int .i64 k]) (by simp [results, Tryz.results207, go_sem, hNB]) rfl ⟨(.slice none 0 0), by rw [HN.out]; rfl, HSLz.out, hbz, by rw [HN.out]; (intro x hx; cases hx)⟩
  | ok p =>
    obtain ⟨t, c, raw⟩ := p
    have hw := one_is_wrap HOE.out
    have hcl : c.length ≤ 131072 := hw.2.2.1
    obtain ⟨x1, hx1⟩ : ∃ x : ByteArray, x = ⟨c.toArray⟩ := ⟨_, rfl⟩
    obtain ⟨x2, hx2⟩ : ∃ x : ByteArray, x = ⟨raw.toArray⟩ := ⟨_, rfl⟩
    have hx1d : c = x1.data.toList := by rw [hx1]
    rw [show oneR (.ok (t, c, raw)) = .tuple #[.agg #[.int .i64 (t : Int), .string x1, .string x2], .int .i64 0] by rw [oneR, eltV, hx1, hx2]]
    have HRO2 := hide (show r = decNG (openF (t : Int) 48 x1.data.toList) by rw [HRO.out, ← hx1d]; rfl)
    rw [hx1d, size_string] at hcl
    clear hw hx1 hx2 hx1d
    go_upto_region 3 with fail
    obtain ⟨wA, hwA⟩ : ∃ W, W = w1.alloc (.cells #[.int .i64 (t : Int), .string x1, .string x2] 72) := ⟨_, rfl⟩
    have n0 : wA.cell? ⟨w1.heap.size, 0, none⟩ = some (.int .i64 (t : Int)) := by rw [hwA, World.cell?_alloc_new]; rfl
    have n1 : wA.cell? ⟨w1.heap.size, 1, none⟩ = some (.string x1) := by rw [hwA, World.cell?_alloc_new]; rfl
    have n2 : wA.cell? ⟨w1.heap.size, 2, none⟩ = some (.string x2) := by rw [hwA, World.cell?_alloc_new]; rfl
    have HSTA := hide (show NSt w wA by rw [hwA]; exact HST1.out.grow ((Below.refl _ _).alloc (Nat.le_refl _) _))
    have hzA : wA.heap.size = w1.heap.size + 1 := by rw [hwA]; simp
    have hzA2 : w.heap.size + 2 ≤ wA.heap.size := by omega
    rw [← hwA]
    clear hwA hzA hs1
    obtain ⟨ol, hol⟩ : ∃ o, openF (t : Int) 48 x1.data.toList = o := ⟨_, rfl⟩
    have HR0 := hide (show r = decNG ol by rw [HRO2.out, hol])
    have HOL := hide hol
    clear hol
    go_wp2_with fail
    refine (Open_any (t : Int) 48 x1 x2 (by omega) _).mono ?_
    rintro e wL ⟨hbL, hres⟩
    rw [HOL.out] at hres
    have HSTL := hide (HSTA.out.grow hbL)
    have hzL := hbL.size
    clear hbL n0 n1 n2
    cases ol with
    | error k =>
      obtain rfl : e = _ := hres
      have hk : k ≠ 0 := fun h => openF_err0 (h ▸ HOL.out)
      have ht2 : (k != 0) = true := by simpa using hk
      have HN := hide (show r = .error k from HR0.out)
      have hsB := HSTL.out.grow ((Below.refl wL.heap.size wL).alloc (Nat.le_refl _) (.cells #[.slice none 0 0, .int .i64 0] 120))
      go_upto_region 6 with fail
      obtain ⟨wB, hwB⟩ : ∃ W, W = wL.alloc (.cells #[.slice none 0 0, .int .i64 0] 120) := ⟨_, rfl⟩
      rw [← hwB] at hsB ⊢
      clear hk hwB
      obtain ⟨r0, f0⟩ := (hsB).r.facts
      obtain ⟨n0, -⟩ := (hsB).n.facts
      go_wp2_with fail
      have hNB := ((hsB).r.store (.slice none 0 0)).facts.1
      obtain ⟨W3, hW3⟩ : ∃ W3, W3 = wB.setCell ⟨w.heap.size, 0, none⟩ (.slice none 0 0) := ⟨_, rfl⟩
      have hbz : Below w.heap.size w W3 := by rw [hW3]; exact (hsB).below.setCell (p := ⟨w.heap.size, 0, none⟩) (Nat.le_refl _) _
      have HSLz := hide (show Sl RRdn 1 W3 (Btw w.heap.size W3.heap.size) (toP r).2 [(.slice none 0 0)] by rw [hW3, HN.out]; exact Sl.nil _ _ _ _)
      rw [← hW3] at hNB ⊢
      clear hW3
      exact bodyPost_ret (v := .tuple #[.agg #[(.slice none 0 0)], .int .i64 k]) (by simp [results, Tryz.results207, go_sem, hNB]) rfl ⟨(.slice none 0 0), by rw [HN.out]; rfl, HSLz.out, hbz, by rw [HN.out]; (intro x hx; cases hx)⟩
    | ok Lo =>
      obtain ⟨A, cp, rfl, hsl⟩ := hres
      obtain ⟨-, hlc, hcm⟩ := hsl.len_
      unfold maxLen at hcm
      have hok := open_ok (t := 48) HOL.out
      have hLo := list_len _ _ _ (Nat.le_refl _) hok.2.1
      rw [size_string] at hLo
      have hLo : Lo.length ≤ 131072 := Nat.le_trans hLo hcl
      have HMLo := hide (fun (k : Nat) (h : k < Lo.length) => (hok.2.2.2 Lo[k] (List.getElem_mem h)).2.2.1)
      have HRo := hide (show r = decNF (mapE decR Lo) from HR0.out)
      have H0 := hide (show mapE decR Lo = preE [] (mapE decR (Lo.drop 0)) by rw [List.drop_zero, preE_nil])
      obtain ⟨wF, hwF⟩ : ∃ W, W = wL.alloc (.cells #[.slice A Lo.length cp, .int .i64 0] 120) := ⟨_, rfl⟩
      obtain ⟨wM, hwM⟩ : ∃ W, W = wF.alloc (.cells #[.slice none 0 0] 24) := ⟨_, rfl⟩
      obtain ⟨gF, hgF⟩ : ∃ g, wL.heap.size = g := ⟨_, rfl⟩
      obtain ⟨gN, hgN⟩ : ∃ g, wF.heap.size = g := ⟨_, rfl⟩
      have hzF : wF.heap.size = wL.heap.size + 1 := by rw [hwF]; simp
      have hbF : Below wL.heap.size wL wF := by rw [hwF]; exact (Below.refl _ _).alloc (Nat.le_refl _) _
      have hbM : Below wF.heap.size wF wM := by rw [hwM]; exact (Below.refl _ _).alloc (Nat.le_refl _) _
      have hbFM := hbF.trans (hbM.mono hbF.size)
      have hnbN : NB gN (.slice none 0 0) wM := by rw [hwM, ← hgN]; exact heap_alloc_new wF _
      have hfc : wF.cell? ⟨gF, 0, none⟩ = some (.slice A Lo.length cp) := by rw [hwF, ← hgF, World.cell?_alloc_new]; rfl
      have hfc2 : wM.cell? ⟨gF, 0, none⟩ = some (.slice A Lo.length cp) := (hbM.cell (p := ⟨gF, 0, none⟩) (by show gF < _; omega)).trans hfc
      have HSLo := hide (show Sl RElt 3 wM (Lt gF) Lo [.slice A Lo.length cp] from (Sl.ok RElt.ok).mono hsl (fun j hj => hbFM.block j hj.2) (fun j hj => by rw [← hgF]; exact hj.2))
      have HSTM := hide (HSTL.out.grow hbFM)
      have HNBN := hide hnbN
      obtain ⟨baseo, hbaseo⟩ : ∃ b, b = wM.heap.size := ⟨_, rfl⟩
      have HBASEo := hide hbaseo
      have hzM : wM.heap.size = gN + 1 := by rw [hwM]; simp [hgN]
      have hgb : gN < baseo := by omega
      have hgFN : gF < gN := by omega
      have hgw : w.heap.size + 2 ≤ gF := by omega
      have hgs0 : baseo ≤ wM.heap.size := by omega
      have HGN := hide (show wL.heap.size + 1 = gN by omega)
      have HGF := hide hgF
      clear hsl hbF hbM hbFM hnbN hbaseo hzM hzL hzA2 hzF hok hgF hgN
      go_upto_region 9 with fail
      rw [← hwF]
      rw [← hwM, HGN.out, HGF.out]
      clear hwM hwF
      go_wp2_with fail
      go_loopw [42] (fun i wr => ∃ (k : Nat) (l : Name) (v : Value) (S : Nat → Prop), k ≤ Lo.length ∧ l.length = k ∧ i = .int .i64 k ∧ NSt w wr ∧ Ex gN wM wr ∧ baseo ≤ wr.heap.size ∧ NB gN v wr ∧ Own RRdn 1 33 wr baseo S v l ∧
        (∀ j, S j → baseo ≤ j ∧ j < wr.heap.size) ∧ SmallN l ∧ Hid (mapE decR Lo = preE l (mapE decR (Lo.drop k)))) (fun i _ => Lo.length - (intOf i).toNat)
      case atStart => exact ⟨0, [], _, No, by omega, rfl, rfl, HSTM.out, Ex.refl _ _, hgs0, HNBN.out, Own.nil _ _ _ _ _ _, fun j h => h.elim, (fun x hx => by cases hx), H0⟩
      case round =>
        obtain ⟨ko, l, v, S, hko, hlk, rfl, hst, hex, hgs, hnb, hown, hS, hsm, H⟩ := hrel
        have HLK := hide hlk
        have hlk2 : l.length ≤ ko := by omega
        have HST := hide hst
        have HNB := hide hnb
        have HEX := hide hex
        have HOWNo := hide hown
        have HS := hide hS
        have HSM := hide hsm
        have hgso := hgs
        clear hlk hst hnb hex hown hS hsm hgs
        by_cases hlt : ko < Lo.length
        · obtain ⟨b, off, hA, hbS, e0, e1, e2⟩ := HSLo.out.eltAt hlt
          subst hA
          have hcl2 := HMLo.out ko hlt
          have HPSo := hide (fun (x : List Attr) (h : decR Lo[ko] = .ok x) => H.out.trans (preE_at hlt h))
          have HPNo := hide (fun (e : Int) (h : decR Lo[ko] = .error e) => H.out.trans (preE_err hlt h))
          obtain ⟨⟨et, ec, er⟩, hel⟩ : ∃ e, Lo[ko] = e := ⟨_, rfl⟩
          rw [hel] at e0 e1 e2 hcl2 HPSo HPNo
          simp only at e0 e1 e2 hcl2
          obtain ⟨z1, hz1⟩ : ∃ x : ByteArray, x = ⟨ec.toArray⟩ := ⟨_, rfl⟩
          obtain ⟨z2, hz2⟩ : ∃ x : ByteArray, x = ⟨er.toArray⟩ := ⟨_, rfl⟩
          have hz1d : ec = z1.data.toList := by rw [hz1]
          have hz2d : er = z2.data.toList := by rw [hz2]
          rw [← hz1] at e1
          rw [← hz2] at e2
          rw [hz1d] at hcl2
          rw [size_string] at hcl2
          rw [hz1d, hz2d] at HPSo HPNo
          obtain ⟨oo, hoo⟩ : ∃ o, openF (et : Int) 49 z1.data.toList = o := ⟨_, rfl⟩
          have HDR := hide (show decR (et, z1.data.toList, z2.data.toList) = decRG oo by rw [decR, ← hoo])
          have HOO := hide hoo
          have hbg : b < gF := hbS
          have hbM : b < wM.heap.size := by have := HNBN.out.lt; omega
          have hbne : b ≠ gN := by omega
          have p0 := (HEX.out.cell (p := ⟨b, off + ko * 3, none⟩) hbM hbne).trans e0
          have p1 := (HEX.out.cell (p := ⟨b, off + ko * 3 + 1, none⟩) hbM hbne).trans e1
          have p2 := (HEX.out.cell (p := ⟨b, off + ko * 3 + 2, none⟩) hbM hbne).trans e2
          clear e0 e1 e2 hz1 hz2 hel hz1d hz2d hoo
          obtain ⟨w0, rfl⟩ : ∃ wo : World, wo = wr := ⟨_, rfl⟩
          go_upto_region 12 with fail
          obtain ⟨wB, hwB⟩ : ∃ W, W = w0.alloc (.cells #[.int .i64 (et : Int), .string z1, .string z2] 72) := ⟨_, rfl⟩
          have q0 : wB.cell? ⟨w0.heap.size, 0, none⟩ = some (.int .i64 (et : Int)) := by rw [hwB, World.cell?_alloc_new]; rfl
          have q1 : wB.cell? ⟨w0.heap.size, 1, none⟩ = some (.string z1) := by rw [hwB, World.cell?_alloc_new]; rfl
          have q2 : wB.cell? ⟨w0.heap.size, 2, none⟩ = some (.string z2) := by rw [hwB, World.cell?_alloc_new]; rfl
          have HBBo := hide (show Below w0.heap.size w0 wB by rw [hwB]; exact (Below.refl _ _).alloc (Nat.le_refl _) _)
          rw [← hwB]
          clear hwB p0 p1 p2
          obtain ⟨gx, hgx⟩ : ∃ g, w0.heap.size = g := ⟨_, rfl⟩
          have HGX := hide hgx
          rw [hgx] at q0 q1 q2 ⊢
          clear hgx
          go_wp2_with fail
          refine (Open_any (et : Int) 49 z1 z2 (by omega) _).mono ?_
          rintro e wO ⟨hbO, hres⟩
          rw [HOO.out] at hres
          have HBWO := hide (HBBo.out.trans (hbO.mono HBBo.out.size))
          have hzO := hbO.size
          clear q0 q1 q2
          cases oo with
          | error k =>
            obtain rfl : e = _ := hres
            have hk : k ≠ 0 := fun h => openF_err0 (h ▸ HOO.out)
            have ht2 : (k != 0) = true := by simpa using hk
            have HN := hide (show r = .error k by rw [HRo.out, HPNo.out k HDR.out]; rfl)
            have hsB := (HST.out.grow HBWO.out).grow ((Below.refl wO.heap.size wO).alloc (Nat.le_refl _) (.cells #[.slice none 0 0, .int .i64 0] 120))
            clear hbO
            go_upto_region 13 with fail
            obtain ⟨wP, hwP⟩ : ∃ W, W = wO.alloc (.cells #[.slice none 0 0, .int .i64 0] 120) := ⟨_, rfl⟩
            rw [← hwP] at hsB ⊢
            clear hk hwP
            obtain ⟨r0, f0⟩ := (hsB).r.facts
            obtain ⟨n0, -⟩ := (hsB).n.facts
            go_wp2_with fail
            have hNB := ((hsB).r.store (.slice none 0 0)).facts.1
            obtain ⟨W3, hW3⟩ : ∃ W3, W3 = wP.setCell ⟨w.heap.size, 0, none⟩ (.slice none 0 0) := ⟨_, rfl⟩
            have hbz : Below w.heap.size w W3 := by rw [hW3]; exact (hsB).below.setCell (p := ⟨w.heap.size, 0, none⟩) (Nat.le_refl _) _
            have HSLz := hide (show Sl RRdn 1 W3 (Btw w.heap.size W3.heap.size) (toP r).2 [(.slice none 0 0)] by rw [hW3, HN.out]; exact Sl.nil _ _ _ _)
            rw [← hW3] at hNB ⊢
            clear hW3
            exact bodyPost_ret (v := .tuple #[.agg #[(.slice none 0 0)], .int .i64 k]) (by simp [results, Tryz.results207, go_sem, hNB]) rfl ⟨(.slice none 0 0), by rw [HN.out]; rfl, HSLz.out, hbz, by rw [HN.out]; (intro x hx; cases hx)⟩
          | ok L =>
            obtain ⟨A2, cp2, rfl, hsl⟩ := hres
            obtain ⟨-, hlc2, hcm2⟩ := hsl.len_
            unfold maxLen at hcm2
            have hok := open_ok (t := 49) HOO.out
            have hL := list_len _ _ _ (Nat.le_refl _) hok.2.1
            rw [size_string] at hL
            have hL : L.length ≤ 131072 := Nat.le_trans hL hcl2
            have HML := hide (fun (k : Nat) (h : k < L.length) => (hok.2.2.2 L[k] (List.getElem_mem h)).2.2.1)
            have HDR2 := hide (show decR (et, z1.data.toList, z2.data.toList) = decRL L from HDR.out)
            obtain ⟨wP, hwP⟩ : ∃ W, W = wO.alloc (.cells #[.slice A2 L.length cp2, .int .i64 0] 120) := ⟨_, rfl⟩
            have hbP : Below wO.heap.size wO wP := by rw [hwP]; exact (Below.refl _ _).alloc (Nat.le_refl _) _
            have fc0 : wP.cell? ⟨wO.heap.size, 0, none⟩ = some (.slice A2 L.length cp2) := by rw [hwP, World.cell?_alloc_new]; rfl
            have hzP : wP.heap.size = wO.heap.size + 1 := by rw [hwP]; simp
            have HBWP := hide (HBWO.out.trans (hbP.mono HBWO.out.size))
            have hslP : Sl RElt 3 wP (Btw wB.heap.size wP.heap.size) L [.slice A2 L.length cp2] := (Sl.ok RElt.ok).mono hsl (fun j hj => hbP.block j hj.2) (fun j hj => ⟨hj.1, by have := hj.2; omega⟩)
            obtain ⟨gG, hgG⟩ : ∃ g, wO.heap.size = g := ⟨_, rfl⟩
            have HGG := hide hgG
            have HSLP := hide hslP
            obtain ⟨q, hq⟩ : ∃ q, ascB L = q := ⟨_, rfl⟩
            have HASC := hide (hq ▸ rAsc_any L A2 cp2 wP ((Sl.ok RElt.ok).mono hslP (fun _ _ => rfl) (fun _ hj => hj.2)))
            have HQ := hide hq
            clear hsl hok hbO hbP hslP hq
            go_upto_region 13 with fail
            rw [← hwP]
            rw [hgG] at fc0
            clear hwP hgG
            go_wp2_with fail
            refine HASC.out.mono ?_
            rintro e wQ ⟨rfl, hbQ⟩
            have HBL := hide (HST.out.below.trans ((HBWP.out.trans (hbQ.mono HBWP.out.size)).mono HST.out.below.size))
            have HBWQ := hide (HBWP.out.trans (hbQ.mono HBWP.out.size))
            have fcQ := (hbQ.cell (p := ⟨gG, 0, none⟩) (by have := HGG.out; show gG < _; omega)).trans fc0
            have HSL := hide ((Sl.ok RElt.ok).mono HSLP.out (fun j hj => hbQ.block j hj.2) (S' := Btw wB.heap.size wQ.heap.size) (fun j hj => ⟨hj.1, Nat.lt_of_lt_of_le hj.2 hbQ.size⟩))
            have hzQ := hbQ.size
            clear hbQ fc0
            cases q with
            | false =>
              have HN := hide (show r = .error 9 by rw [HRo.out, HPNo.out 9 (by rw [HDR2.out, decRL, if_pos HQ.out])]; rfl)
              have HSTQ := hide (HST.out.grow HBWQ.out)
              obtain ⟨r0, f0⟩ := (HSTQ.out).r.facts
              obtain ⟨n0, -⟩ := (HSTQ.out).n.facts
              go_wp2_with fail
              have hNB := ((HSTQ.out).r.store (.slice none 0 0)).facts.1
              obtain ⟨W3, hW3⟩ : ∃ W3, W3 = wQ.setCell ⟨w.heap.size, 0, none⟩ (.slice none 0 0) := ⟨_, rfl⟩
              have hbz : Below w.heap.size w W3 := by rw [hW3]; exact (HSTQ.out).below.setCell (p := ⟨w.heap.size, 0, none⟩) (Nat.le_refl _) _
              have HSLz := hide (show Sl RRdn 1 W3 (Btw w.heap.size W3.heap.size) (toP r).2 [(.slice none 0 0)] by rw [hW3, HN.out]; exact Sl.nil _ _ _ _)
              rw [← hW3] at hNB ⊢
              clear hW3
              exact bodyPost_ret (v := .tuple #[.agg #[(.slice none 0 0)], .int .i64 9]) (by simp [results, Tryz.results207, go_sem, hNB]) rfl ⟨(.slice none 0 0), by rw [HN.out]; rfl, HSLz.out, hbz, by rw [HN.out]; (intro x hx; cases hx)⟩
            | true =>
              have HRM := hide (show decR (et, z1.data.toList, z2.data.toList) = mapE decA L by rw [HDR2.out, decRL, if_neg (by rw [HQ.out]; simp)])
              have H0i := hide (show mapE decA L = preE [] (mapE decA (L.drop 0)) by rw [List.drop_zero, preE_nil])
              obtain ⟨base, hbase⟩ : ∃ b, b = wQ.heap.size := ⟨_, rfl⟩
              have HBASE := hide hbase
              have hgs0i : base ≤ wQ.heap.size := by omega
              clear hbase
              go_wp2_with fail
              go_loopw [13, 63] (fun v i wr => ∃ (k : Nat) (out : List Attr), k ≤ L.length ∧ i = .int .i64 k ∧ out.length = k ∧ Own RAttr 3 27 wr base No v out ∧ Below wQ.heap.size wQ wr ∧ base ≤ wr.heap.size ∧ Hid (mapE decA L = preE out (mapE decA (L.drop k)))) (fun _ i _ => L.length - (intOf i).toNat)
              case atStart => exact ⟨0, [], by omega, rfl, by simp, Own.nil _ _ _ _ _ _, Below.refl _ _, hgs0i, H0i⟩
              case round =>
                obtain ⟨k, out, hk, rfl, hol, hown, hb, hgs, H⟩ := hrel
                have HB := hide hb
                have HOWN := hide hown
                have hbase := HBASE.out
                have hzb := HBL.out.size
                clear hb
                by_cases hlt : k < L.length
                · obtain ⟨b, off, hA, hbS, e0, e1, e2⟩ := HSL.out.eltAt hlt
                  subst hA
                  have hcl := HML.out k hlt
                  have HPS := hide (fun (x : Attr) (h : decA L[k] = .ok x) => H.out.trans (preE_at hlt h))
                  have HPN := hide (fun (e : Int) (h : decA L[k] = .error e) => H.out.trans (preE_err hlt h))
                  obtain ⟨⟨et, ec, er⟩, hel⟩ : ∃ e, L[k] = e := ⟨_, rfl⟩
                  rw [hel] at e0 e1 e2 hcl HPS HPN
                  simp only at e0 e1 e2 hcl
                  obtain ⟨z1, hz1⟩ : ∃ x : ByteArray, x = ⟨ec.toArray⟩ := ⟨_, rfl⟩
                  obtain ⟨z2, hz2⟩ : ∃ x : ByteArray, x = ⟨er.toArray⟩ := ⟨_, rfl⟩
                  have hz1d : ec = z1.data.toList := by rw [hz1]
                  have hz2d : er = z2.data.toList := by rw [hz2]
                  rw [← hz1] at e1
                  rw [← hz2] at e2
                  rw [hz1d] at hcl
                  rw [size_string] at hcl
                  rw [hz1d, hz2d] at HPS HPN
                  obtain ⟨o, ho⟩ : ∃ o, decA (et, z1.data.toList, z2.data.toList) = o := ⟨_, rfl⟩
                  rw [ho] at HPS HPN
                  have HO := hide ho
                  have p0 := (HB.out.cell (p := ⟨b, off + k * 3, none⟩) hbS.2).trans e0
                  have p1 := (HB.out.cell (p := ⟨b, off + k * 3 + 1, none⟩) hbS.2).trans e1
                  have p2 := (HB.out.cell (p := ⟨b, off + k * 3 + 2, none⟩) hbS.2).trans e2
                  have hol2 := outlen hol hk hL
                  have HOLK := hide hol
                  obtain ⟨A2, cp2, hv⟩ := (hown.sl RAttr.ok).shape
                  subst hv
                  clear e0 e1 e2 hz1 hz2 hel hz1d hz2d ho hown hol
                  obtain ⟨wo, rfl⟩ : ∃ wo : World, wo = wr := ⟨_, rfl⟩
                  go_upto_region 21 with fail
                  obtain ⟨wB, hwB⟩ : ∃ W, W = wo.alloc (.cells #[.int .i64 (et : Int), .string z1, .string z2] 72) := ⟨_, rfl⟩
                  have q0 : wB.cell? ⟨wo.heap.size, 0, none⟩ = some (.int .i64 (et : Int)) := by rw [hwB, World.cell?_alloc_new]; rfl
                  have q1 : wB.cell? ⟨wo.heap.size, 1, none⟩ = some (.string z1) := by rw [hwB, World.cell?_alloc_new]; rfl
                  have q2 : wB.cell? ⟨wo.heap.size, 2, none⟩ = some (.string z2) := by rw [hwB, World.cell?_alloc_new]; rfl
                  have hbB : Below wo.heap.size wo wB := by rw [hwB]; exact (Below.refl _ _).alloc (Nat.le_refl _) _
                  have HBB := hide (HB.out.trans (hbB.mono HB.out.size))
                  have HOB := hide (HOWN.out.below RAttr.ok (no_lt _) hbB)
                  have hzB := hbB.size
                  rw [← hwB]
                  clear hwB p0 p1 p2 hbB
                  obtain ⟨gx, hgx⟩ : ∃ g, wo.heap.size = g := ⟨_, rfl⟩
                  rw [hgx] at q0 q1 q2 ⊢
                  clear hgx
                  go_wp2_with fail
                  refine (rattr_any et z1 z2 hcl _).mono ?_
                  rintro e w5 ⟨rfl, hb5⟩
                  rw [HO.out]
                  have HB5 := hide (HBB.out.trans (hb5.mono HBB.out.size))
                  have HO5 := hide (HOB.out.below RAttr.ok (no_lt _) hb5)
                  have hz5 := hb5.size
                  clear hb5 q0 q1 q2
                  cases o with
                  | error k9 =>
                    have hk9 : k9 ≠ 0 := fun h => decA_err0 _ (h ▸ HO.out)
                    have ht : (k9 != 0) = true := by simpa using hk9
                    have HN := hide (show mapE decA L = .error k9 from HPN.out k9 rfl)
                    rw [show decAR (.error k9) = .tuple #[.agg #[.string ⟨#[]⟩, .int .i64 0, .string ⟨#[]⟩], .int .i64 k9] from rfl]
                    clear hk9
                    have HM := HN
                    have HN := hide (show r = .error k9 by rw [HRo.out, HPNo.out k9 (HRM.out.trans HM.out)]; rfl)
                    have hsB := (HST.out.grow (HBWQ.out.trans (HB5.out.mono HBWQ.out.size))).grow ((Below.refl w5.heap.size w5).alloc (Nat.le_refl _) (.cells #[.string ⟨#[]⟩, .int .i64 0, .string ⟨#[]⟩] 27))
                    go_upto_region 22 with fail
                    obtain ⟨wP9, hwP9⟩ : ∃ W, W = w5.alloc (.cells #[.string ⟨#[]⟩, .int .i64 0, .string ⟨#[]⟩] 27) := ⟨_, rfl⟩
                    rw [← hwP9] at hsB ⊢
                    clear hwP9
                    obtain ⟨r0, f0⟩ := (hsB).r.facts
                    obtain ⟨n0, -⟩ := (hsB).n.facts
                    go_wp2_with fail
                    have hNB := ((hsB).r.store (.slice none 0 0)).facts.1
                    obtain ⟨W3, hW3⟩ : ∃ W3, W3 = wP9.setCell ⟨w.heap.size, 0, none⟩ (.slice none 0 0) := ⟨_, rfl⟩
                    have hbz : Below w.heap.size w W3 := by rw [hW3]; exact (hsB).below.setCell (p := ⟨w.heap.size, 0, none⟩) (Nat.le_refl _) _
                    have HSLz := hide (show Sl RRdn 1 W3 (Btw w.heap.size W3.heap.size) (toP r).2 [(.slice none 0 0)] by rw [hW3, HN.out]; exact Sl.nil _ _ _ _)
                    rw [← hW3] at hNB ⊢
                    clear hW3
                    exact bodyPost_ret (v := .tuple #[.agg #[(.slice none 0 0)], .int .i64 k9]) (by simp [results, Tryz.results207, go_sem, hNB]) rfl ⟨(.slice none 0 0), by rw [HN.out]; rfl, HSLz.out, hbz, by rw [HN.out]; (intro x hx; cases hx)⟩
                  | ok x =>
                    obtain ⟨id, kd, va⟩ := x
                    obtain ⟨x1, hx1⟩ : ∃ x : ByteArray, x = ⟨id.toArray⟩ := ⟨_, rfl⟩
                    obtain ⟨x2, hx2⟩ : ∃ x : ByteArray, x = ⟨va.toArray⟩ := ⟨_, rfl⟩
                    have hid : id = x1.data.toList := by rw [hx1]
                    have hva : va = x2.data.toList := by rw [hx2]
                    have HY := hide (show mapE decA L = preE (out ++ [(x1.data.toList, kd, x2.data.toList)]) (mapE decA (L.drop (k + 1))) by rw [HPS.out _ rfl, hid, hva])
                    rw [show decAR (.ok (id, kd, va)) = .tuple #[.agg #[.string x1, .int .i64 kd, .string x2], .int .i64 0] by rw [decAR, hx1, hx2]]
                    clear hx1 hx2 hid hva
                    go_upto_region 22 with fail
                    obtain ⟨wC, hwC⟩ : ∃ W, W = w5.alloc (.cells #[.string x1, .int .i64 kd, .string x2] 27) := ⟨_, rfl⟩
                    have s0 : wC.cell? ⟨w5.heap.size, 0, none⟩ = some (.string x1) := by rw [hwC, World.cell?_alloc_new]; rfl
                    have s1 : wC.cell? ⟨w5.heap.size, 1, none⟩ = some (.int .i64 kd) := by rw [hwC, World.cell?_alloc_new]; rfl
                    have s2 : wC.cell? ⟨w5.heap.size, 2, none⟩ = some (.string x2) := by rw [hwC, World.cell?_alloc_new]; rfl
                    have hbC : Below w5.heap.size w5 wC := by rw [hwC]; exact (Below.refl _ _).alloc (Nat.le_refl _) _
                    have HBC := hide (HB5.out.trans (hbC.mono HB5.out.size))
                    have HOC := hide (HO5.out.below RAttr.ok (no_lt _) hbC)
                    have hzC := hbC.size
                    rw [← hwC]
                    clear hwC hbC
                    obtain ⟨gy, hgy⟩ : ∃ g, w5.heap.size = g := ⟨_, rfl⟩
                    rw [hgy] at s0 s1 s2 ⊢
                    clear hgy
                    go_wp2_with (at_builtin; refine wpList_app RAttr.ok _ rfl (.tmp 76) (.tmp 78) 33 rfl base 27 (.agg #[.string ⟨#[]⟩, .int .i64 0, .string ⟨#[]⟩]) 40 Tryz.underlying33 info_att rfl (by decide) No _ out rfl (HOC.out.alloc RAttr.ok (no_lt _) _) ⟨_, 0, none⟩ 1 1 [(x1.data.toList, kd, x2.data.toList)] rfl rfl (news_at3 _ _ _ kd x1 x2) (no_lt _) (by simp; omega) (by simp [maxLen]; omega) (by simp; omega) ?_; intro v2 w2 hown2 hg2 hb2 hat2; have hsz2 := hb2.size; simp at hsz2)
                    go_roundw
                    case rel => exact ⟨k + 1, _, by omega, by go_num, by simp [HOLK.out], hown2, (HBC.out.alloc HBC.out.size _).trans (hb2.mono (by omega)), by omega, HY⟩
                    case measure => simp [intOf]; omega
                · have HD := hide (show mapE decA L = .ok out by rw [H.out, List.drop_of_length_le (by omega)]; simp [preE, mapE])
                  have HSMR := hide (show SmallR out from fun a ha => by
                    obtain ⟨x, _, hx⟩ := mapE_mem L out HD.out a ha
                    exact decA_small hx)
                  have HY := hide (show mapE decR Lo = preE (l ++ [out]) (mapE decR (Lo.drop (ko + 1))) from HPSo.out _ (HRM.out.trans HD.out))
                  have hslI := HOWN.out.sl RAttr.ok
                  obtain ⟨A6, c7, hvv⟩ := hslI.shape
                  subst hvv
                  have hbwi := HBWQ.out.trans (HB.out.mono HBWQ.out.size)
                  have hszi := hbwi.size
                  have hszq := HBWQ.out.size
                  obtain ⟨S', hS'⟩ : ∃ S' : Nat → Prop, S' = fun j => S j ∨ (base ≤ j ∧ j < wr.heap.size) := ⟨_, rfl⟩
                  have hS1 : ∀ j, S j → S' j := fun j hj => by rw [hS']; exact .inl hj
                  have hS2 : ∀ j, S' j → baseo ≤ j ∧ j < wr.heap.size := fun j hj => by
                    rw [hS'] at hj
                    rcases hj with hj | hj
                    · have := HS.out j hj; omega
                    · omega
                  have hnoS : ∀ g, v.ownBlock = some g → ¬ S' g := fun g hg hh => by
                    rw [hS'] at hh
                    have hlt := (HOWNo.out.lt g hg).2
                    rcases hh with hh | hh
                    · obtain ⟨_, _, h2, _⟩ := HOWNo.out
                      exact h2 g hg hh
                    · omega
                  have hownO := ((HOWNo.out.below RRdn.ok (fun j hj => (HS.out j hj).2) hbwi).more RRdn.ok hS1 hnoS)
                  have hownA := hownO.alloc RRdn.ok (fun j hj => (hS2 j hj).2) (.cells #[.slice A6 out.length c7] 33)
                  have hgA : ∀ j, S' j → j < (wr.alloc (.cells #[.slice A6 out.length c7] 33)).heap.size := fun j hj => by have := (hS2 j hj).2; simp; omega
                  have hnew : Sl RAttr 3 (wr.alloc (.cells #[.slice A6 out.length c7] 33)) S' out [.slice A6 out.length c7] := (Sl.ok RAttr.ok).mono hslI (fun j hj => Below.heap_alloc _ _ j (by rcases hj with hj | hj; exact hj.elim; exact hj.2)) (fun j hj => by rw [hS']; rcases hj with hj | hj; exact hj.elim; exact .inr hj)
                  have HNEW := hide (news_one (R := RRdn) hnew)
                  have hbA : Below w0.heap.size w0 (wr.alloc (.cells #[.slice A6 out.length c7] 33)) := hbwi.alloc (by omega) _
                  have hnbA := HNB.out.below hbA
                  have HNA := hide (fun W (h : Below baseo (wr.alloc (.cells #[.slice A6 out.length c7] 33)) W) => (show NB gN v W from (h.block gN hgb).trans hnbA))
                  have c0 := (HNB.out.below hbwi).facts.1
                  have HBA := hide hbA
                  have HOA := hide hownA
                  have HS2 := hide hS2
                  have hbz : baseo ≤ (wr.alloc (.cells #[.slice A6 out.length c7] 33)).heap.size := by simp; omega
                  clear hslI hbwi hS' hS1 hS2 hnoS hownO hownA hnew hbA hnbA hown hol
                  go_wp2_with (at_builtin; refine wpList_app RRdn.ok _ rfl (.tmp 82) (.tmp 84) 22 rfl baseo 33 (.slice none 0 0) 24 Tryz.underlying22 info_rdn rfl (by decide) S' _ l rfl HOA.out ⟨_, 0, none⟩ 1 1 [out] rfl rfl HNEW.out hgA (by simp; omega) (by simp [maxLen]; omega) hbz ?_; intro v6 w6 hown6 hg6 hb6 hat6; obtain ⟨c6, f6⟩ := (HNA.out _ hb6).facts; have hsz6 := hb6.size; obtain ⟨A8, c8, hv8⟩ := (hown6.sl RRdn.ok).shape; obtain ⟨n8, hn8⟩ : ∃ n8, (l ++ [out]).length = n8 := ⟨_, rfl⟩; rw [hn8] at hv8; subst hv8; clear hn8)
                  have hsz7 : wr.heap.size + 1 ≤ w6.heap.size := by simpa using hsz6
                  have hexf : Ex gN wM w6 := (HEX.out.then_ HBA.out).then_base (HBASEo.out ▸ hb6)
                  have hst6 := (HST.out.grow HBA.out).base hb6 (by omega)
                  have hn6 := HNA.out _ hb6
                  go_roundw
                  case rel => exact ⟨ko + 1, l ++ [out], _, S', by omega, by simp [HLK.out], by go_num, hst6.ex (Ex.set gN 0 w6 _) (by omega), hexf.trans (Ex.set gN 0 w6 _), by simp; omega, hn6.store _, hown6.other RRdn.ok (fun j hj => (HS2.out j hj).1) hgb _, fun j hj => ⟨(HS2.out j hj).1, by have := (HS2.out j hj).2; simp; omega⟩, (fun x hx => by
                    rcases List.mem_append.1 hx with hx | hx
                    · exact HSM.out x hx
                    · simp at hx; subst hx; exact HSMR.out), HY⟩
                  case measure => simp [intOf]; omega
        · have HP := hide (show mapE decR Lo = .ok l by rw [H.out, List.drop_of_length_le (by omega)]; simp [preE, mapE])
          have hsl := (Sl.ok RRdn.ok).mono (HOWNo.out.sl RRdn.ok) (fun _ _ => rfl) (S' := Lt wr.heap.size) (fun j hj => by rcases hj with hj | hj; exact (HS.out j hj).2; exact hj.2)
          have hslB := (Sl.ok RRdn.ok).mono (HOWNo.out.sl RRdn.ok) (fun _ _ => rfl) (S' := fun j => baseo ≤ j ∧ j < wr.heap.size) (fun j hj => by rcases hj with hj | hj; exact HS.out j hj; exact hj)
          obtain ⟨A9, cc, hv⟩ := hsl.shape
          subst hv
          have HSLv := hide hsl
          have HSLB := hide hslB
          clear hslB
          clear hsl
          obtain ⟨c0, f0⟩ := HNB.out.facts
          go_wp2_with fail
          refine (rCheck_any l A9 cc _ (HMX.out.below HST.out.below) HSLv.out HSM.out).mono ?_
          rintro e w5 ⟨rfl, hb5⟩
          have HST5 := hide (HST.out.grow hb5)
          have HSL5 := hide ((Sl.ok RRdn.ok).mono HSLB.out (fun j hj => hb5.block j hj.2) (fun j hj => hj))
          have hs5 := hb5.size
          have hn5 := HNB.out.below hb5
          obtain ⟨q, hq⟩ : ∃ q, chkN l = q := ⟨_, rfl⟩
          rw [hq]
          have HQ := hide hq
          clear hb5 c0 f0 hq
          by_cases hq0 : q = 0
          · have HN := hide (show r = .ok l by rw [HRo.out, HP.out, decNF, if_pos (HQ.out.trans hq0)])
            have ht : (q != 0) = false := by simp [hq0]
            obtain ⟨r0, g0⟩ := HST5.out.r.facts
            obtain ⟨d0, -⟩ := hn5.facts
            clear hq0
            go_wp2_with fail
            have hNB := ((HST5.out).r.store (.slice A9 l.length cc)).facts.1
            obtain ⟨W3, hW3⟩ : ∃ W3, W3 = w5.setCell ⟨w.heap.size, 0, none⟩ (.slice A9 l.length cc) := ⟨_, rfl⟩
            have hbz : Below w.heap.size w W3 := by rw [hW3]; exact (HST5.out).below.setCell (p := ⟨w.heap.size, 0, none⟩) (Nat.le_refl _) _
            have HSLz := hide (show Sl RRdn 1 W3 (Btw w.heap.size W3.heap.size) (toP r).2 [(.slice A9 l.length cc)] by rw [hW3, HN.out]; exact (Sl.ok RRdn.ok).mono HSL5.out (fun j hj => Below.heap_setCell w5 _ _ j (by have := hj.1; show j ≠ w.heap.size; omega)) (fun j hj => ⟨by have := hj.1; omega, by have := hj.2; simp; omega⟩))
            rw [← hW3] at hNB ⊢
            clear hW3
            exact bodyPost_ret (v := .tuple #[.agg #[(.slice A9 l.length cc)], .int .i64 0]) (by simp [results, Tryz.results207, go_sem, hNB]) rfl ⟨(.slice A9 l.length cc), by rw [HN.out]; rfl, HSLz.out, hbz, by rw [HN.out]; exact HSM.out⟩
          · have HN := hide (show r = .error q by rw [HRo.out, HP.out, decNF, if_neg (by rw [HQ.out]; exact hq0), HQ.out])
            have ht : (q != 0) = true := by simp [hq0]
            clear hq0 hn5
            obtain ⟨r0, f0⟩ := (HST5.out).r.facts
            obtain ⟨n0, -⟩ := (HST5.out).n.facts
            go_wp2_with fail
            have hNB := ((HST5.out).r.store (.slice none 0 0)).facts.1
            obtain ⟨W3, hW3⟩ : ∃ W3, W3 = w5.setCell ⟨w.heap.size, 0, none⟩ (.slice none 0 0) := ⟨_, rfl⟩
            have hbz : Below w.heap.size w W3 := by rw [hW3]; exact (HST5.out).below.setCell (p := ⟨w.heap.size, 0, none⟩) (Nat.le_refl _) _
            have HSLz := hide (show Sl RRdn 1 W3 (Btw w.heap.size W3.heap.size) (toP r).2 [(.slice none 0 0)] by rw [hW3, HN.out]; exact Sl.nil _ _ _ _)
            rw [← hW3] at hNB ⊢
            clear hW3
            exact bodyPost_ret (v := .tuple #[.agg #[(.slice none 0 0)], .int .i64 q]) (by simp [results, Tryz.results207, go_sem, hNB]) rfl ⟨(.slice none 0 0), by rw [HN.out]; rfl, HSLz.out, hbz, by rw [HN.out]; (intro x hx; cases hx)⟩
end Go.Proofs.YtahamclodagihaaGreatDoor
