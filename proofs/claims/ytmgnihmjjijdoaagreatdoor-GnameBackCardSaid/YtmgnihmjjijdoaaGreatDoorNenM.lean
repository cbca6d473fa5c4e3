/- The reference's SameName, of names that are the same apart from the order of attributes. -/
import Derived.Test.YtmgnihmjjijdoaaGreatDoorGNenP
import Derived.Test.YtmgnihmjjijdoaaGreatDoorGNenI
namespace Go.Proofs.YtmgnihmjjijdoaaGreatDoor
open Go.RowKit
theorem sameNB_at : ∀ {n m : Name}, sameNB n m = true → n.length = m.length ∧ ∀ (i : Nat) (h : i < n.length) (h2 : i < m.length), n[i].length = m[i].length ∧ ∀ x ∈ n[i], x ∈ m[i]
  | [], [], _ => ⟨rfl, fun i h => absurd h (by simp)⟩
  | [], _ :: _, h => by simp [sameNB] at h
  | _ :: _, [], h => by simp [sameNB] at h
  | a :: n, b :: m, h => by
    rw [sameNB, Bool.and_eq_true] at h
    obtain ⟨h1, h2⟩ := sameNB_at h.2
    refine ⟨by simp [h1], fun i hi hi2 => ?_⟩
    match i, hi, hi2 with
    | 0, _, _ =>
      have h3 := h.1
      rw [sameRB, Bool.and_eq_true, decide_eq_true_eq, List.all_eq_true] at h3
      exact ⟨h3.1, fun x hx => List.contains_iff_mem.1 (h3.2 x hx)⟩
    | i + 1, hi, hi2 => exact h2 i (by simpa using hi) (by simpa using hi2)
theorem eql_att (ta va tb vb : ByteArray) (k l : Int) (W : World) : (binOp .eql 84 (.agg #[.string ta, .int .i64 k, .string va]) (.agg #[.string tb, .int .i64 l, .string vb])).run Tryz.prog W = .ok (.bool (ta.data.toList == tb.data.toList && (k == l && va.data.toList == vb.data.toList))) W := by
 have h0 := Tryz.underlying9
 have h1 := Tryz.underlying3
 have h2 := Tryz.underlying84
 have hp : Program.stoodInHeld Tryz.prog 84 = false := by kernel_rfl
 have hf : Program.fieldsOf Tryz.prog 84 = _ := rfl
 rw [← ByteArray.toList_eq, ← ByteArray.toList_eq, ← ByteArray.toList_eq, ← ByteArray.toList_eq]
 go_simp
 by_cases e1 : ta.toList = tb.toList
 ·rw [if_pos e1]
  by_cases e2 : k = l
  ·rw [if_pos e2]
   by_cases e3 : va.toList = vb.toList
   ·rw [if_pos e3]; simp [e1, e2, e3]
   ·rw [if_neg e3]; simp [e3]
  ·rw [if_neg e2]; simp [e2]
 ·rw [if_neg e1]; simp [e1]
set_option maxRecDepth 100000 in
set_option maxHeartbeats 8000000 in
theorem Same_true (n m : Name) (hnm : sameNB n m = true) (A B : Option Addr) (c d : Nat) (w : World) (h : Sl RRdn 1 w (Lt w.heap.size) n [.slice A n.length c]) (h2 : Sl RRdn 1 w (Lt w.heap.size) m [.slice B m.length d]) :
    Calls Tryz.prog 50 #[.agg #[.slice A n.length c], .agg #[.slice B m.length d]] w fun e w' => e = .returned (.bool true) ∧ Below w.heap.size w w' := by
  obtain ⟨hlen, hat⟩ := sameNB_at hnm
  have HAT := hide hat
  obtain ⟨N, hN⟩ : ∃ N, n.length = N := ⟨_, rfl⟩
  have hM : m.length = N := by omega
  obtain ⟨-, hnc, hcm⟩ := h.len_
  obtain ⟨-, hnc2, hcm2⟩ := h2.len_
  unfold maxLen at hcm hcm2
  rw [hN] at h hnc
  rw [hM] at h2 hnc2
  have K := hide h
  have K2 := hide h2
  have HN := hide hN
  have HM := hide hM
  rw [hN, hM]
  have t0 : ((N : Int) != (N : Int)) = false := by simp
  clear h h2 hlen hat hnm hN hM
  obtain ⟨wa, hwa⟩ : ∃ wa, wa = (w.alloc (.cells #[.slice A N c] 24)).alloc (.cells #[.slice B N d] 24) := ⟨_, rfl⟩
  have ha0 : wa.cell? ⟨w.heap.size, 0, none⟩ = some (.slice A N c) := by
    rw [hwa, World.cell?_alloc_lt _ _ _ (by simp), World.cell?_alloc_new]; rfl
  have ha1 : wa.cell? ⟨w.heap.size + 1, 0, none⟩ = some (.slice B N d) := by
    rw [hwa, show w.heap.size + 1 = (w.alloc (.cells #[.slice A N c] 24)).heap.size by simp, World.cell?_alloc_new]; rfl
  have hba : Below w.heap.size w wa := by rw [hwa]; exact ((Below.refl _ _).alloc (Nat.le_refl _) _).alloc (by simp) _
  have HA0 := hide ha0
  have HA1 := hide ha1
  have HBA := hide hba
  clear hba
  go_enter Tryz.func50, Tryz.ntmps50
  go_upto_region 1 with fail
  rw [← hwa]
  clear hwa
  go_wp2_with fail
  clear ha0 ha1
  go_loopw [21] (fun i wr => ∃ k : Nat, k ≤ N ∧ i = .int .i64 k ∧ Below wa.heap.size wa wr) (fun i _ => N - (intOf i).toNat)
  case atStart => exact ⟨0, by omega, rfl, Below.refl _ _⟩
  case round =>
    obtain ⟨k, hk, rfl, hb⟩ := hrel
    have hbw := HBA.out.trans (hb.mono HBA.out.size)
    by_cases hlt : k < N
    · obtain ⟨b1, o1, A1, c1, hA, hbS, d1, hsl1⟩ := K.out.rdnAt (i := k) (by rw [HN.out]; exact hlt)
      obtain ⟨b2, o2, A2, c2, hA2, hbS2, d2, hsl2⟩ := K2.out.rdnAt (i := k) (by rw [HM.out]; exact hlt)
      subst hA hA2
      have hbS' : b1 < w.heap.size := hbS
      have hbS2' : b2 < w.heap.size := hbS2
      obtain ⟨hrl, hmem⟩ := HAT.out k (by rw [HN.out]; exact hlt) (by rw [HM.out]; exact hlt)
      obtain ⟨r, hr⟩ : ∃ r, n[k]'(by rw [HN.out]; exact hlt) = r := ⟨_, rfl⟩
      obtain ⟨s, hs⟩ : ∃ s, m[k]'(by rw [HM.out]; exact hlt) = s := ⟨_, rfl⟩
      rw [hr] at d1 hsl1 hrl hmem
      rw [hs] at d2 hsl2 hrl hmem
      obtain ⟨R, hR⟩ : ∃ R, r.length = R := ⟨_, rfl⟩
      have hS : s.length = R := by omega
      rw [hR] at d1 hsl1
      rw [hS] at d2 hsl2
      have HR := hide hR
      have HS := hide hS
      have HMEM := hide hmem
      have e0 := cell_grows hb _ _ HA0.out
      have e1 := cell_grows hb _ _ HA1.out
      have e2 := (hbw.cell (p := ⟨b1, o1 + k, none⟩) hbS').trans d1
      have e3 := (hbw.cell (p := ⟨b2, o2 + k, none⟩) hbS2').trans d2
      have t1 : ((R : Int) != (R : Int)) = false := by simp
      have hk0 : (0 : Int) ≤ (k : Int) := by omega
      have hkn : (k : Int) < (N : Int) := by omega
      have S1 := hide hsl1
      have S2 := hide hsl2
      obtain ⟨hm1, hm1'⟩ := hsl1.len_.2
      obtain ⟨hm2, hm2'⟩ := hsl2.len_.2
      unfold maxLen at hm1' hm2'
      have HB := hide hb
      have E0 := hide e0
      have E1 := hide e1
      have E2 := hide e2
      have E3 := hide e3
      obtain ⟨wo, rfl⟩ : ∃ wo : World, wo = wr := ⟨_, rfl⟩
      clear hr hs d1 d2 hsl1 hsl2 hb hbw hR hS hrl hmem
      go_wp2_with fail
      go_quiet (fail)
      go_wp2_with fail
      clear t1 e0 e1 e2 e3
      go_loopw [43] (fun i wi => ∃ j : Nat, j ≤ R ∧ i = .int .i64 j ∧ Below wo.heap.size wo wi) (fun i _ => R - (intOf i).toNat)
      case atStart => exact ⟨0, by omega, rfl, below_drewN (Below.refl _ _) _⟩
      case round =>
        obtain ⟨j, hj, rfl, hb⟩ := hrel
        by_cases hjl : j < R
        · obtain ⟨b3, o3, hA3, hbS3, f0, f1, f2⟩ := S1.out.attAt (i := j) (by rw [HR.out]; exact hjl)
          subst hA3
          have hbS3' : b3 < w.heap.size := hbS3
          have hin := HMEM.out (r[j]'(by rw [HR.out]; exact hjl)) (List.getElem_mem _)
          obtain ⟨ta, va, kk, hrj⟩ : ∃ (ta va : ByteArray) (kk : Int), r[j]'(by rw [HR.out]; exact hjl) = (ta.data.toList, kk, va.data.toList) := ⟨⟨(r[j]'(by rw [HR.out]; exact hjl)).1.toArray⟩, ⟨(r[j]'(by rw [HR.out]; exact hjl)).2.2.toArray⟩, (r[j]'(by rw [HR.out]; exact hjl)).2.1, rfl⟩
          rw [hrj] at f0 f1 f2 hin
          have HIN := hide hin
          have hbw := HBA.out.trans ((HB.out.trans (hb.mono HB.out.size)).mono HBA.out.size)
          have f0' : wr.cell? ⟨b3, o3 + j * 3, none⟩ = some (.string ta) := (hbw.cell (p := ⟨b3, o3 + j * 3, none⟩) hbS3').trans f0
          have f1' : wr.cell? ⟨b3, o3 + j * 3 + 1, none⟩ = some (.int .i64 kk) := (hbw.cell (p := ⟨b3, o3 + j * 3 + 1, none⟩) hbS3').trans f1
          have f2' : wr.cell? ⟨b3, o3 + j * 3 + 2, none⟩ = some (.string va) := (hbw.cell (p := ⟨b3, o3 + j * 3 + 2, none⟩) hbS3').trans f2
          have HBI := hide hb
          obtain ⟨wi, rfl⟩ : ∃ wo : World, wo = wr := ⟨_, rfl⟩
          clear f0 f1 f2 hrj hbw hb hin
          go_upto_region 11 with fail
          obtain ⟨wx, hwx⟩ : ∃ W, W = wi.alloc (.cells #[.string ta, .int .i64 kk, .string va] 84) := ⟨_, rfl⟩
          have hbx : Below wi.heap.size wi wx := by rw [hwx]; exact (Below.refl _ _).alloc (Nat.le_refl _) _
          have x0 : wx.cell? ⟨wi.heap.size, 0, none⟩ = some (.string ta) := by rw [hwx, World.cell?_alloc_new]; rfl
          have x1 : wx.cell? ⟨wi.heap.size, 1, none⟩ = some (.int .i64 kk) := by rw [hwx, World.cell?_alloc_new]; rfl
          have x2 : wx.cell? ⟨wi.heap.size, 2, none⟩ = some (.string va) := by rw [hwx, World.cell?_alloc_new]; rfl
          have X0 := hide x0
          have X1 := hide x1
          have X2 := hide x2
          have HBX := hide (HBI.out.trans (hbx.mono HBI.out.size))
          obtain ⟨gx, hgx⟩ : ∃ g, wi.heap.size = g := ⟨_, rfl⟩
          rw [hgx] at X0 X1 X2
          rw [← hwx]
          try rw [hgx]
          have e0 := cell_grows HBX.out _ _ E0.out
          have e1 := cell_grows HBX.out _ _ E1.out
          have e2 := cell_grows HBX.out _ _ E2.out
          have e3 := cell_grows HBX.out _ _ E3.out
          clear hwx hbx hgx x0 x1 x2 f0' f1' f2'
          go_wp2_with fail
          clear e0 e1 e2 e3
          go_loopw [8, 53] (fun fb i wy => ∃ (q : Nat) (fnd : Bool), q ≤ R ∧ i = .int .i64 q ∧ fb = .bool fnd ∧ Below wx.heap.size wx wy ∧ Hid (∀ (p : Nat) (hp : p < s.length), p < q → s[p] = (ta.data.toList, kk, va.data.toList) → fnd = true)) (fun _ i _ => R - (intOf i).toNat)
          case atStart => exact ⟨0, false, by omega, rfl, rfl, Below.refl _ _, hide fun p hp hh => absurd hh (by omega)⟩
          case round =>
            obtain ⟨q, fnd, hq, rfl, rfl, hb, HF⟩ := hrel
            have x0 := cell_grows hb _ _ X0.out
            have x1 := cell_grows hb _ _ X1.out
            have x2 := cell_grows hb _ _ X2.out
            by_cases hql : q < R
            · obtain ⟨b4, o4, hA4, hbS4, g0, g1, g2⟩ := S2.out.attAt (i := q) (by rw [HS.out]; exact hql)
              subst hA4
              have hbS4' : b4 < w.heap.size := hbS4
              obtain ⟨tb, vb, kl, hsq⟩ : ∃ (tb vb : ByteArray) (kl : Int), s[q]'(by rw [HS.out]; exact hql) = (tb.data.toList, kl, vb.data.toList) := ⟨⟨(s[q]'(by rw [HS.out]; exact hql)).1.toArray⟩, ⟨(s[q]'(by rw [HS.out]; exact hql)).2.2.toArray⟩, (s[q]'(by rw [HS.out]; exact hql)).2.1, rfl⟩
              rw [hsq] at g0 g1 g2
              have hbw := HBA.out.trans ((HB.out.trans ((HBX.out.trans (hb.mono HBX.out.size)).mono HB.out.size)).mono HBA.out.size)
              have g0' : wr.cell? ⟨b4, o4 + q * 3, none⟩ = some (.string tb) := (hbw.cell (p := ⟨b4, o4 + q * 3, none⟩) hbS4').trans g0
              have g1' : wr.cell? ⟨b4, o4 + q * 3 + 1, none⟩ = some (.int .i64 kl) := (hbw.cell (p := ⟨b4, o4 + q * 3 + 1, none⟩) hbS4').trans g1
              have g2' : wr.cell? ⟨b4, o4 + q * 3 + 2, none⟩ = some (.string vb) := (hbw.cell (p := ⟨b4, o4 + q * 3 + 2, none⟩) hbS4').trans g2
              obtain ⟨bq, hbq⟩ : ∃ bq, (ta.data.toList == tb.data.toList && (kk == kl && va.data.toList == vb.data.toList)) = bq := ⟨_, rfl⟩
              have heq : ∀ W : World, (binOp .eql 84 (.agg #[.string ta, .int .i64 kk, .string va]) (.agg #[.string tb, .int .i64 kl, .string vb])).run Tryz.prog W = .ok (.bool bq) W := fun W => hbq ▸ eql_att ta va tb vb kk kl W
              have HEQ := hide (show ∀ (h : q < s.length), s[q] = (ta.data.toList, kk, va.data.toList) → bq = true from fun _ e => by
                rw [hsq] at e
                simp only [Prod.mk.injEq] at e
                rw [← hbq, e.1, e.2.1, e.2.2]
                simp)
              have HBY := hide hb
              clear g0 g1 g2 hsq hbw hb hbq
              obtain ⟨wz, rfl⟩ : ∃ wo : World, wo = wr := ⟨_, rfl⟩
              go_upto_region 15 with fail
              obtain ⟨wy, hwy⟩ : ∃ W, W = wz.alloc (.cells #[.string tb, .int .i64 kl, .string vb] 84) := ⟨_, rfl⟩
              have hby : Below wz.heap.size wz wy := by rw [hwy]; exact (Below.refl _ _).alloc (Nat.le_refl _) _
              have y0 : wy.cell? ⟨wz.heap.size, 0, none⟩ = some (.string tb) := by rw [hwy, World.cell?_alloc_new]; rfl
              have y1 : wy.cell? ⟨wz.heap.size, 1, none⟩ = some (.int .i64 kl) := by rw [hwy, World.cell?_alloc_new]; rfl
              have y2 : wy.cell? ⟨wz.heap.size, 2, none⟩ = some (.string vb) := by rw [hwy, World.cell?_alloc_new]; rfl
              have z0 := cell_grows hby _ _ x0
              have z1 := cell_grows hby _ _ x1
              have z2 := cell_grows hby _ _ x2
              have HBZ := hide (HBY.out.trans (hby.mono HBY.out.size))
              rw [← hwy]
              clear hwy hby x0 x1 x2 g0' g1' g2'
              cases fnd with
              | true =>
                go_wp2_with fail
                go_roundw
                case rel => exact ⟨q + 1, true, by omega, by go_num, rfl, HBZ.out, hide fun _ _ _ _ => rfl⟩
                case measure => simp [intOf]; omega
              | false =>
                go_wp2_with fail
                go_roundw
                case rel => exact ⟨q + 1, bq, by omega, by go_num, rfl, HBZ.out, hide fun p hp hh e => by
                  by_cases hpq : p < q
                  · have := HF.out p hp hpq e
                    cases this
                  · have : p = q := by omega
                    subst this
                    exact HEQ.out hp e⟩
                case measure => simp [intOf]; omega
            · have hft : fnd = true := by
                obtain ⟨p, hp, e⟩ := List.mem_iff_getElem.1 HIN.out
                exact HF.out p hp (by have := HS.out; omega) e
              have HBY := hide (HBX.out.trans (hb.mono HBX.out.size))
              subst hft
              clear hb x0 x1 x2
              go_wp2_with fail
              go_roundw
              case rel => exact ⟨j + 1, by omega, by go_num, HBY.out⟩
              case measure => simp [intOf]; omega
        · have HBI := hide (HB.out.trans (hb.mono HB.out.size))
          clear hb
          go_wp2_with fail
          go_roundw
          case rel => exact ⟨k + 1, by omega, by go_num, HBI.out⟩
          case measure => simp [intOf]; omega
    · clear hb
      go_wp2_with fail
      go_ret
      exact ⟨rfl, hbw⟩
end Go.Proofs.YtmgnihmjjijdoaaGreatDoor
