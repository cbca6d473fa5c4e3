/- The law NameDecode, its walk. -/
import Derived.Test.YtbafpgdmnkkclaaGreatDoorNen3
import Derived.Test.YtbafpgdmnkkclaaGreatDoorNamT
import Derived.Test.YtbafpgdmnkkclaaGreatDoorNamZ
import Derived.Test.YtbafpgdmnkkclaaGreatDoorNamK
import Derived.Test.YtbafpgdmnkkclaaGreatDoorMad1
import Derived.Test.YtbafpgdmnkkclaaGreatDoorNenP
import Derived.Test.YtbafpgdmnkkclaaGreatDoorNen4
namespace Go.Proofs.YtbafpgdmnkkclaaGreatDoor
open Go.RowKit

/-- a row of four texts of bounded length -/
def T4 (g : Nat) (W : World) : Prop := ∀ k, k < 4 → ∃ y : ByteArray, y.size ≤ 10000000 ∧ W.cell? ⟨g, k, none⟩ = some (.string y)
theorem T4.new (w : World) (a b c d : ByteArray) (ha : a.size ≤ 10000000) (hb : b.size ≤ 10000000) (hc : c.size ≤ 10000000) (hd : d.size ≤ 10000000) : T4 w.heap.size (w.alloc (.cells #[.string a, .string b, .string c, .string d] 9)) := fun k hk => by
  rw [World.cell?_alloc_new]
  match k, hk with
  | 0, _ => exact ⟨_, ha, rfl⟩
  | 1, _ => exact ⟨_, hb, rfl⟩
  | 2, _ => exact ⟨_, hc, rfl⟩
  | 3, _ => exact ⟨_, hd, rfl⟩
theorem encN_size (n : Name) : (encN n).1.length ≤ 40000 := by
  unfold encN
  by_cases h : chkN n = 0
  · rw [if_pos h]
    have := encB_len h
    show (wrapW 48 (n.flatMap encQ)).length ≤ _
    rw [wrapW_len]
    have := lenB_le (n.flatMap encQ).length
    omega
  · rw [if_neg h]; simp


set_option maxRecDepth 100000 in
set_option maxHeartbeats 8000000 in
theorem NameDecode_any (s : ByteArray) (_hsm : s.size ≤ maxLen) (l : List Int) (A : Option Addr) (n c : Nat) (w : World) (hmx : Mx w) (htb : Tb w) (h : Sl RInt 1 w (Lt w.heap.size) l [.slice A n c]) :
    Calls Tryz.prog 3 #[.string s, .slice A n c] w fun e w' => e = .returned (.bool true) ∧ Below w.heap.size w w' := by
  have HMX := hide hmx
  have HTB := hide htb
  have K := hide h
  clear hmx htb h
  by_cases hs : 400 < s.size
  · go_enter Tryz.func3, Tryz.ntmps3
    go_wp2_with fail
    refine (nawake_any _ (HMX.out.below (Below.refl w.heap.size w))).mono ?_
    rintro e w9 ⟨rfl, hb9⟩
    have HB9 := hide (Below.trans (Below.refl w.heap.size w) (hb9.mono (Below.size (Below.refl w.heap.size w))))
    clear hb9
    go_wp2_with fail
    go_ret
    exact ⟨rfl, HB9.out⟩
  · go_enter Tryz.func3, Tryz.ntmps3
    go_wp2_with fail
    refine (New_any l A n c _ K.out).mono ?_
    rintro e w1 ⟨rfl, hd1, hb1⟩
    have HD1 := hide hd1
    have HB1 := hide hb1
    have hz1 := hb1.size
    obtain ⟨d, hd⟩ : ∃ d, d = w.heap.size := ⟨_, rfl⟩
    rw [← hd] at HD1 ⊢
    have hdw : w.heap.size ≤ d := by omega
    clear hd1 hb1 hd
    go_wp2_with fail
    refine (Name_any d _ HD1.out).mono ?_
    rintro e w2 ⟨nm, v, hgn, rfl, hsl, hd2, hx2⟩
    have HD2 := hide hd2
    have HB2 := hide (Ex.below HB1.out hz1 hdw hx2)
    have hslL := (Sl.ok RRdn.ok).mono hsl (fun _ _ => rfl) (S' := Lt w2.heap.size) (fun _ hj => hj.2)
    obtain ⟨A2, c2, hv⟩ := hslL.shape
    subst hv
    have HSL := hide hslL
    have HSM := hide (hgn.bnd.small (by omega))
    clear hd2 hx2 hsl hslL hgn
    go_wp2_with fail
    refine (rEncodeName_any nm A2 c2 _ (HMX.out.below HB2.out) HSL.out HSM.out).mono ?_
    rintro e w3 ⟨rfl, hb3⟩
    have HD3 := hide (HD2.out.below hb3)
    have HB3 := hide (HB2.out.trans (hb3.mono HB2.out.size))
    clear hb3
    have hel := encN_size nm
    obtain ⟨S, hS⟩ : ∃ S : ByteArray, S = ⟨(encN nm).1.toArray⟩ := ⟨_, rfl⟩
    have hSs : S.size ≤ 40000 := by rw [hS, ba_mk]; exact hel
    obtain ⟨kk, hkk⟩ : ∃ kk, (encN nm).2 = kk := ⟨_, rfl⟩
    rw [wrapR, ← hS, hkk]
    clear hS hkk hel
    go_wp2_with fail
    refine (Damage_any d S (by omega) _ HD3.out).mono ?_
    rintro e w4 ⟨y1, hy1, rfl, hd4, hx4⟩
    have HD4 := hide hd4
    have HB4 := hide (Ex.below HB3.out HB3.out.size hdw hx4)
    clear hd4 hx4
    go_wp2_with fail
    refine (Rewrap_any S.size d S _ (Nat.le_refl _) (by omega) HD4.out).mono ?_
    rintro e w5 ⟨y2, hy2, rfl, hd5, hx5⟩
    have HB5 := hide (Ex.below HB4.out HB4.out.size hdw hx5)
    clear hd5 hx5
    obtain ⟨W0, hW0⟩ : ∃ W, W = w5.alloc (.cells #[.string s, .string y1, .string y2, .string S] 9) := ⟨_, rfl⟩
    have ht4 := T4.new w5 s y1 y2 S (by omega) (by omega) (by omega) (by omega)
    rw [← hW0] at ht4
    have HB0 := hide (show Below w.heap.size w W0 by rw [hW0]; exact HB5.out.alloc HB5.out.size _)
    have hg0 : w5.heap.size < W0.heap.size := by rw [hW0]; simp
    obtain ⟨g, hg⟩ : ∃ g, g = w5.heap.size := ⟨_, rfl⟩
    rw [← hg] at ht4 hg0
    have HT4 := hide ht4
    go_wp2_with fail
    rw [← hW0, ← hg]
    clear hW0 hg ht4
    go_loopw [36] (fun i wr => ∃ k : Nat, k ≤ 4 ∧ i = .int .i64 k ∧ Below W0.heap.size W0 wr) (fun i _ => 4 - (intOf i).toNat)
    case atStart => exact ⟨0, by omega, rfl, Below.refl _ _⟩
    case round =>
      obtain ⟨k, hk, rfl, hb⟩ := hrel
      have HB := hide (HB0.out.trans (hb.mono HB0.out.size))
      by_cases hlt : k < 4
      · obtain ⟨y, hys, hcell0⟩ := HT4.out k hlt
        have hcell := (hb.cell (p := ⟨g, k, none⟩) hg0).trans hcell0
        have HBr := hide hb
        obtain ⟨o, ho⟩ : ∃ o, toP (decN y.data.toList) = o := ⟨_, rfl⟩
        have HO := hide ho
        clear hcell0 hb ho
        go_wp2_with fail
        refine (NDecode_any y (by omega) _ (HMX.out.below HB.out) (HTB.out.below HB.out)).mono ?_
        rintro e w7 ⟨v7, he7, hsl7, hb7, hsm7⟩
        rw [HO.out] at he7 hsl7 hsm7
        subst he7
        have HB7r := hide (HBr.out.trans (hb7.mono HBr.out.size))
        have HB7 := hide (HB0.out.trans (HB7r.out.mono HB0.out.size))
        obtain ⟨A7, c7, hv7⟩ := hsl7.shape
        subst hv7
        have HSL7 := hide hsl7
        clear hb7 hcell hsl7 hsm7
        obtain ⟨kq, hkq⟩ : ∃ kq, o.1 = kq := ⟨_, rfl⟩
        rw [hkq]
        go_upto_region 9 with fail
        obtain ⟨wA, hwA⟩ : ∃ W, W = w7.alloc (.cells #[.slice A7 o.2.length c7] 31) := ⟨_, rfl⟩
        have hbA : Below w7.heap.size w7 wA := by rw [hwA]; exact (Below.refl _ _).alloc (Nat.le_refl _) _
        have hnA : NB w7.heap.size (.slice A7 o.2.length c7) wA := by rw [hwA]; exact heap_alloc_new w7 _
        have HBAr := hide (HB7r.out.trans (hbA.mono HB7r.out.size))
        have HBA := hide (HB0.out.trans (HBAr.out.mono HB0.out.size))
        have HSLA := hide ((Sl.ok RRdn.ok).below HSL7.out hbA)
        obtain ⟨gA, hgA⟩ : ∃ g, w7.heap.size = g := ⟨_, rfl⟩
        rw [hgA] at hnA
        have HNA := hide hnA
        rw [← hwA]
        try rw [hgA]
        clear hwA hbA hnA hgA
        go_wp2_with fail
        refine (rNDecode_any y (by omega) _ (HMX.out.below HBA.out) (HTB.out.below HBA.out)).mono ?_
        rintro e w8 ⟨v8, he8, hsl8, hb8, hsm8⟩
        rw [HO.out, hkq] at he8
        rw [HO.out] at hsl8
        subst he8
        have HB8r := hide (HBAr.out.trans (hb8.mono HBAr.out.size))
        obtain ⟨A8, c8, hv8⟩ := hsl8.shape
        subst hv8
        have HNA8 := hide (HNA.out.below hb8)
        have HSLA8 := hide ((Sl.ok RRdn.ok).below HSLA.out hb8)
        have HSL8 := hide hsl8
        clear hb8 hsl8 hsm8
        go_upto_region 10 with fail
        obtain ⟨wC, hwC⟩ : ∃ W, W = w8.alloc (.cells #[.slice A8 o.2.length c8] 31) := ⟨_, rfl⟩
        have hbC : Below w8.heap.size w8 wC := by rw [hwC]; exact (Below.refl _ _).alloc (Nat.le_refl _) _
        have hnC : NB w8.heap.size (.slice A8 o.2.length c8) wC := by rw [hwC]; exact heap_alloc_new w8 _
        have HBCr := hide (HB8r.out.trans (hbC.mono HB8r.out.size))
        have HSLAC := hide ((Sl.ok RRdn.ok).below HSLA8.out hbC)
        have HSLC := hide ((Sl.ok RRdn.ok).below HSL8.out hbC)
        obtain ⟨d0, -⟩ := (HNA8.out.below hbC).facts
        obtain ⟨d1, -⟩ := hnC.facts
        have hqq : (kq != kq) = false := by simp
        rw [← hwC]
        clear hwC hbC hnC hkq
        go_wp2_with fail
        refine (Exact_same o.2 A7 A8 c7 c8 _ HSLAC.out HSLC.out).mono ?_
        rintro e w10 ⟨rfl, hb10⟩
        have HB10 := hide (HBCr.out.trans (hb10.mono HBCr.out.size))
        clear hb10 d0 d1
        go_wp2_with fail
        go_roundw
        case rel => exact ⟨k + 1, by omega, by go_num, HB10.out⟩
        case measure => simp [intOf]; omega
      · clear hb
        go_wp2_with fail
        refine (nawake_any _ (HMX.out.below HB.out)).mono ?_
        rintro e w9 ⟨rfl, hb9⟩
        have HB9 := hide (Below.trans HB.out (hb9.mono (Below.size HB.out)))
        clear hb9
        go_wp2_with fail
        go_ret
        exact ⟨rfl, HB9.out⟩
end Go.Proofs.YtbafpgdmnkkclaaGreatDoor

/- The reference's SameName, of names that are the same apart from the order of attributes. -/
namespace Go.Proofs.YtbafpgdmnkkclaaGreatDoor
open Go.RowKit

theorem sameNB_at : ∀ {n m : Name}, sameNB n m = true → n.length = m.length ∧ ∀ (i : Nat) (h : i < n.length) (h2 : i < m.length), n[i].length = m[i].length ∧ ∀ x ∈ n[i], x ∈ m[i]
  | [], [], _ => ⟨rfl, fun i h => absurd h (by simp)⟩
  | [], _ :: _, h => by simp [sameNB] at h
  | _ :: _, [], h => by simp [sameNB] at h
  | a :: n, b :: m, h => by
    rw [sameNB, Bool.and_eq_true] at h
    obtain ⟨h1, h2⟩ := sameNB_at h.2
    refine ⟨by simp [h1], fun i hi hi2 => ?_⟩
    match i, hi, hi2 with
    | 0, _, _ =>
      have h3 := h.1
      rw [sameRB, Bool.and_eq_true, decide_eq_true_eq, List.all_eq_true] at h3
      exact ⟨h3.1, fun x hx => List.contains_iff_mem.1 (h3.2 x hx)⟩
    | i + 1, hi, hi2 => exact h2 i (by simpa using hi) (by simpa using hi2)
theorem eql_att (ta va tb vb : ByteArray) (k l : Int) (W : World) : (binOp .eql 40 (.agg #[.string ta, .int .i64 k, .string va]) (.agg #[.string tb, .int .i64 l, .string vb])).run Tryz.prog W = .ok (.bool (ta.data.toList == tb.data.toList && (k == l && va.data.toList == vb.data.toList))) W := by
  have h0 := Tryz.underlying9
  have h1 := Tryz.underlying3
  have h2 := Tryz.underlying40
  have hp : Program.stoodInHeld Tryz.prog 40 = false := by kernel_rfl
  have hf : Program.fieldsOf Tryz.prog 40 = _ := rfl
  rw [← ByteArray.toList_eq, ← ByteArray.toList_eq, ← ByteArray.toList_eq, ← ByteArray.toList_eq]
  go_simp
  by_cases e1 : ta.toList = tb.toList
  · rw [if_pos e1]
    by_cases e2 : k = l
    · rw [if_pos e2]
      by_cases e3 : va.toList = vb.toList
      · rw [if_pos e3]; simp [e1, e2, e3]
      · rw [if_neg e3]; simp [e3]
    · rw [if_neg e2]; simp [e2]
  · rw [if_neg e1]; simp [e1]

set_option maxRecDepth 100000 in
set_option maxHeartbeats 8000000 in
theorem Same_true (n m : Name) (hnm : sameNB n m = true) (A B : Option Addr) (c d : Nat) (w : World) (h : Sl RRdn 1 w (Lt w.heap.size) n [.slice A n.length c]) (h2 : Sl RRdn 1 w (Lt w.heap.size) m [.slice B m.length d]) :
    Calls Tryz.prog 29 #[.agg #[.slice A n.length c], .agg #[.slice B m.length d]] w fun e w' => e = .returned (.bool true) ∧ Below w.heap.size w w' := by
  obtain ⟨hlen, hat⟩ := sameNB_at hnm
  have HAT := hide hat
  obtain ⟨N, hN⟩ : ∃ N, n.length = N := ⟨_, rfl⟩
  have hM : m.length = N := by omega
  obtain ⟨-, hnc, hcm⟩ := h.len_
  obtain ⟨-, hnc2, hcm2⟩ := h2.len_
  unfold maxLen at hcm hcm2
  rw [hN] at h hnc
  rw [hM] at h2 hnc2
  have K := hide h
  have K2 := hide h2
  have HN := hide hN
  have HM := hide hM
  rw [hN, hM]
  have t0 : ((N : Int) != (N : Int)) = false := by simp
  clear h h2 hlen hat hnm hN hM
  obtain ⟨wa, hwa⟩ : ∃ wa, wa = (w.alloc (.cells #[.slice A N c] 31)).alloc (.cells #[.slice B N d] 31) := ⟨_, rfl⟩
  have ha0 : wa.cell? ⟨w.heap.size, 0, none⟩ = some (.slice A N c) := by
    rw [hwa, World.cell?_alloc_lt _ _ _ (by simp), World.cell?_alloc_new]; rfl
  have ha1 : wa.cell? ⟨w.heap.size + 1, 0, none⟩ = some (.slice B N d) := by
    rw [hwa, show w.heap.size + 1 = (w.alloc (.cells #[.slice A N c] 31)).heap.size by simp, World.cell?_alloc_new]; rfl
  have hba : Below w.heap.size w wa := by rw [hwa]; exact ((Below.refl _ _).alloc (Nat.le_refl _) _).alloc (by simp) _
  have HA0 := hide ha0
  have HA1 := hide ha1
  have HBA := hide hba
  clear hba
  go_enter Tryz.func29, Tryz.ntmps29
  go_upto_region 1 with fail
  rw [← hwa]
  clear hwa
  go_wp2_with fail
  clear ha0 ha1
  go_loopw [21] (fun i wr => ∃ k : Nat, k ≤ N ∧ i = .int .i64 k ∧ Below wa.heap.size wa wr) (fun i _ => N - (intOf i).toNat)
  case atStart => exact ⟨0, by omega, rfl, Below.refl _ _⟩
  case round =>
    obtain ⟨k, hk, rfl, hb⟩ := hrel
    have hbw := HBA.out.trans (hb.mono HBA.out.size)
    by_cases hlt : k < N
    · obtain ⟨b1, o1, A1, c1, hA, hbS, d1, hsl1⟩ := K.out.rdnAt (i := k) (by rw [HN.out]; exact hlt)
      obtain ⟨b2, o2, A2, c2, hA2, hbS2, d2, hsl2⟩ := K2.out.rdnAt (i := k) (by rw [HM.out]; exact hlt)
      subst hA hA2
      have hbS' : b1 < w.heap.size := hbS
      have hbS2' : b2 < w.heap.size := hbS2
      obtain ⟨hrl, hmem⟩ := HAT.out k (by rw [HN.out]; exact hlt) (by rw [HM.out]; exact hlt)
      obtain ⟨r, hr⟩ : ∃ r, n[k]'(by rw [HN.out]; exact hlt) = r := ⟨_, rfl⟩
      obtain ⟨s, hs⟩ : ∃ s, m[k]'(by rw [HM.out]; exact hlt) = s := ⟨_, rfl⟩
      rw [hr] at d1 hsl1 hrl hmem
      rw [hs] at d2 hsl2 hrl hmem
      obtain ⟨R, hR⟩ : ∃ R, r.length = R := ⟨_, rfl⟩
      have hS : s.length = R := by omega
      rw [hR] at d1 hsl1
      rw [hS] at d2 hsl2
      have HR := hide hR
      have HS := hide hS
      have HMEM := hide hmem
      have e0 := cell_grows hb _ _ HA0.out
      have e1 := cell_grows hb _ _ HA1.out
      have e2 := (hbw.cell (p := ⟨b1, o1 + k, none⟩) hbS').trans d1
      have e3 := (hbw.cell (p := ⟨b2, o2 + k, none⟩) hbS2').trans d2
      have t1 : ((R : Int) != (R : Int)) = false := by simp
      have hk0 : (0 : Int) ≤ (k : Int) := by omega
      have hkn : (k : Int) < (N : Int) := by omega
      have S1 := hide hsl1
      have S2 := hide hsl2
      obtain ⟨hm1, hm1'⟩ := hsl1.len_.2
      obtain ⟨hm2, hm2'⟩ := hsl2.len_.2
      unfold maxLen at hm1' hm2'
      have HB := hide hb
      have E0 := hide e0
      have E1 := hide e1
      have E2 := hide e2
      have E3 := hide e3
      obtain ⟨wo, rfl⟩ : ∃ wo : World, wo = wr := ⟨_, rfl⟩
      clear hr hs d1 d2 hsl1 hsl2 hb hbw hR hS hrl hmem
      go_wp2_with fail
      go_quiet (fail)
      go_wp2_with fail
      clear t1 e0 e1 e2 e3
      go_loopw [43] (fun i wi => ∃ j : Nat, j ≤ R ∧ i = .int .i64 j ∧ Below wo.heap.size wo wi) (fun i _ => R - (intOf i).toNat)
      case atStart => exact ⟨0, by omega, rfl, below_drewN (Below.refl _ _) _⟩
      case round =>
        obtain ⟨j, hj, rfl, hb⟩ := hrel
        by_cases hjl : j < R
        · obtain ⟨b3, o3, hA3, hbS3, f0, f1, f2⟩ := S1.out.attAt (i := j) (by rw [HR.out]; exact hjl)
          subst hA3
          have hbS3' : b3 < w.heap.size := hbS3
          have hin := HMEM.out (r[j]'(by rw [HR.out]; exact hjl)) (List.getElem_mem _)
          obtain ⟨ta, va, kk, hrj⟩ : ∃ (ta va : ByteArray) (kk : Int), r[j]'(by rw [HR.out]; exact hjl) = (ta.data.toList, kk, va.data.toList) := ⟨⟨(r[j]'(by rw [HR.out]; exact hjl)).1.toArray⟩, ⟨(r[j]'(by rw [HR.out]; exact hjl)).2.2.toArray⟩, (r[j]'(by rw [HR.out]; exact hjl)).2.1, rfl⟩
          rw [hrj] at f0 f1 f2 hin
          have HIN := hide hin
          have hbw := HBA.out.trans ((HB.out.trans (hb.mono HB.out.size)).mono HBA.out.size)
          have f0' : wr.cell? ⟨b3, o3 + j * 3, none⟩ = some (.string ta) := (hbw.cell (p := ⟨b3, o3 + j * 3, none⟩) hbS3').trans f0
          have f1' : wr.cell? ⟨b3, o3 + j * 3 + 1, none⟩ = some (.int .i64 kk) := (hbw.cell (p := ⟨b3, o3 + j * 3 + 1, none⟩) hbS3').trans f1
          have f2' : wr.cell? ⟨b3, o3 + j * 3 + 2, none⟩ = some (.string va) := (hbw.cell (p := ⟨b3, o3 + j * 3 + 2, none⟩) hbS3').trans f2
          have HBI := hide hb
          obtain ⟨wi, rfl⟩ : ∃ wo : World, wo = wr := ⟨_, rfl⟩
          clear f0 f1 f2 hrj hbw hb hin
          go_upto_region 11 with fail
          obtain ⟨wx, hwx⟩ : ∃ W, W = wi.alloc (.cells #[.string ta, .int .i64 kk, .string va] 40) := ⟨_, rfl⟩
          have hbx : Below wi.heap.size wi wx := by rw [hwx]; exact (Below.refl _ _).alloc (Nat.le_refl _) _
          have x0 : wx.cell? ⟨wi.heap.size, 0, none⟩ = some (.string ta) := by rw [hwx, World.cell?_alloc_new]; rfl
          have x1 : wx.cell? ⟨wi.heap.size, 1, none⟩ = some (.int .i64 kk) := by rw [hwx, World.cell?_alloc_new]; rfl
          have x2 : wx.cell? ⟨wi.heap.size, 2, none⟩ = some (.string va) := by rw [hwx, World.cell?_alloc_new]; rfl
          have X0 := hide x0
          have X1 := hide x1
          have X2 := hide x2
          have HBX := hide (HBI.out.trans (hbx.mono HBI.out.size))
          obtain ⟨gx, hgx⟩ : ∃ g, wi.heap.size = g := ⟨_, rfl⟩
          rw [hgx] at X0 X1 X2
          rw [← hwx]
          try rw [hgx]
          have e0 := cell_grows HBX.out _ _ E0.out
          have e1 := cell_grows HBX.out _ _ E1.out
          have e2 := cell_grows HBX.out _ _ E2.out
          have e3 := cell_grows HBX.out _ _ E3.out
          clear hwx hbx hgx x0 x1 x2 f0' f1' f2'
          go_wp2_with fail
          clear e0 e1 e2 e3
          go_loopw [8, 53] (fun fb i wy => ∃ (q : Nat) (fnd : Bool), q ≤ R ∧ i = .int .i64 q ∧ fb = .bool fnd ∧ Below wx.heap.size wx wy ∧ Hid (∀ (p : Nat) (hp : p < s.length), p < q → s[p] = (ta.data.toList, kk, va.data.toList) → fnd = true)) (fun _ i _ => R - (intOf i).toNat)
          case atStart => exact ⟨0, false, by omega, rfl, rfl, Below.refl _ _, hide fun p hp hh => absurd hh (by omega)⟩
          case round =>
            obtain ⟨q, fnd, hq, rfl, rfl, hb, HF⟩ := hrel
            have x0 := cell_grows hb _ _ X0.out
            have x1 := cell_grows hb _ _ X1.out
            have x2 := cell_grows hb _ _ X2.out
            by_cases hql : q < R
            · obtain ⟨b4, o4, hA4, hbS4, g0, g1, g2⟩ := S2.out.attAt (i := q) (by rw [HS.out]; exact hql)
              subst hA4
              have hbS4' : b4 < w.heap.size := hbS4
              obtain ⟨tb, vb, kl, hsq⟩ : ∃ (tb vb : ByteArray) (kl : Int), s[q]'(by rw [HS.out]; exact hql) = (tb.data.toList, kl, vb.data.toList) := ⟨⟨(s[q]'(by rw [HS.out]; exact hql)).1.toArray⟩, ⟨(s[q]'(by rw [HS.out]; exact hql)).2.2.toArray⟩, (s[q]'(by rw [HS.out]; exact hql)).2.1, rfl⟩
              rw [hsq] at g0 g1 g2
              have hbw := HBA.out.trans ((HB.out.trans ((HBX.out.trans (hb.mono HBX.out.size)).mono HB.out.size)).mono HBA.out.size)
              have g0' : wr.cell? ⟨b4, o4 + q * 3, none⟩ = some (.string tb) := (hbw.cell (p := ⟨b4, o4 + q * 3, none⟩) hbS4').trans g0
              have g1' : wr.cell? ⟨b4, o4 + q * 3 + 1, none⟩ = some (.int .i64 kl) := (hbw.cell (p := ⟨b4, o4 + q * 3 + 1, none⟩) hbS4').trans g1
              have g2' : wr.cell? ⟨b4, o4 + q * 3 + 2, none⟩ = some (.string vb) := (hbw.cell (p := ⟨b4, o4 + q * 3 + 2, none⟩) hbS4').trans g2
              obtain ⟨bq, hbq⟩ : ∃ bq, (ta.data.toList == tb.data.toList && (kk == kl && va.data.toList == vb.data.toList)) = bq := ⟨_, rfl⟩
              have heq : ∀ W : World, (binOp .eql 40 (.agg #[.string ta, .int .i64 kk, .string va]) (.agg #[.string tb, .int .i64 kl, .string vb])).run Tryz.prog W = .ok (.bool bq) W := fun W => hbq ▸ eql_att ta va tb vb kk kl W
              have HEQ := hide (show ∀ (h : q < s.length), s[q] = (ta.data.toList, kk, va.data.toList) → bq = true from fun _ e => by
                rw [hsq] at e
                simp only [Prod.mk.injEq] at e
                rw [← hbq, e.1, e.2.1, e.2.2]
                simp)
              have HBY := hide hb
              clear g0 g1 g2 hsq hbw hb hbq
              obtain ⟨wz, rfl⟩ : ∃ wo : World, wo = wr := ⟨_, rfl⟩
              go_upto_region 15 with fail
              obtain ⟨wy, hwy⟩ : ∃ W, W = wz.alloc (.cells #[.string tb, .int .i64 kl, .string vb] 40) := ⟨_, rfl⟩
              have hby : Below wz.heap.size wz wy := by rw [hwy]; exact (Below.refl _ _).alloc (Nat.le_refl _) _
              have y0 : wy.cell? ⟨wz.heap.size, 0, none⟩ = some (.string tb) := by rw [hwy, World.cell?_alloc_new]; rfl
              have y1 : wy.cell? ⟨wz.heap.size, 1, none⟩ = some (.int .i64 kl) := by rw [hwy, World.cell?_alloc_new]; rfl
              have y2 : wy.cell? ⟨wz.heap.size, 2, none⟩ = some (.string vb) := by rw [hwy, World.cell?_alloc_new]; rfl
              have z0 := cell_grows hby _ _ x0
              have z1 := cell_grows hby _ _ x1
              have z2 := cell_grows hby _ _ x2
              have HBZ := hide (HBY.out.trans (hby.mono HBY.out.size))
              rw [← hwy]
              clear hwy hby x0 x1 x2 g0' g1' g2'
              cases fnd with
              | true =>
                go_wp2_with fail
                go_roundw
                case rel => exact ⟨q + 1, true, by omega, by go_num, rfl, HBZ.out, hide fun _ _ _ _ => rfl⟩
                case measure => simp [intOf]; omega
              | false =>
                go_wp2_with fail
                go_roundw
                case rel => exact ⟨q + 1, bq, by omega, by go_num, rfl, HBZ.out, hide fun p hp hh e => by
                  by_cases hpq : p < q
                  · have := HF.out p hp hpq e
                    cases this
                  · have : p = q := by omega
                    subst this
                    exact HEQ.out hp e⟩
                case measure => simp [intOf]; omega
            · have hft : fnd = true := by
                obtain ⟨p, hp, e⟩ := List.mem_iff_getElem.1 HIN.out
                exact HF.out p hp (by have := HS.out; omega) e
              have HBY := hide (HBX.out.trans (hb.mono HBX.out.size))
              subst hft
              clear hb x0 x1 x2
              go_wp2_with fail
              go_roundw
              case rel => exact ⟨j + 1, by omega, by go_num, HBY.out⟩
              case measure => simp [intOf]; omega
        · have HBI := hide (HB.out.trans (hb.mono HB.out.size))
          clear hb
          go_wp2_with fail
          go_roundw
          case rel => exact ⟨k + 1, by omega, by go_num, HBI.out⟩
          case measure => simp [intOf]; omega
    · clear hb
      go_wp2_with fail
      go_ret
      exact ⟨rfl, hbw⟩
end Go.Proofs.YtbafpgdmnkkclaaGreatDoor

/- The law NameBack, its walk. -/
namespace Go.Proofs.YtbafpgdmnkkclaaGreatDoor
open Go.RowKit

theorem chkN_zero {n : Name} {k : Int} (h : decNF (.ok n) = .error k) : k ≠ 0 := by
  unfold decNF at h
  intro e
  subst e
  simp only at h
  split at h
  · cases h
  · rename_i hn
    exact hn (Except.error.inj h)
theorem decN_err0 (b : List UInt8) : decN b ≠ .error 0 := by
  intro h
  unfold decN at h
  cases h1 : oneF b with
  | error k =>
    rw [h1] at h
    simp only [decNO, Except.error.injEq] at h
    subst h
    exact one_err0 b h1
  | ok e =>
    rw [h1, decNO] at h
    cases h2 : openF e.1 48 e.2.1 with
    | error k =>
      rw [h2] at h
      simp only [decNG, Except.error.injEq] at h
      subst h
      exact openF_err0 h2
    | ok l =>
      rw [h2, decNG] at h
      cases h3 : mapE decR l with
      | error k =>
        rw [h3] at h
        simp only [decNF, Except.error.injEq] at h
        subst h
        exact mapE_err0 decR_err0 l h3
      | ok n =>
        rw [h3] at h
        exact chkN_zero h rfl


set_option maxRecDepth 100000 in
set_option maxHeartbeats 8000000 in
theorem NameBack_any (l : List Int) (A : Option Addr) (n c : Nat) (s : ByteArray) (_hsm : s.size ≤ maxLen) (w : World) (hmx : Mx w) (htb : Tb w) (h : Sl RInt 1 w (Lt w.heap.size) l [.slice A n c]) :
    Calls Tryz.prog 7 #[.slice A n c, .string s] w fun e w' => e = .returned (.bool true) ∧ Below w.heap.size w w' := by
  have HMX := hide hmx
  have HTB := hide htb
  have K := hide h
  clear hmx htb h
  by_cases hs : 400 < s.size
  · go_enter Tryz.func7, Tryz.ntmps7
    go_wp2_with fail
    refine (nawake_any _ (HMX.out.below (Below.refl w.heap.size w))).mono ?_
    rintro e w9 ⟨rfl, hb9⟩
    have HB9 := hide (Below.trans (Below.refl w.heap.size w) (hb9.mono (Below.size (Below.refl w.heap.size w))))
    clear hb9
    go_wp2_with fail
    go_ret
    exact ⟨rfl, HB9.out⟩
  · go_enter Tryz.func7, Tryz.ntmps7
    go_wp2_with fail
    refine (New_any l A n c _ K.out).mono ?_
    rintro e w1 ⟨rfl, hd1, hb1⟩
    have HD1 := hide hd1
    have HB1 := hide hb1
    have hz1 := hb1.size
    obtain ⟨d, hd⟩ : ∃ d, d = w.heap.size := ⟨_, rfl⟩
    rw [← hd] at HD1 ⊢
    have hdw : w.heap.size ≤ d := by omega
    clear hd1 hb1 hd
    go_wp2_with fail
    refine (Name_any d _ HD1.out).mono ?_
    rintro e w2 ⟨nm, v, hgn, rfl, hsl, hd2, hx2⟩
    have HB2 := hide (Ex.below HB1.out hz1 hdw hx2)
    have hslL := (Sl.ok RRdn.ok).mono hsl (fun _ _ => rfl) (S' := Lt w2.heap.size) (fun _ hj => hj.2)
    obtain ⟨A2, c2, hv⟩ := hslL.shape
    subst hv
    have HSM := hide (hgn.bnd.small (by omega))
    have hck := hgn.chk
    obtain ⟨S, hS⟩ : ∃ S : ByteArray, S = ⟨(encB nm).toArray⟩ := ⟨_, rfl⟩
    have hSs : S.size ≤ 40000 := by
      have := encN_size nm
      rw [encN, if_pos hck] at this
      rw [hS, ba_mk]; exact this
    have HEN := hide (show wrapR (encN nm) = .tuple #[.string S, .int .i64 0] by rw [encN, if_pos hck, wrapR, hS])
    have HDN := hide (show toP (decN S.data.toList) = (0, nm.map sortR) by rw [hS]; exact congrArg toP (decN_enc hck))
    have HSAME := hide (same_sort nm)
    obtain ⟨wA, hwA⟩ : ∃ W, W = w2.alloc (.cells #[.slice A2 nm.length c2] 31) := ⟨_, rfl⟩
    have hbA : Below w2.heap.size w2 wA := by rw [hwA]; exact (Below.refl _ _).alloc (Nat.le_refl _) _
    have hnA : NB w2.heap.size (.slice A2 nm.length c2) wA := by rw [hwA]; exact heap_alloc_new w2 _
    have HBA := hide (HB2.out.trans (hbA.mono HB2.out.size))
    have HSLA := hide ((Sl.ok RRdn.ok).below hslL hbA)
    obtain ⟨gA, hgA⟩ : ∃ g, w2.heap.size = g := ⟨_, rfl⟩
    rw [hgA] at hnA
    have HNA := hide hnA
    obtain ⟨d0, -⟩ := hnA.facts
    clear hd2 hx2 hsl hslL hgn hck hS hbA hnA
    go_upto_region 4 with fail
    rw [← hwA]
    try rw [hgA]
    clear hwA hgA
    go_wp2_with fail
    refine (NEncode_any nm A2 c2 _ (HMX.out.below HBA.out) HSLA.out HSM.out).mono ?_
    rintro e w3 ⟨rfl, hb3⟩
    rw [HEN.out]
    have HB3 := hide (HBA.out.trans (hb3.mono HBA.out.size))
    have HN3 := hide (HNA.out.below hb3)
    have HSL3 := hide ((Sl.ok RRdn.ok).below HSLA.out hb3)
    clear hb3 d0
    go_wp2_with fail
    refine (NDecode_any S (by omega) _ (HMX.out.below HB3.out) (HTB.out.below HB3.out)).mono ?_
    rintro e w4 ⟨v4, he4, hsl4, hb4, hsm4⟩
    rw [HDN.out] at he4 hsl4
    subst he4
    obtain ⟨A4, c4, hv4⟩ := hsl4.shape
    subst hv4
    have HB4 := hide (HB3.out.trans (hb4.mono HB3.out.size))
    have HN4 := hide (HN3.out.below hb4)
    have HSL4 := hide ((Sl.ok RRdn.ok).below HSL3.out hb4)
    have HSM4 := hide hsl4
    clear hb4 hsl4 hsm4
    go_upto_region 6 with fail
    obtain ⟨mm, hmm⟩ : ∃ mm, nm.map sortR = mm := ⟨_, rfl⟩
    rw [hmm] at HSAME
    have hml : mm.length = nm.length := by rw [← hmm, List.length_map]
    have HSM4m := hide (show Sl RRdn 1 w4 (Lt w4.heap.size) mm [.slice A4 nm.length c4] by rw [← hml, ← hmm]; exact HSM4.out)
    obtain ⟨wC, hwC⟩ : ∃ W, W = w4.alloc (.cells #[.slice A4 nm.length c4] 31) := ⟨_, rfl⟩
    have hbC : Below w4.heap.size w4 wC := by rw [hwC]; exact (Below.refl _ _).alloc (Nat.le_refl _) _
    have hnC : NB w4.heap.size (.slice A4 nm.length c4) wC := by rw [hwC]; exact heap_alloc_new w4 _
    have HBC := hide (HB4.out.trans (hbC.mono HB4.out.size))
    have HSLn := hide ((Sl.ok RRdn.ok).below HSL4.out hbC)
    have HSLm := hide ((Sl.ok RRdn.ok).below HSM4m.out hbC)
    have HSC := hide (show Calls Tryz.prog 29 #[.agg #[.slice A2 nm.length c2], .agg #[.slice A4 nm.length c4]] wC fun e w' => e = .returned (.bool true) ∧ Below wC.heap.size wC w' by
      have h2 := HSLm.out
      rw [← hml] at h2
      have := Same_true nm mm HSAME.out A2 A4 c2 c4 wC HSLn.out h2
      rw [hml] at this
      exact this)
    obtain ⟨d0, -⟩ := (HN4.out.below hbC).facts
    obtain ⟨d1, -⟩ := hnC.facts
    rw [← hwC]
    clear hwC hbC hnC hmm HSM4 hml
    go_wp2_with fail
    refine HSC.out.mono ?_
    rintro e w5 ⟨rfl, hb5⟩
    have HB5 := hide (HBC.out.trans (hb5.mono HBC.out.size))
    clear hb5 d0 d1
    obtain ⟨o, ho⟩ : ∃ o, decN s.data.toList = o := ⟨_, rfl⟩
    have HO := hide ho
    clear ho
    go_wp2_with fail
    refine (NDecode_any s (by omega) _ (HMX.out.below HB5.out) (HTB.out.below HB5.out)).mono ?_
    rintro e w6 ⟨v6, he6, hsl6, hb6, hsm6⟩
    rw [HO.out] at he6 hsl6 hsm6
    subst he6
    obtain ⟨A6, c6, hv6⟩ := hsl6.shape
    subst hv6
    have HB6 := hide (HB5.out.trans (hb6.mono HB5.out.size))
    have HSL6 := hide hsl6
    have HSM6 := hide hsm6
    clear hb6 hsl6 hsm6
    cases o with
    | error k =>
      have hk : k ≠ 0 := fun e => decN_err0 _ (e ▸ HO.out)
      have hk2 : (k == 0) = false := beq_false_of_ne hk
      rw [show (toP (.error k)).1 = k from rfl]
      have HB7 := hide (HB6.out.alloc HB6.out.size (.cells #[.slice A6 (toP (Except.error k)).2.length c6] 31))
      clear hk
      go_upto_region 9 with fail
      obtain ⟨wD, hwD⟩ : ∃ W, W = w6.alloc (.cells #[.slice A6 (toP (Except.error k)).2.length c6] 31) := ⟨_, rfl⟩
      rw [← hwD] at HB7 ⊢
      clear hwD
      go_wp2_with fail
      refine (nawake_any _ (HMX.out.below HB7.out)).mono ?_
      rintro e w9 ⟨rfl, hb9⟩
      have HB9 := hide (Below.trans HB7.out (hb9.mono (Below.size HB7.out)))
      clear hb9
      go_wp2_with fail
      go_ret
      exact ⟨rfl, HB9.out⟩
    | ok x =>
      have HSLx := hide (show Sl RRdn 1 w6 (Lt w6.heap.size) x [.slice A6 x.length c6] from HSL6.out)
      have HSMx := hide (show SmallN x from HSM6.out)
      rw [show (toP (.ok x)).1 = 0 from rfl, show (toP (.ok x)).2 = x from rfl]
      have HEX := hide (show wrapR (encN x) = .tuple #[.string s, .int .i64 0] by rw [enc_decN HO.out, wrapR])
      obtain ⟨wD, hwD⟩ : ∃ W, W = w6.alloc (.cells #[.slice A6 x.length c6] 31) := ⟨_, rfl⟩
      have hbD : Below w6.heap.size w6 wD := by rw [hwD]; exact (Below.refl _ _).alloc (Nat.le_refl _) _
      have hnD : NB w6.heap.size (.slice A6 x.length c6) wD := by rw [hwD]; exact heap_alloc_new w6 _
      have HBD := hide (HB6.out.trans (hbD.mono HB6.out.size))
      have HSLD := hide ((Sl.ok RRdn.ok).below HSLx.out hbD)
      obtain ⟨d0, -⟩ := hnD.facts
      clear hbD hnD
      go_upto_region 9 with fail
      rw [← hwD]
      clear hwD
      go_wp2_with fail
      refine (NEncode_any x A6 c6 _ (HMX.out.below HBD.out) HSLD.out HSMx.out).mono ?_
      rintro e w7 ⟨rfl, hb7⟩
      rw [HEX.out]
      have HB7 := hide (HBD.out.trans (hb7.mono HBD.out.size))
      clear hb7 d0
      go_wp2_with fail
      refine (nawake_any _ (HMX.out.below HB7.out)).mono ?_
      rintro e w9 ⟨rfl, hb9⟩
      have HB9 := hide (Below.trans HB7.out (hb9.mono (Below.size HB7.out)))
      clear hb9
      go_wp2_with fail
      go_ret
      exact ⟨rfl, HB9.out⟩
end Go.Proofs.YtbafpgdmnkkclaaGreatDoor
