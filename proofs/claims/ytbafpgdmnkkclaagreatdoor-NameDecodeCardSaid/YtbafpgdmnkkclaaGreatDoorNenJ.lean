/- The law NameDecode, its walk. -/
import Derived.Test.YtbafpgdmnkkclaaGreatDoorNen3
import Derived.Test.YtbafpgdmnkkclaaGreatDoorNamT
import Derived.Test.YtbafpgdmnkkclaaGreatDoorNamZ
import Derived.Test.YtbafpgdmnkkclaaGreatDoorNamK
import Derived.Test.YtbafpgdmnkkclaaGreatDoorMad1
namespace Go.Proofs.YtbafpgdmnkkclaaGreatDoor
open Go.RowKit

/-- a row of four texts of bounded length -/
def T4 (g : Nat) (W : World) : Prop := ∀ k, k < 4 → ∃ y : ByteArray, y.size ≤ 10000000 ∧ W.cell? ⟨g, k, none⟩ = some (.string y)
theorem T4.new (w : World) (a b c d : ByteArray) (ha : a.size ≤ 10000000) (hb : b.size ≤ 10000000) (hc : c.size ≤ 10000000) (hd : d.size ≤ 10000000) : T4 w.heap.size (w.alloc (.cells #[.string a, .string b, .string c, .string d] 9)) := fun k hk => by
  rw [World.cell?_alloc_new]
  match k, hk with
  | 0, _ => exact ⟨_, ha, rfl⟩
  | 1, _ => exact ⟨_, hb, rfl⟩
  | 2, _ => exact ⟨_, hc, rfl⟩
  | 3, _ => exact ⟨_, hd, rfl⟩
theorem encN_size (n : Name) : (encN n).1.length ≤ 40000 := by
  unfold encN
  by_cases h : chkN n = 0
  · rw [if_pos h]
    have := encB_len h
    show (wrapW 48 (n.flatMap encQ)).length ≤ _
    rw [wrapW_len]
    have := lenB_le (n.flatMap encQ).length
    omega
  · rw [if_neg h]; simp


set_option maxRecDepth 100000 in
set_option maxHeartbeats 8000000 in
theorem NameDecode_any (s : ByteArray) (_hsm : s.size ≤ maxLen) (l : List Int) (A : Option Addr) (n c : Nat) (w : World) (hmx : Mx w) (htb : Tb w) (h : Sl RInt 1 w (Lt w.heap.size) l [.slice A n c]) :
    Calls Tryz.prog 3 #[.string s, .slice A n c] w fun e w' => e = .returned (.bool true) ∧ Below w.heap.size w w' := by
  have HMX := hide hmx
  have HTB := hide htb
  have K := hide h
  clear hmx htb h
  by_cases hs : 400 < s.size
  · go_enter Tryz.func3, Tryz.ntmps3
    go_wp2_with fail
    refine (nawake_any _ (HMX.out.below (Below.refl w.heap.size w))).mono ?_
    rintro e w9 ⟨rfl, hb9⟩
    have HB9 := hide (Below.trans (Below.refl w.heap.size w) (hb9.mono (Below.size (Below.refl w.heap.size w))))
    clear hb9
    go_wp2_with fail
    go_ret
    exact ⟨rfl, HB9.out⟩
  · go_enter Tryz.func3, Tryz.ntmps3
    go_wp2_with fail
    refine (New_any l A n c _ K.out).mono ?_
    rintro e w1 ⟨rfl, hd1, hb1⟩
    have HD1 := hide hd1
    have HB1 := hide hb1
    have hz1 := hb1.size
    obtain ⟨d, hd⟩ : ∃ d, d = w.heap.size := ⟨_, rfl⟩
    rw [← hd] at HD1 ⊢
    have hdw : w.heap.size ≤ d := by omega
    clear hd1 hb1 hd
    go_wp2_with fail
    refine (Name_any d _ HD1.out).mono ?_
    rintro e w2 ⟨nm, v, hgn, rfl, hsl, hd2, hx2⟩
    have HD2 := hide hd2
    have HB2 := hide (Ex.below HB1.out hz1 hdw hx2)
    have hslL := (Sl.ok RRdn.ok).mono hsl (fun _ _ => rfl) (S' := Lt w2.heap.size) (fun _ hj => hj.2)
    obtain ⟨A2, c2, hv⟩ := hslL.shape
    subst hv
    have HSL := hide hslL
    have HSM := hide (hgn.bnd.small (by omega))
    clear hd2 hx2 hsl hslL hgn
    go_wp2_with fail
    refine (rEncodeName_any nm A2 c2 _ (HMX.out.below HB2.out) HSL.out HSM.out).mono ?_
    rintro e w3 ⟨rfl, hb3⟩
    have HD3 := hide (HD2.out.below hb3)
    have HB3 := hide (HB2.out.trans (hb3.mono HB2.out.size))
    clear hb3
    have hel := encN_size nm
    obtain ⟨S, hS⟩ : ∃ S : ByteArray, S = ⟨(encN nm).1.toArray⟩ := ⟨_, rfl⟩
    have hSs : S.size ≤ 40000 := by rw [hS, ba_mk]; exact hel
    obtain ⟨kk, hkk⟩ : ∃ kk, (encN nm).2 = kk := ⟨_, rfl⟩
    rw [wrapR, ← hS, hkk]
    clear hS hkk hel
    go_wp2_with fail
    refine (Damage_any d S (by omega) _ HD3.out).mono ?_
    rintro e w4 ⟨y1, hy1, rfl, hd4, hx4⟩
    have HD4 := hide hd4
    have HB4 := hide (Ex.below HB3.out HB3.out.size hdw hx4)
    clear hd4 hx4
    go_wp2_with fail
    refine (Rewrap_any S.size d S _ (Nat.le_refl _) (by omega) HD4.out).mono ?_
    rintro e w5 ⟨y2, hy2, rfl, hd5, hx5⟩
    have HB5 := hide (Ex.below HB4.out HB4.out.size hdw hx5)
    clear hd5 hx5
    obtain ⟨W0, hW0⟩ : ∃ W, W = w5.alloc (.cells #[.string s, .string y1, .string y2, .string S] 9) := ⟨_, rfl⟩
    have ht4 := T4.new w5 s y1 y2 S (by omega) (by omega) (by omega) (by omega)
    rw [← hW0] at ht4
    have HB0 := hide (show Below w.heap.size w W0 by rw [hW0]; exact HB5.out.alloc HB5.out.size _)
    have hg0 : w5.heap.size < W0.heap.size := by rw [hW0]; simp
    obtain ⟨g, hg⟩ : ∃ g, g = w5.heap.size := ⟨_, rfl⟩
    rw [← hg] at ht4 hg0
    have HT4 := hide ht4
    go_wp2_with fail
    rw [← hW0, ← hg]
    clear hW0 hg ht4
    go_loopw [36] (fun i wr => ∃ k : Nat, k ≤ 4 ∧ i = .int .i64 k ∧ Below W0.heap.size W0 wr) (fun i _ => 4 - (intOf i).toNat)
    case atStart => exact ⟨0, by omega, rfl, Below.refl _ _⟩
    case round =>
      obtain ⟨k, hk, rfl, hb⟩ := hrel
      have HB := hide (HB0.out.trans (hb.mono HB0.out.size))
      by_cases hlt : k < 4
      · obtain ⟨y, hys, hcell0⟩ := HT4.out k hlt
        have hcell := (hb.cell (p := ⟨g, k, none⟩) hg0).trans hcell0
        have HBr := hide hb
        obtain ⟨o, ho⟩ : ∃ o, toP (decN y.data.toList) = o := ⟨_, rfl⟩
        have HO := hide ho
        clear hcell0 hb ho
        go_wp2_with fail
        refine (NDecode_any y (by omega) _ (HMX.out.below HB.out) (HTB.out.below HB.out)).mono ?_
        rintro e w7 ⟨v7, he7, hsl7, hb7, hsm7⟩
        rw [HO.out] at he7 hsl7 hsm7
        subst he7
        have HB7r := hide (HBr.out.trans (hb7.mono HBr.out.size))
        have HB7 := hide (HB0.out.trans (HB7r.out.mono HB0.out.size))
        obtain ⟨A7, c7, hv7⟩ := hsl7.shape
        subst hv7
        have HSL7 := hide hsl7
        clear hb7 hcell hsl7 hsm7
        obtain ⟨kq, hkq⟩ : ∃ kq, o.1 = kq := ⟨_, rfl⟩
        rw [hkq]
        go_upto_region 9 with fail
        obtain ⟨wA, hwA⟩ : ∃ W, W = w7.alloc (.cells #[.slice A7 o.2.length c7] 31) := ⟨_, rfl⟩
        have hbA : Below w7.heap.size w7 wA := by rw [hwA]; exact (Below.refl _ _).alloc (Nat.le_refl _) _
        have hnA : NB w7.heap.size (.slice A7 o.2.length c7) wA := by rw [hwA]; exact heap_alloc_new w7 _
        have HBAr := hide (HB7r.out.trans (hbA.mono HB7r.out.size))
        have HBA := hide (HB0.out.trans (HBAr.out.mono HB0.out.size))
        have HSLA := hide ((Sl.ok RRdn.ok).below HSL7.out hbA)
        obtain ⟨gA, hgA⟩ : ∃ g, w7.heap.size = g := ⟨_, rfl⟩
        rw [hgA] at hnA
        have HNA := hide hnA
        rw [← hwA]
        try rw [hgA]
        clear hwA hbA hnA hgA
        go_wp2_with fail
        refine (rNDecode_any y (by omega) _ (HMX.out.below HBA.out) (HTB.out.below HBA.out)).mono ?_
        rintro e w8 ⟨v8, he8, hsl8, hb8, hsm8⟩
        rw [HO.out, hkq] at he8
        rw [HO.out] at hsl8
        subst he8
        have HB8r := hide (HBAr.out.trans (hb8.mono HBAr.out.size))
        obtain ⟨A8, c8, hv8⟩ := hsl8.shape
        subst hv8
        have HNA8 := hide (HNA.out.below hb8)
        have HSLA8 := hide ((Sl.ok RRdn.ok).below HSLA.out hb8)
        have HSL8 := hide hsl8
        clear hb8 hsl8 hsm8
        go_upto_region 10 with fail
        obtain ⟨wC, hwC⟩ : ∃ W, W = w8.alloc (.cells #[.slice A8 o.2.length c8] 31) := ⟨_, rfl⟩
        have hbC : Below w8.heap.size w8 wC := by rw [hwC]; exact (Below.refl _ _).alloc (Nat.le_refl _) _
        have hnC : NB w8.heap.size (.slice A8 o.2.length c8) wC := by rw [hwC]; exact heap_alloc_new w8 _
        have HBCr := hide (HB8r.out.trans (hbC.mono HB8r.out.size))
        have HSLAC := hide ((Sl.ok RRdn.ok).below HSLA8.out hbC)
        have HSLC := hide ((Sl.ok RRdn.ok).below HSL8.out hbC)
        obtain ⟨d0, -⟩ := (HNA8.out.below hbC).facts
        obtain ⟨d1, -⟩ := hnC.facts
        have hqq : (kq != kq) = false := by simp
        rw [← hwC]
        clear hwC hbC hnC hkq
        go_wp2_with fail
        refine (Exact_same o.2 A7 A8 c7 c8 _ HSLAC.out HSLC.out).mono ?_
        rintro e w10 ⟨rfl, hb10⟩
        have HB10 := hide (HBCr.out.trans (hb10.mono HBCr.out.size))
        clear hb10 d0 d1
        go_wp2_with fail
        go_roundw
        case rel => exact ⟨k + 1, by omega, by go_num, HB10.out⟩
        case measure => simp [intOf]; omega
      · clear hb
        go_wp2_with fail
        refine (nawake_any _ (HMX.out.below HB.out)).mono ?_
        rintro e w9 ⟨rfl, hb9⟩
        have HB9 := hide (Below.trans HB.out (hb9.mono (Below.size HB.out)))
        clear hb9
        go_wp2_with fail
        go_ret
        exact ⟨rfl, HB9.out⟩
end Go.Proofs.YtbafpgdmnkkclaaGreatDoor
