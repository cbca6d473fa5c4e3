/- The law ExtBack, its walk. -/
import Derived.Test.YtiikpdjjhnhiiaaDoorExtQ
namespace Go.Proofs.YtiikpdjjhnhiiaaDoor
open Go.RowKit

theorem decXs_err0 : ∀ L : List Elt, decXs L ≠ .error 0
  | [], h => by cases h
  | e :: r, h => by
    unfold decXs at h
    cases h1 : decX e with
    | error k =>
      rw [h1] at h
      simp only [Except.error.injEq] at h
      subst h
      exact decX_err0 e h1
    | ok x =>
      rw [h1] at h
      cases h2 : decXs r with
      | error k =>
        rw [h2] at h
        simp only [Except.error.injEq] at h
        subst h
        exact decXs_err0 r h2
      | ok l => rw [h2] at h; cases h
theorem decE_err0 (b : List UInt8) : decE b ≠ .error 0 := by
  rw [decE_eq]
  intro h
  unfold decOG at h
  cases h1 : oneF b with
  | error k =>
    rw [h1] at h
    simp only [Except.error.injEq] at h
    subst h
    exact one_err0 b h1
  | ok e =>
    rw [h1] at h
    simp only at h
    split at h
    · cases h
    · unfold decLG at h
      cases h2 : listF e.2.1 with
      | error k =>
        rw [h2] at h
        simp only [Except.error.injEq] at h
        subst h
        exact list_err0 _ _ (Nat.le_refl _) h2
      | ok l =>
        rw [h2] at h
        simp only at h
        unfold decYG at h
        cases h3 : decXs l with
        | error k =>
          rw [h3] at h
          simp only [Except.error.injEq] at h
          subst h
          exact decXs_err0 _ h3
        | ok xs =>
          rw [h3] at h
          simp only at h
          split at h
          · cases h
          · rename_i hn
            simp only [Except.error.injEq] at h
            exact hn h


set_option maxRecDepth 100000 in
set_option maxHeartbeats 8000000 in
theorem ExtBack_any (l : List Int) (A : Option Addr) (n c : Nat) (u : Int) (hu : (Lit.int .u8 u).wf = true) (w : World) (hmx : Mx w) (htb : Tb w) (h : Sl RInt 1 w (Lt w.heap.size) l [.slice A n c]) :
    Calls Tryd.prog 8 #[.slice A n c, .int .u8 u] w fun e w' => e = .returned (.bool true) ∧ Below w.heap.size w w' := by
  have HMX := hide hmx
  have HTB := hide htb
  have K := hide h
  clear hmx htb h
  obtain ⟨m, hm⟩ : ∃ m : Nat, u % 6 = (m : Int) := ⟨(u % 6).toNat, by omega⟩
  have hm5 : m < 6 := by omega
  have hu0 : 0 ≤ u ∧ u ≤ 255 := by simpa [Lit.wf, IntKind.min, IntKind.max, IntKind.signed, IntKind.bits] using hu
  obtain ⟨hu1, hu2⟩ := hu0
  have hm1 : IntKind.i64.wrap ((1 : Int) + (m : Int)) = ((1 + m : Nat) : Int) := by rw [IntWalk.i64_in _ (by omega)]; omega
  have hmi : (m : Int) < 6 := by omega
  clear hu
  go_enter Tryd.func8, Tryd.ntmps8
  go_wp2_with fail
  refine (New_any l A n c _ K.out).mono ?_
  rintro e w1 ⟨rfl, hd1, hb1⟩
  have HD1 := hide hd1
  have HB1 := hide hb1
  have hz1 := hb1.size
  obtain ⟨d, hd⟩ : ∃ d, d = w.heap.size := ⟨_, rfl⟩
  rw [← hd] at HD1 ⊢
  have hdw : w.heap.size ≤ d := by omega
  clear hd1 hb1 hd
  go_wp2_with fail
  refine (listX_any d (1 + m) (by omega) _ HD1.out).mono ?_
  rintro e w2 ⟨xs, AX, cX, rfl, hsx, hslx, hd2, hx2⟩
  have HD2 := hide hd2
  have HB2 := hide (Ex.below HB1.out hz1 hdw hx2)
  have HSX := hide (made_sl (_d := d) hslx)
  have HSM := hide (small_of hsx)
  have hsm := encE_small (l := xs) (fun x hx => (hsx x hx).2)
  have HSW := hide hsm
  clear hd2 hx2 hslx hsx hsm
  go_wp2_with fail
  refine (EEncode_any xs AX cX _ (HMX.out.below HB2.out) HSX.out HSM.out).mono ?_
  rintro e w3 ⟨rfl, hb3⟩
  have HD3 := hide (HD2.out.below hb3)
  have HB3 := hide (HB2.out.trans (hb3.mono HB2.out.size))
  have HSX3 := hide ((Sl.ok RExt.ok).mono HSX.out (fun j hj => hb3.block j hj) (S' := Lt w3.heap.size) (fun j hj => Nat.lt_of_lt_of_le hj hb3.size))
  clear hb3
  have hel := encE_size xs
  obtain ⟨S, hS⟩ : ∃ S : ByteArray, S = ⟨(encE xs).1.toArray⟩ := ⟨_, rfl⟩
  have hSs : S.size ≤ 131077 := by rw [hS, ba_mk]; exact hel
  have hSl : S.data.toList = (encE xs).1 := by rw [hS]
  obtain ⟨kk, hkk⟩ : ∃ kk, (encE xs).2 = kk := ⟨_, rfl⟩
  rw [wrapR, ← hS, hkk]
  clear hel
  by_cases hk0 : kk = 0
  · subst hk0
    have hdec : decE S.data.toList = .ok xs := by rw [hSl]; exact (decE_enc (show encE xs = ((encE xs).1, 0) from Prod.ext rfl hkk)).1
    have HDEC := hide hdec
    clear hS hSl hkk hdec
    go_wp2_with fail
    refine (EDecode_any S (by omega) _ (HMX.out.below HB3.out) (HTB.out.below HB3.out)).mono ?_
    rintro e w4 ⟨hb4, hres⟩
    rw [HDEC.out] at hres
    obtain ⟨A4, c4, rfl, hsl4, _⟩ := hres
    have HD4 := hide (HD3.out.below hb4)
    have HB4 := hide (HB3.out.trans (hb4.mono HB3.out.size))
    have HSX4 := hide ((Sl.ok RExt.ok).mono HSX3.out (fun j hj => hb4.block j hj) (S' := Lt w4.heap.size) (fun j hj => Nat.lt_of_lt_of_le hj hb4.size))
    have HSL4 := hide hsl4
    clear hb4 hsl4
    go_wp2_with fail
    refine (Same_same xs AX A4 cX c4 _ HSX4.out HSL4.out).mono ?_
    rintro e w5 ⟨rfl, hb5⟩
    have HD5 := hide (HD4.out.below hb5)
    have HB5 := hide (HB4.out.trans (hb5.mono HB4.out.size))
    clear hb5
    go_wp2_with fail
    refine (Rewrap_any S.size d S _ (Nat.le_refl _) (by omega) HD5.out).mono ?_
    rintro e w6 ⟨y, hy, rfl, hd6, hx6⟩
    have HB6 := hide (Ex.below HB5.out HB5.out.size hdw hx6)
    clear hd6 hx6
    obtain ⟨o, ho⟩ : ∃ o, decE y.data.toList = o := ⟨_, rfl⟩
    have HO := hide ho
    clear ho
    go_wp2_with fail
    refine (EDecode_any y (by omega) _ (HMX.out.below HB6.out) (HTB.out.below HB6.out)).mono ?_
    rintro e w7 ⟨hb7, hres⟩
    rw [HO.out] at hres
    have HB7 := hide (HB6.out.trans (hb7.mono HB6.out.size))
    clear hb7
    cases o with
    | error k1 =>
      obtain rfl : e = _ := hres
      have hk1 : k1 ≠ 0 := fun h => decE_err0 _ (h ▸ HO.out)
      have t9 : (k1 == 0) = false := beq_false_of_ne hk1
      go_wp2_with fail
      refine (xawake_any _ (HMX.out.below HB7.out) (HTB.out.below HB7.out)).mono ?_
      rintro e w9 ⟨rfl, hb9⟩
      have HB9 := hide (Below.trans HB7.out (hb9.mono (Below.size HB7.out)))
      clear hb9
      go_wp2_with fail
      go_ret
      exact ⟨rfl, HB9.out⟩
    | ok zs =>
      obtain ⟨A7, c7, rfl, hsl7, hsm7⟩ := hres
      have HSL7 := hide hsl7
      have HSM7 := hide hsm7
      have hez := enc_decE HO.out
      have HEZ := hide (show wrapR (encE zs) = .tuple #[.string y, .int .i64 0] by rw [hez]; rfl)
      clear hsl7 hsm7 hez
      go_wp2_with fail
      refine (EEncode_any zs A7 c7 _ (HMX.out.below HB7.out) HSL7.out HSM7.out).mono ?_
      rintro e w8 ⟨rfl, hb8⟩
      rw [HEZ.out]
      have HB8 := hide (HB7.out.trans (hb8.mono HB7.out.size))
      clear hb8
      go_wp2_with fail
      refine (xawake_any _ (HMX.out.below HB8.out) (HTB.out.below HB8.out)).mono ?_
      rintro e w9 ⟨rfl, hb9⟩
      have HB9 := hide (Below.trans HB8.out (hb9.mono (Below.size HB8.out)))
      clear hb9
      go_wp2_with fail
      go_ret
      exact ⟨rfl, HB9.out⟩
  · have hsw := HSW.out
    rw [hkk] at hsw
    have hc : chkE xs = kk := hsw.1.symm
    have hSe : S = ⟨#[]⟩ := by rw [hS, hsw.2 (hc ▸ hk0)]
    have HC := hide hc
    have t9 : (kk == kk) = true := by simp
    have t8 : (kk != 0) = true := by simp [hk0]
    subst hSe
    clear hS hSl hkk hsw hc
    go_wp2_with fail
    refine (xawake_any _ (HMX.out.below HB3.out) (HTB.out.below HB3.out)).mono ?_
    rintro e w4 ⟨rfl, hb4⟩
    have HB4 := hide (HB3.out.trans (hb4.mono HB3.out.size))
    have HSX4 := hide ((Sl.ok RExt.ok).mono HSX3.out (fun j hj => hb4.block j hj) (S' := Lt w4.heap.size) (fun j hj => Nat.lt_of_lt_of_le hj hb4.size))
    clear hb4
    go_wp2_with fail
    refine (echk_q xs kk HC.out AX cX _ (HMX.out.below HB4.out) HSX4.out HSM.out).mono ?_
    rintro e w5 ⟨rfl, hb5⟩
    have HB5 := hide (HB4.out.trans (hb5.mono HB4.out.size))
    clear hb5
    go_wp2_with fail
    go_ret
    exact ⟨rfl, HB5.out⟩
end Go.Proofs.YtiikpdjjhnhiiaaDoor
