/- The law KeyinfoBack, its walk. -/
import Derived.Test.YtbafpgdmnkkclaaDoorKey2
import Derived.Test.YtbafpgdmnkkclaaDoorMad1
namespace Go.Proofs.YtbafpgdmnkkclaaDoor
open Go.RowKit

theorem bitK_err0 (x : Elt) (q : List Elt) : bitK x q ≠ .error 0 := by
  unfold bitK
  intro h
  split at h
  · cases h
  · split at h
    · cases h
    · repeat' split at h
      all_goals cases h
theorem decK_err0 (b : List UInt8) : decK b ≠ .error 0 := by
  unfold decK
  intro h
  cases h1 : oneF b with
  | error k =>
    rw [h1] at h
    simp only [Except.error.injEq] at h
    subst h
    exact one_err0 b h1
  | ok e =>
    rw [h1] at h
    simp only at h
    split at h
    · cases h
    · cases h2 : listF e.2.1 with
      | error k =>
        rw [h2] at h
        simp only [Except.error.injEq] at h
        subst h
        exact list_err0 _ _ (Nat.le_refl _) h2
      | ok l =>
        rw [h2] at h
        simp only at h
        unfold decKl at h
        split at h
        · cases h
        · split at h
          · rename_i hne
            simp only [Except.error.injEq] at h
            exact hne h
          · unfold keyT at h
            split at h
            · cases h
            · exact bitK_err0 _ _ h
/-- what Decode answers: an error, or a key that Encode writes back -/
theorem dec_or (y : ByteArray) : (∃ k : Int, k ≠ 0 ∧ decKR (decK y.data.toList) = .tuple #[.agg #[.int .i64 0, .string ⟨#[]⟩, .string ⟨#[]⟩], .int .i64 k]) ∨
    ∃ (h : Int) (i r : ByteArray), decKR (decK y.data.toList) = .tuple #[.agg #[.int .i64 h, .string i, .string r], .int .i64 0] ∧ wrapR (encK (h, i.data.toList, r.data.toList)) = .tuple #[.string y, .int .i64 0] := by
  cases hk : decK y.data.toList with
  | error k => exact .inl ⟨k, fun h => decK_err0 _ (h ▸ hk), rfl⟩
  | ok k =>
    refine .inr ⟨k.1, ⟨k.2.1.toArray⟩, ⟨k.2.2.toArray⟩, rfl, ?_⟩
    have := enc_decK hk
    show wrapR (encK k) = _
    rw [this]
    rfl


set_option maxRecDepth 100000 in
set_option maxHeartbeats 8000000 in
theorem KeyinfoBack_any (l : List Int) (A : Option Addr) (n c : Nat) (w : World) (hmx : Mx w) (htb : Tb w) (h : Sl RInt 1 w (Lt w.heap.size) l [.slice A n c]) :
    Calls Tryd.prog 5 #[.slice A n c] w fun e w' => e = .returned (.bool true) ∧ Below w.heap.size w w' := by
  have HMX := hide hmx
  have HTB := hide htb
  have K := hide h
  clear hmx htb h
  go_enter Tryd.func5, Tryd.ntmps5
  go_wp2_with fail
  refine (New_any l A n c _ K.out).mono ?_
  rintro e w1 ⟨rfl, hd1, hb1⟩
  have HD1 := hide hd1
  have HB1 := hide hb1
  have hz1 := hb1.size
  obtain ⟨d, hd⟩ : ∃ d, d = w.heap.size := ⟨_, rfl⟩
  rw [← hd] at HD1 ⊢
  have hdw : w.heap.size ≤ d := by omega
  clear hd1 hb1 hd
  go_wp2_with fail
  refine (Key_any d _ HD1.out).mono ?_
  rintro e w2 ⟨h, i, r, hh, hi, hr, rfl, hd2, hx2⟩
  have HB2 := hide (Ex.below HB1.out hz1 hdw hx2)
  obtain ⟨S, hSs, hE, hD⟩ := made_back hh hi hr
  have HE := hide hE
  have HD := hide hD
  obtain ⟨W3, hW3⟩ : ∃ W, W = w2.alloc (.cells #[.int .i64 (h : Int), .string i, .string r] 30) := ⟨_, rfl⟩
  have hk3 := KX.new w2 (h : Int) i r
  have hb3 : Below w.heap.size w W3 := by rw [hW3]; exact HB2.out.alloc HB2.out.size _
  have hd3 : DeckAt W3 d := by rw [hW3]; exact hd2.alloc _
  rw [← hW3] at hk3
  have HK3 := hide hk3
  have HB3 := hide hb3
  have HD3 := hide hd3
  clear hd2 hx2 hE hD hk3 hb3 hd3
  go_upto_region 3 with fail
  rw [← hW3]
  clear hW3
  obtain ⟨g, hg⟩ : ∃ g, w2.heap.size = g := ⟨_, rfl⟩
  rw [hg] at HK3 ⊢
  clear hg
  obtain ⟨n0, n1, n2, -, -, -⟩ := HK3.out.facts
  go_wp2_with fail
  refine (KEncode_any (h : Int) i r _ (HMX.out.below HB3.out)).mono ?_
  rintro e w4 ⟨rfl, hb4⟩
  rw [HE.out]
  have HB4 := hide (HB3.out.trans (hb4.mono HB3.out.size))
  have HK4 := hide (HK3.out.below hb4)
  have HD4 := hide (HD3.out.below hb4)
  clear hb4 n0 n1 n2
  go_wp2_with fail
  refine (KDecode_any S (by omega) _ (HTB.out.below HB4.out)).mono ?_
  rintro e w5 ⟨rfl, hb5⟩
  rw [HD.out]
  obtain ⟨W6, hW6⟩ : ∃ W, W = w5.alloc (.cells #[.int .i64 (h : Int), .string i, .string r] 30) := ⟨_, rfl⟩
  have hk6 := KX.new w5 (h : Int) i r
  have hb6 : Below w4.heap.size w4 W6 := by rw [hW6]; exact hb5.alloc hb5.size _
  rw [← hW6] at hk6
  have HK6 := hide hk6
  have HKg := hide (HK4.out.below hb6)
  have HD6 := hide (HD4.out.below hb6)
  have HB6 := hide (HB4.out.trans (hb6.mono HB4.out.size))
  clear hk6 hb6 hb5
  go_upto_region 5 with fail
  rw [← hW6]
  clear hW6
  obtain ⟨g2, hg2⟩ : ∃ g, w5.heap.size = g := ⟨_, rfl⟩
  rw [hg2] at HK6 ⊢
  clear hg2
  obtain ⟨n0, n1, n2, -, -, -⟩ := HKg.out.facts
  obtain ⟨m0, m1, m2, -, -, -⟩ := HK6.out.facts
  go_wp2_with fail
  refine (Rewrap_any S.size d S _ (Nat.le_refl _) (by omega) HD6.out).mono ?_
  rintro e w7 ⟨y, hy, rfl, hd7, hx7⟩
  have HB7 := hide (Ex.below HB6.out HB6.out.size hdw hx7)
  have hys : y.size ≤ 1000000000 := by omega
  clear hd7 hx7 n0 n1 n2 m0 m1 m2 hy
  go_wp2_with fail
  refine (KDecode_any y hys _ (HTB.out.below HB7.out)).mono ?_
  rintro e w8 ⟨rfl, hb8⟩
  have HB8 := hide (HB7.out.trans (hb8.mono HB7.out.size))
  clear hb8
  rcases dec_or y with ⟨k, hk, hq⟩ | ⟨h2, i2, r2, hq, he2⟩
  · rw [hq]
    have tk : (k == 0) = false := beq_false_of_ne hk
    have HB9 := hide (HB8.out.alloc (o := .cells #[.int .i64 0, .string ⟨#[]⟩, .string ⟨#[]⟩] 30) HB8.out.size)
    clear hq hk
    go_wp2_with fail
    refine (kawake_any _ (HMX.out.below HB9.out) (HTB.out.below HB9.out)).mono ?_
    rintro e w9 ⟨rfl, hb9⟩
    have HB9 := hide (Below.trans HB9.out (hb9.mono (Below.size HB9.out)))
    clear hb9
    go_wp2_with fail
    go_ret
    exact ⟨rfl, HB9.out⟩
  · rw [hq]
    have HE2 := hide he2
    obtain ⟨W9, hW9⟩ : ∃ W, W = w8.alloc (.cells #[.int .i64 h2, .string i2, .string r2] 30) := ⟨_, rfl⟩
    have hk9 := KX.new w8 h2 i2 r2
    have hb9 : Below w.heap.size w W9 := by rw [hW9]; exact HB8.out.alloc HB8.out.size _
    rw [← hW9] at hk9
    have HK9 := hide hk9
    have HB9 := hide hb9
    clear hq he2 hk9 hb9
    go_upto_region 10 with fail
    rw [← hW9]
    clear hW9
    obtain ⟨g3, hg3⟩ : ∃ g, w8.heap.size = g := ⟨_, rfl⟩
    rw [hg3] at HK9 ⊢
    clear hg3
    obtain ⟨n0, n1, n2, -, -, -⟩ := HK9.out.facts
    go_wp2_with fail
    refine (KEncode_any h2 i2 r2 _ (HMX.out.below HB9.out)).mono ?_
    rintro e w10 ⟨rfl, hb10⟩
    rw [HE2.out]
    have HB10 := hide (HB9.out.trans (hb10.mono HB9.out.size))
    clear hb10 n0 n1 n2
    go_wp2_with fail
    refine (kawake_any _ (HMX.out.below HB10.out) (HTB.out.below HB10.out)).mono ?_
    rintro e w9 ⟨rfl, hb9⟩
    have HB9 := hide (Below.trans HB10.out (hb9.mono (Below.size HB10.out)))
    clear hb9
    go_wp2_with fail
    go_ret
    exact ⟨rfl, HB9.out⟩
end Go.Proofs.YtbafpgdmnkkclaaDoor
