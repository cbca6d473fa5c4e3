/- The law KeyinfoDecode, its walk. -/
import Derived.Test.YtbafpgdmnkkclaaDoorKeyO
namespace Go.Proofs.YtbafpgdmnkkclaaDoor
open Go.RowKit

/-- a row of five texts of bounded length -/
def K5 (g : Nat) (W : World) : Prop := ∀ k, k < 5 → ∃ y : ByteArray, y.size ≤ 10000000 ∧ W.cell? ⟨g, k, none⟩ = some (.string y)
theorem K5.new (w : World) (a b c d e : ByteArray) (ha : a.size ≤ 10000000) (hb : b.size ≤ 10000000) (hc : c.size ≤ 10000000) (hd : d.size ≤ 10000000) (he : e.size ≤ 10000000) : K5 w.heap.size (w.alloc (.cells #[.string a, .string b, .string c, .string d, .string e] 9)) := fun k hk => by
  rw [World.cell?_alloc_new]
  match k, hk with
  | 0, _ => exact ⟨_, ha, rfl⟩
  | 1, _ => exact ⟨_, hb, rfl⟩
  | 2, _ => exact ⟨_, hc, rfl⟩
  | 3, _ => exact ⟨_, hd, rfl⟩
  | 4, _ => exact ⟨_, he, rfl⟩
theorem dec_shape (y : ByteArray) : ∃ (h : Int) (i r : ByteArray) (k : Int), decKR (decK y.data.toList) = .tuple #[.agg #[.int .i64 h, .string i, .string r], .int .i64 k] := by
  rcases dec_or y with ⟨k, _, h⟩ | ⟨h, i, r, hq, _⟩
  · exact ⟨_, _, _, _, h⟩
  · exact ⟨_, _, _, _, hq⟩


set_option maxRecDepth 100000 in
set_option maxHeartbeats 8000000 in
theorem KeyinfoDecode_any (s : ByteArray) (l : List Int) (A : Option Addr) (n c : Nat) (w : World) (hmx : Mx w) (htb : Tb w) (h : Sl RInt 1 w (Lt w.heap.size) l [.slice A n c]) :
    Calls Tryd.prog 3 #[.string s, .slice A n c] w fun e w' => e = .returned (.bool true) ∧ Below w.heap.size w w' := by
  have HMX := hide hmx
  have HTB := hide htb
  have K := hide h
  clear hmx htb h
  by_cases hs : 300 < s.size
  · go_enter Tryd.func3, Tryd.ntmps3
    go_wp2_with fail
    refine (kawake_any _ (HMX.out.below (Below.refl w.heap.size w)) (HTB.out.below (Below.refl w.heap.size w))).mono ?_
    rintro e w9 ⟨rfl, hb9⟩
    have HB9 := hide (Below.trans (Below.refl w.heap.size w) (hb9.mono (Below.size (Below.refl w.heap.size w))))
    clear hb9
    go_wp2_with fail
    go_ret
    exact ⟨rfl, HB9.out⟩
  · go_enter Tryd.func3, Tryd.ntmps3
    go_wp2_with fail
    refine (New_any l A n c _ K.out).mono ?_
    rintro e w1 ⟨rfl, hd1, hb1⟩
    have HD1 := hide hd1
    have HB1 := hide hb1
    have hz1 := hb1.size
    obtain ⟨d, hd⟩ : ∃ d, d = w.heap.size := ⟨_, rfl⟩
    rw [← hd] at HD1 ⊢
    have hdw : w.heap.size ≤ d := by omega
    clear hd1 hb1 hd
    go_wp2_with fail
    refine (Key_any d _ HD1.out).mono ?_
    rintro e w2 ⟨h, i, r, hh, hi, hr, rfl, hd2, hx2⟩
    have HB2 := hide (Ex.below HB1.out hz1 hdw hx2)
    have HD2 := hide hd2
    obtain ⟨S, hSs, hE, -⟩ := made_back hh hi hr
    have HE := hide hE
    clear hd2 hx2 hE
    go_wp2_with fail
    refine (rEncodeKey_any (h : Int) i r _).mono ?_
    rintro e w3 ⟨rfl, hb3⟩
    rw [HE.out]
    have HD3 := hide (HD2.out.below hb3)
    have HB3 := hide (HB2.out.trans (hb3.mono HB2.out.size))
    clear hb3
    go_wp2_with fail
    refine (Damage_any d S (by omega) _ HD3.out).mono ?_
    rintro e w4 ⟨y1, hy1, rfl, hd4, hx4⟩
    have HD4 := hide hd4
    have HB4 := hide (Ex.below HB3.out HB3.out.size hdw hx4)
    clear hd4 hx4
    go_wp2_with fail
    refine (Rewrap_any S.size d S _ (Nat.le_refl _) (by omega) HD4.out).mono ?_
    rintro e w5 ⟨y2, hy2, rfl, hd5, hx5⟩
    have HD5 := hide hd5
    have HB5 := hide (Ex.below HB4.out HB4.out.size hdw hx5)
    clear hd5 hx5
    go_wp2_with fail
    refine (Rewrap_any S.size d S _ (Nat.le_refl _) (by omega) HD5.out).mono ?_
    rintro e w6 ⟨y3, hy3, rfl, hd6, hx6⟩
    have HB6 := hide (Ex.below HB5.out HB5.out.size hdw hx6)
    clear hd6 hx6
    obtain ⟨W0, hW0⟩ : ∃ W, W = w6.alloc (.cells #[.string s, .string S, .string y1, .string y2, .string y3] 9) := ⟨_, rfl⟩
    have ht5 := K5.new w6 s S y1 y2 y3 (by omega) (by omega) (by omega) (by omega) (by omega)
    rw [← hW0] at ht5
    have HB0 := hide (show Below w.heap.size w W0 by rw [hW0]; exact HB6.out.alloc HB6.out.size _)
    have hg0 : w6.heap.size < W0.heap.size := by rw [hW0]; simp
    obtain ⟨g, hg⟩ : ∃ g, g = w6.heap.size := ⟨_, rfl⟩
    rw [← hg] at ht5 hg0
    have HT5 := hide ht5
    go_wp2_with fail
    rw [← hW0, ← hg]
    clear hW0 hg ht5
    go_loopw [39] (fun i wr => ∃ k : Nat, k ≤ 5 ∧ i = .int .i64 k ∧ Below W0.heap.size W0 wr) (fun i _ => 5 - (intOf i).toNat)
    case atStart => exact ⟨0, by omega, rfl, Below.refl _ _⟩
    case round =>
      obtain ⟨k, hk, rfl, hb⟩ := hrel
      have HB := hide (HB0.out.trans (hb.mono HB0.out.size))
      by_cases hlt : k < 5
      · obtain ⟨y, hys, hcell0⟩ := HT5.out k hlt
        have hcell := (hb.cell (p := ⟨g, k, none⟩) hg0).trans hcell0
        have HBr := hide hb
        obtain ⟨h7, i7, r7, k7, hq⟩ := dec_shape y
        have HQ := hide hq
        clear hcell0 hb hq
        go_wp2_with fail
        refine (KDecode_any y (by omega) _ (HTB.out.below HB.out)).mono ?_
        rintro e w7 ⟨rfl, hb7⟩
        rw [HQ.out]
        obtain ⟨W8, hW8⟩ : ∃ W, W = w7.alloc (.cells #[.int .i64 h7, .string i7, .string r7] 30) := ⟨_, rfl⟩
        have hk8 := KX.new w7 h7 i7 r7
        have hb8 : Below W0.heap.size W0 W8 := by rw [hW8]; exact (HBr.out.trans (hb7.mono HBr.out.size)).alloc (Nat.le_trans HBr.out.size hb7.size) _
        rw [← hW8] at hk8
        have HK8 := hide hk8
        have HB8 := hide hb8
        clear hk8 hb8 hb7 hcell
        go_upto_region 9 with fail
        rw [← hW8]
        clear hW8
        obtain ⟨g8, hg8⟩ : ∃ g, w7.heap.size = g := ⟨_, rfl⟩
        rw [hg8] at HK8 ⊢
        clear hg8
        go_wp2_with fail
        refine (rDecodeKey_any y (by omega) _).mono ?_
        rintro e w9 ⟨rfl, hb9⟩
        rw [HQ.out]
        obtain ⟨W10, hW10⟩ : ∃ W, W = w9.alloc (.cells #[.int .i64 h7, .string i7, .string r7] 30) := ⟨_, rfl⟩
        have hk10 := KX.new w9 h7 i7 r7
        have hb10 : Below W8.heap.size W8 W10 := by rw [hW10]; exact hb9.alloc hb9.size _
        rw [← hW10] at hk10
        have HK10 := hide hk10
        have HK810 := hide (HK8.out.below hb10)
        have HB10 := hide (HB8.out.trans (hb10.mono HB8.out.size))
        clear hk10 hb10 hb9
        go_upto_region 10 with fail
        rw [← hW10]
        clear hW10
        obtain ⟨g10, hg10⟩ : ∃ g, w9.heap.size = g := ⟨_, rfl⟩
        rw [hg10] at HK10 ⊢
        clear hg10
        obtain ⟨n0, n1, n2, -, -, -⟩ := HK810.out.facts
        obtain ⟨m0, m1, m2, -, -, -⟩ := HK10.out.facts
        have t9 : (k7 != k7) = false := by simp
        have t8 : (h7 == h7) = true := by simp
        go_wp2_with fail
        go_roundw
        case rel => exact ⟨k + 1, by omega, by go_num, HB10.out⟩
        case measure => simp [intOf]; omega
      · clear hb
        go_wp2_with fail
        refine (kawake_any _ (HMX.out.below HB.out) (HTB.out.below HB.out)).mono ?_
        rintro e w9 ⟨rfl, hb9⟩
        have HB9 := hide (Below.trans HB.out (hb9.mono (Below.size HB.out)))
        clear hb9
        go_wp2_with fail
        go_ret
        exact ⟨rfl, HB9.out⟩
end Go.Proofs.YtbafpgdmnkkclaaDoor
