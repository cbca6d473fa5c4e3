/- The program's hash: one block. -/
import Derived.Test.YtmgnihmjjijdoaaDoorKShaK
namespace Go.Proofs.YtmgnihmjjijdoaaDoor
open Go.RowKit
set_option maxRecDepth 100000 in
set_option maxHeartbeats 16000000 in
theorem block_any (s : S8) (A : Option Addr) (c : Nat) (b : List UInt8) (hb : b.length = 64) (w : World) (h : Sl RByte 1 w (Lt w.heap.size) b [.slice A 64 c]) :
  Calls Tryd.prog 61 #[s.val, .slice A 64 c] w fun e w' => e = .returned (blockS b s).val ∧ Below w.heap.size w w' := by
 obtain ⟨bA, oA, xsA, rfl, hbA, -⟩ := h.at_ (i := 0) (by omega)
 have HS := hide h
 have hbA' : bA < w.heap.size := hbA
 clear h hbA
 obtain ⟨W1, hW1⟩ : ∃ W, W = w.alloc (.cells s.arr 96) := ⟨_, rfl⟩
 obtain ⟨W2, hW2⟩ : ∃ W, W = W1.alloc (.cells #[.int .u32 0, .int .u32 0, .int .u32 0, .int .u32 0, .int .u32 0, .int .u32 0, .int .u32 0, .int .u32 0] 96) := ⟨_, rfl⟩
 obtain ⟨W3, hW3⟩ : ∃ W, W = W2.alloc (.cells #[.int .u32 0, .int .u32 0, .int .u32 0, .int .u32 0, .int .u32 0, .int .u32 0, .int .u32 0, .int .u32 0, .int .u32 0, .int .u32 0, .int .u32 0, .int .u32 0, .int .u32 0, .int .u32 0, .int .u32 0, .int .u32 0, .int .u32 0, .int .u32 0, .int .u32 0, .int .u32 0, .int .u32 0, .int .u32 0, .int .u32 0, .int .u32 0, .int .u32 0, .int .u32 0, .int .u32 0, .int .u32 0, .int .u32 0, .int .u32 0, .int .u32 0, .int .u32 0, .int .u32 0, .int .u32 0, .int .u32 0, .int .u32 0, .int .u32 0, .int .u32 0, .int .u32 0, .int .u32 0, .int .u32 0, .int .u32 0, .int .u32 0, .int .u32 0, .int .u32 0, .int .u32 0, .int .u32 0, .int .u32 0, .int .u32 0, .int .u32 0, .int .u32 0, .int .u32 0, .int .u32 0, .int .u32 0, .int .u32 0, .int .u32 0, .int .u32 0, .int .u32 0, .int .u32 0, .int .u32 0, .int .u32 0, .int .u32 0, .int .u32 0, .int .u32 0] 91) := ⟨_, rfl⟩
 have hz1 : W1.heap.size = w.heap.size + 1 := by rw [hW1]; simp
 have hz2 : W2.heap.size = w.heap.size + 1 + 1 := by rw [hW2, World.size_alloc, hz1]
 have b1 : Below w.heap.size w W1 := by rw [hW1]; exact (Below.refl _ _).alloc (Nat.le_refl _) _
 have b2 : Below W1.heap.size W1 W2 := by rw [hW2]; exact (Below.refl _ _).alloc (Nat.le_refl _) _
 have b3 : Below W2.heap.size W2 W3 := by rw [hW3]; exact (Below.refl _ _).alloc (Nat.le_refl _) _
 have v1 : HV w.heap.size s W1 := by rw [hW1]; exact HV.new w s
 have v2 : HV (w.heap.size + 1) zeroS W2 := by rw [hW2, ← hz1]; exact HV.new W1 zeroS
 have v3 : A64 (w.heap.size + 1 + 1) (f16 b 0) W3 := by rw [hW3, ← hz2]; exact z_new W2 _
 have HST := hide (show BSt w w.heap.size (w.heap.size + 1) (w.heap.size + 1 + 1) s (f16 b 0) W3 from
  ⟨b1.trans ((b2.trans (b3.mono b2.size)).mono b1.size), (v1.below b2).below b3, v2.below b3, v3, Nat.le_refl _, by omega, by omega⟩)
 clear hz1 hz2 b1 b2 b3 v1 v2 v3
 go_enter Tryd.func61, Tryd.ntmps61
 go_upto_region 2 with fail
 change Code.wp _ _ _ _ (((w.alloc (.cells s.arr 96)).alloc (.cells #[.int .u32 0, .int .u32 0, .int .u32 0, .int .u32 0, .int .u32 0, .int .u32 0, .int .u32 0, .int .u32 0] 96)).alloc (.cells #[.int .u32 0, .int .u32 0, .int .u32 0, .int .u32 0, .int .u32 0, .int .u32 0, .int .u32 0, .int .u32 0, .int .u32 0, .int .u32 0, .int .u32 0, .int .u32 0, .int .u32 0, .int .u32 0, .int .u32 0, .int .u32 0, .int .u32 0, .int .u32 0, .int .u32 0, .int .u32 0, .int .u32 0, .int .u32 0, .int .u32 0, .int .u32 0, .int .u32 0, .int .u32 0, .int .u32 0, .int .u32 0, .int .u32 0, .int .u32 0, .int .u32 0, .int .u32 0, .int .u32 0, .int .u32 0, .int .u32 0, .int .u32 0, .int .u32 0, .int .u32 0, .int .u32 0, .int .u32 0, .int .u32 0, .int .u32 0, .int .u32 0, .int .u32 0, .int .u32 0, .int .u32 0, .int .u32 0, .int .u32 0, .int .u32 0, .int .u32 0, .int .u32 0, .int .u32 0, .int .u32 0, .int .u32 0, .int .u32 0, .int .u32 0, .int .u32 0, .int .u32 0, .int .u32 0, .int .u32 0, .int .u32 0, .int .u32 0, .int .u32 0, .int .u32 0] 91))
 rw [← hW1]
 rw [← hW2]
 rw [← hW3]
 clear hW1 hW2 hW3
 obtain ⟨gH, hgH⟩ : ∃ g, w.heap.size = g := ⟨_, rfl⟩
 obtain ⟨gR, hgR⟩ : ∃ g, gH + 1 = g := ⟨_, rfl⟩
 obtain ⟨gW, hgW⟩ : ∃ g, gR + 1 = g := ⟨_, rfl⟩
 have HST0 := hide (show BSt w gH gR gW s (f16 b 0) W3 by rw [← hgW, ← hgR, ← hgH]; exact HST.out)
 rw [hgH, hgR, hgW]
 clear HST hgH hgR hgW
 have HBS := hide hb
 clear hb
 go_wp2_with fail
 go_loopw [6] (fun i wr => ∃ k : Nat, k ≤ 16 ∧ i = .int .i64 k ∧ BSt w gH gR gW s (f16 b k) wr) (fun i _ => 16 - (intOf i).toNat)
 case atStart => exact ⟨0, by omega, rfl, HST0.out⟩
 case round =>
  obtain ⟨k, hk, rfl, hst⟩ := hrel
  have HST := hide hst
  have ha := hst.a
  have hbel := hst.below
  clear hst
  by_cases hlt : k < 16
  ·have hbs := HBS.out
   obtain ⟨n0, hn0⟩ : ∃ n0, n0 = 4 * k := ⟨_, rfl⟩
   obtain ⟨n1, hn1⟩ : ∃ n1, n1 = 4 * k + 1 := ⟨_, rfl⟩
   obtain ⟨n2, hn2⟩ : ∃ n2, n2 = 4 * k + 2 := ⟨_, rfl⟩
   obtain ⟨n3, hn3⟩ : ∃ n3, n3 = 4 * k + 3 := ⟨_, rfl⟩
   have l0 : n0 < b.length := by omega
   have l1 : n1 < b.length := by omega
   have l2 : n2 < b.length := by omega
   have l3 : n3 < b.length := by omega
   have i0 : (4 : Int) * (k : Int) = (n0 : Int) := by omega
   have i1 : (n0 : Int) + 1 = (n1 : Int) := by omega
   have i2 : (n0 : Int) + 2 = (n2 : Int) := by omega
   have i3 : (n0 : Int) + 3 = (n3 : Int) := by omega
   have q0 := (hbel.cell (p := ⟨bA, oA + n0, none⟩) hbA').trans (HS.out.byteAt9 l0).2
   have q1 := (hbel.cell (p := ⟨bA, oA + n1, none⟩) hbA').trans (HS.out.byteAt9 l1).2
   have q2 := (hbel.cell (p := ⟨bA, oA + n2, none⟩) hbA').trans (HS.out.byteAt9 l2).2
   have q3 := (hbel.cell (p := ⟨bA, oA + n3, none⟩) hbA').trans (HS.out.byteAt9 l3).2
   obtain ⟨c0, hc0⟩ : ∃ c, b[n0] = c := ⟨_, rfl⟩
   obtain ⟨c1, hc1⟩ : ∃ c, b[n1] = c := ⟨_, rfl⟩
   obtain ⟨c2, hc2⟩ : ∃ c, b[n2] = c := ⟨_, rfl⟩
   obtain ⟨c3, hc3⟩ : ∃ c, b[n3] = c := ⟨_, rfl⟩
   rw [hc0] at q0
   rw [hc1] at q1
   rw [hc2] at q2
   rw [hc3] at q3
   have hcell := ha.cell (show k < 64 by omega)
   have hfr := ha.frozen k
   have HV := hide (show wordB b k = c0.toUInt32 <<< 24 ||| c1.toUInt32 <<< 16 ||| c2.toUInt32 <<< 8 ||| c3.toUInt32 by
    rw [wordB, ← hn3, ← hn2, ← hn1, ← hn0, getD_l b n0 l0, getD_l b n1 l1, getD_l b n2 l2, getD_l b n3 l3, hc0, hc1, hc2, hc3])
   have m0 : n0 < 64 := by omega
   have m1 : n1 < 64 := by omega
   have m2 : n2 < 64 := by omega
   have m3 : n3 < 64 := by omega
   clear ha hbs hn0 hn1 hn2 hn3 hc0 hc1 hc2 hc3 l0 l1 l2 l3 hbel
   go_wp2_with fail
   go_region
   all_goals
    clear hcell hfr i0 i1 i2 i3 q0 q1 q2 q3 m0 m1 m2 m3
    go_wp2_with fail
    go_roundw
    case rel =>
     refine ⟨k + 1, by omega, by go_num, ?_⟩
     simp only [w_byte_mod, wsl24, wsl16, wsl8, w_or]
     exact (HST.out.store (f' := f16 b (k + 1)) ((f16_at _ _).trans HV.out) (fun j _ hne => f16_step _ hne)).drew
    case measure => simp [intOf]; omega
  ·have hk16 : k = 16 := by omega
   have HST1 := hide (show BSt w gH gR gW s (f64 b 16) wr by rw [← f16_f64, ← hk16]; exact HST.out)
   clear ha hbel hk16
   obtain ⟨wy, hwy⟩ : ∃ W, W = wr := ⟨_, rfl⟩
   go_wp2_with fail
   go_loopw [7] (fun i wr => ∃ k : Nat, 16 ≤ k ∧ k ≤ 64 ∧ i = .int .i64 k ∧ BSt w gH gR gW s (f64 b k) wr) (fun i _ => 64 - (intOf i).toNat)
   case atStart => exact ⟨16, by omega, by omega, rfl, HST1.out⟩
   case round =>
    obtain ⟨k, hk16, hk, rfl, hst⟩ := hrel
    have HST2 := hide hst
    have ha := hst.a
    clear hst
    by_cases hlt2 : k < 64
    ·obtain ⟨q15, hq15⟩ : ∃ q, q = k - 15 := ⟨_, rfl⟩
     obtain ⟨q2, hq2⟩ : ∃ q, q = k - 2 := ⟨_, rfl⟩
     obtain ⟨q16, hq16⟩ : ∃ q, q = k - 16 := ⟨_, rfl⟩
     obtain ⟨q7, hq7⟩ : ∃ q, q = k - 7 := ⟨_, rfl⟩
     have i15 : (k : Int) - 15 = (q15 : Int) := by omega
     have i2 : (k : Int) - 2 = (q2 : Int) := by omega
     have i16 : (k : Int) - 16 = (q16 : Int) := by omega
     have i7 : (k : Int) - 7 = (q7 : Int) := by omega
     have l15 : (q15 : Int) < 64 := by omega
     have l2 : (q2 : Int) < 64 := by omega
     have l16 : (q16 : Int) < 64 := by omega
     have l7 : (q7 : Int) < 64 := by omega
     have m15 : q15 < 64 := by omega
     have m2 : q2 < 64 := by omega
     have m16 : q16 < 64 := by omega
     have m7 : q7 < 64 := by omega
     have W15 : IntKind.i64.wrap ((k : Int) - 15) = (q15 : Int) := by rw [IntWalk.i64_in _ (by omega)]; omega
     have W2 : IntKind.i64.wrap ((k : Int) - 2) = (q2 : Int) := by rw [IntWalk.i64_in _ (by omega)]; omega
     have V15 : IntKind.i64.wrap (q15 : Int) = (q15 : Int) := IntWalk.i64_in _ (by omega)
     have V2 : IntKind.i64.wrap (q2 : Int) = (q2 : Int) := IntWalk.i64_in _ (by omega)
     obtain ⟨x15, hx15⟩ : ∃ x, wS b q15 = x := ⟨_, rfl⟩
     obtain ⟨x2, hx2⟩ : ∃ x, wS b q2 = x := ⟨_, rfl⟩
     obtain ⟨x16, hx16⟩ : ∃ x, wS b q16 = x := ⟨_, rfl⟩
     obtain ⟨x7, hx7⟩ : ∃ x, wS b q7 = x := ⟨_, rfl⟩
     have hv := wS_high (b := b) hk16
     rw [← hq15, ← hq2, ← hq16, ← hq7, hx15, hx2, hx16, hx7] at hv
     have HVV := hide hv
     have HC15 := hide (show ∀ W, BSt w gH gR gW s (f64 b k) W → W.cell? ⟨gW, q15, none⟩ = some (.int .u32 (W32 x15)) from fun W hW => hx15 ▸ hW.a.at_ (by omega) hk)
     have HC2 := hide (show ∀ W, BSt w gH gR gW s (f64 b k) W → W.cell? ⟨gW, q2, none⟩ = some (.int .u32 (W32 x2)) from fun W hW => hx2 ▸ hW.a.at_ (by omega) hk)
     have HE := hide (show ∀ W, BSt w gH gR gW s (f64 b k) W → W.cell? ⟨gW, q16, none⟩ = some (.int .u32 (W32 x16)) ∧ W.cell? ⟨gW, q7, none⟩ = some (.int .u32 (W32 x7)) from fun W hW => ⟨hx16 ▸ hW.a.at_ (by omega) hk, hx7 ▸ hW.a.at_ (by omega) hk⟩)
     clear ha hv hq15 hq2 hq16 hq7 hx15 hx2 hx16 hx7
     have hdt : decide ((k : Int) < 64) = true := decide_eq_true (by omega)
     have hdn : decide (k < 64) = true := decide_eq_true hlt2
     have HDT := hide hdt
     have HDN := hide hdn
     clear hdt hdn
     go_upto_region 9 with fail
     try rw [HDT.out]
     try rw [HDN.out]
     refine region_inv [62, 63, 64, 65, 66, 67, 68, 69, 70, 71, 72, 73, 74, 75, 76, 77, 78, 8] (J9 gW k q15 x15 (BSt w gH gR gW s (f64 b k))) (by kernel_rfl) (by kernel_rfl) (fun val => ⟨HST2.out.drew, nofun, nofun, nofun, nofun, nofun, nofun, nofun, nofun, nofun, nofun, nofun, nofun, nofun, nofun, nofun, nofun, nofun, nofun⟩) ⟨?_, ?_, ?_, ?_, ?_, ?_, ?_, ?_, ?_, ?_, ?_, ?_, ?_, ?_, ?_, ?_, ?_, ?_, trivial⟩ ?_
     ·refine ⟨fun s hs => by cases hs <;> decide, ?_⟩
      rintro dd val W hJ hd hdep K hK
      rw [if_pos (by rfl)]
      dsimp only [putF, List.foldl, Act.put] at hK ⊢
      simp only [List.setIfInBounds_toArray, List.set_cons_zero, List.set_cons_succ] at hK ⊢
      go_simp
      exact hK.out _ _ { hJ with v62 := fun _ => rfl }
     ·refine ⟨fun s hs => by cases hs <;> decide, ?_⟩
      rintro dd val W hJ hd hdep K hK
      rw [if_pos (by rfl)]
      dsimp only [putF, List.foldl, Act.put] at hK ⊢
      simp only [List.setIfInBounds_toArray, List.set_cons_zero, List.set_cons_succ] at hK ⊢
      have e62 := hJ.v62 (hdep ⟨0, .data⟩ (by simp) rfl)
      simp only [e62] at hK ⊢
      go_simp
      exact hK.out _ _ { hJ with v63 := fun _ => by first | rfl | (simp only [setv]; simp only [W15]; rfl) | simp [setv, W15, i15, V15] }
     ·refine ⟨fun s hs => by cases hs <;> decide, ?_⟩
      rintro dd val W hJ hd hdep K hK
      rw [if_pos (by rfl)]
      dsimp only [putF, List.foldl, Act.put] at hK ⊢
      simp only [List.setIfInBounds_toArray, List.set_cons_zero, List.set_cons_succ] at hK ⊢
      have e63 := hJ.v63 (hdep ⟨1, .data⟩ (by simp) rfl)
      simp only [e63] at hK ⊢
      go_simp
      exact hK.out _ _ { hJ with v64 := fun _ => by first | rfl | simp }
     ·refine ⟨fun s hs => by cases hs <;> decide, ?_⟩
      rintro dd val W hJ hd hdep K hK
      rw [if_pos (by rfl)]
      dsimp only [putF, List.foldl, Act.put] at hK ⊢
      simp only [List.setIfInBounds_toArray, List.set_cons_zero, List.set_cons_succ] at hK ⊢
      have e64 := hJ.v64 (hdep ⟨2, .data⟩ (by simp) rfl)
      simp only [e64] at hK ⊢
      have q0 := HC15.out W hJ.st
      go_simp
      exact hK.out _ _ { hJ with v65 := fun _ => rfl }
     ·refine ⟨fun s hs => by cases hs <;> decide, ?_⟩
      rintro dd val W hJ hd hdep K hK
      rw [if_pos (by rfl)]
      dsimp only [putF, List.foldl, Act.put] at hK ⊢
      simp only [List.setIfInBounds_toArray, List.set_cons_zero, List.set_cons_succ] at hK ⊢
      have e65 := hJ.v65 (hdep ⟨3, .data⟩ (by simp) rfl)
      simp only [e65] at hK ⊢
      go_simp
      refine (turn_7 x15 W).mono ?_
      rintro e9 w7 ⟨rfl, hb7⟩
      go_wp2_with fail
      exact hK.out _ _ { hJ with st := hJ.st.below' hb7, v66 := fun _ => rfl }
     ·refine ⟨fun s hs => by cases hs <;> decide, ?_⟩
      rintro dd val W hJ hd hdep K hK
      rw [if_pos (by rfl)]
      dsimp only [putF, List.foldl, Act.put] at hK ⊢
      simp only [List.setIfInBounds_toArray, List.set_cons_zero, List.set_cons_succ] at hK ⊢
      go_simp
      exact hK.out _ _ { hJ with v67 := fun _ => rfl }
     ·refine ⟨fun s hs => by cases hs <;> decide, ?_⟩
      rintro dd val W hJ hd hdep K hK
      rw [if_pos (by rfl)]
      dsimp only [putF, List.foldl, Act.put] at hK ⊢
      simp only [List.setIfInBounds_toArray, List.set_cons_zero, List.set_cons_succ] at hK ⊢
      have e67 := hJ.v67 (hdep ⟨5, .data⟩ (by simp) rfl)
      simp only [e67] at hK ⊢
      go_simp
      exact hK.out _ _ { hJ with v68 := fun _ => by first | rfl | (simp only [setv]; simp only [W15]; rfl) | simp [setv, W15, i15, V15] }
     ·refine ⟨fun s hs => by cases hs <;> decide, ?_⟩
      rintro dd val W hJ hd hdep K hK
      rw [if_pos (by rfl)]
      dsimp only [putF, List.foldl, Act.put] at hK ⊢
      simp only [List.setIfInBounds_toArray, List.set_cons_zero, List.set_cons_succ] at hK ⊢
      have e68 := hJ.v68 (hdep ⟨6, .data⟩ (by simp) rfl)
      simp only [e68] at hK ⊢
      go_simp
      exact hK.out _ _ { hJ with v69 := fun _ => by first | rfl | simp }
     ·refine ⟨fun s hs => by cases hs <;> decide, ?_⟩
      rintro dd val W hJ hd hdep K hK
      rw [if_pos (by rfl)]
      dsimp only [putF, List.foldl, Act.put] at hK ⊢
      simp only [List.setIfInBounds_toArray, List.set_cons_zero, List.set_cons_succ] at hK ⊢
      have e69 := hJ.v69 (hdep ⟨7, .data⟩ (by simp) rfl)
      simp only [e69] at hK ⊢
      have q0 := HC15.out W hJ.st
      go_simp
      exact hK.out _ _ { hJ with v70 := fun _ => rfl }
     ·refine ⟨fun s hs => by cases hs <;> decide, ?_⟩
      rintro dd val W hJ hd hdep K hK
      rw [if_pos (by rfl)]
      dsimp only [putF, List.foldl, Act.put] at hK ⊢
      simp only [List.setIfInBounds_toArray, List.set_cons_zero, List.set_cons_succ] at hK ⊢
      have e70 := hJ.v70 (hdep ⟨8, .data⟩ (by simp) rfl)
      simp only [e70] at hK ⊢
      go_simp
      refine (turn_18 x15 W).mono ?_
      rintro e9 w7 ⟨rfl, hb7⟩
      go_wp2_with fail
      exact hK.out _ _ { hJ with st := hJ.st.below' hb7, v71 := fun _ => rfl }
     ·refine ⟨fun s hs => by cases hs <;> decide, ?_⟩
      rintro dd val W hJ hd hdep K hK
      rw [if_pos (by rfl)]
      dsimp only [putF, List.foldl, Act.put] at hK ⊢
      simp only [List.setIfInBounds_toArray, List.set_cons_zero, List.set_cons_succ] at hK ⊢
      have e66 := hJ.v66 (hdep ⟨4, .data⟩ (by simp) rfl)
      have e71 := hJ.v71 (hdep ⟨9, .data⟩ (by simp) rfl)
      simp only [e66, e71] at hK ⊢
      go_simp
      exact hK.out _ _ { hJ with v72 := fun _ => by first | rfl | (simp only [w_xor]; rfl) | simp [setv, w_xor] }
     ·refine ⟨fun s hs => by cases hs <;> decide, ?_⟩
      rintro dd val W hJ hd hdep K hK
      rw [if_pos (by rfl)]
      dsimp only [putF, List.foldl, Act.put] at hK ⊢
      simp only [List.setIfInBounds_toArray, List.set_cons_zero, List.set_cons_succ] at hK ⊢
      go_simp
      exact hK.out _ _ { hJ with v73 := fun _ => rfl }
     ·refine ⟨fun s hs => by cases hs <;> decide, ?_⟩
      rintro dd val W hJ hd hdep K hK
      rw [if_pos (by rfl)]
      dsimp only [putF, List.foldl, Act.put] at hK ⊢
      simp only [List.setIfInBounds_toArray, List.set_cons_zero, List.set_cons_succ] at hK ⊢
      have e73 := hJ.v73 (hdep ⟨11, .data⟩ (by simp) rfl)
      simp only [e73] at hK ⊢
      go_simp
      exact hK.out _ _ { hJ with v74 := fun _ => by first | rfl | (simp only [setv]; simp only [W15]; rfl) | simp [setv, W15, i15, V15] }
     ·refine ⟨fun s hs => by cases hs <;> decide, ?_⟩
      rintro dd val W hJ hd hdep K hK
      rw [if_pos (by rfl)]
      dsimp only [putF, List.foldl, Act.put] at hK ⊢
      simp only [List.setIfInBounds_toArray, List.set_cons_zero, List.set_cons_succ] at hK ⊢
      have e74 := hJ.v74 (hdep ⟨12, .data⟩ (by simp) rfl)
      simp only [e74] at hK ⊢
      go_simp
      exact hK.out _ _ { hJ with v75 := fun _ => by first | rfl | simp }
     ·refine ⟨fun s hs => by cases hs <;> decide, ?_⟩
      rintro dd val W hJ hd hdep K hK
      rw [if_pos (by rfl)]
      dsimp only [putF, List.foldl, Act.put] at hK ⊢
      simp only [List.setIfInBounds_toArray, List.set_cons_zero, List.set_cons_succ] at hK ⊢
      have e75 := hJ.v75 (hdep ⟨13, .data⟩ (by simp) rfl)
      simp only [e75] at hK ⊢
      have q0 := HC15.out W hJ.st
      go_simp
      exact hK.out _ _ { hJ with v76 := fun _ => rfl }
     ·refine ⟨fun s hs => by cases hs <;> decide, ?_⟩
      rintro dd val W hJ hd hdep K hK
      rw [if_pos (by rfl)]
      dsimp only [putF, List.foldl, Act.put] at hK ⊢
      simp only [List.setIfInBounds_toArray, List.set_cons_zero, List.set_cons_succ] at hK ⊢
      have e76 := hJ.v76 (hdep ⟨14, .data⟩ (by simp) rfl)
      simp only [e76] at hK ⊢
      go_simp
      exact hK.out _ _ { hJ with v77 := fun _ => by first | rfl | (simp only [wsr3]; rfl) | simp [setv, wsr3] }
     ·refine ⟨fun s hs => by cases hs <;> decide, ?_⟩
      rintro dd val W hJ hd hdep K hK
      rw [if_pos (by rfl)]
      dsimp only [putF, List.foldl, Act.put] at hK ⊢
      simp only [List.setIfInBounds_toArray, List.set_cons_zero, List.set_cons_succ] at hK ⊢
      have e72 := hJ.v72 (hdep ⟨10, .data⟩ (by simp) rfl)
      have e77 := hJ.v77 (hdep ⟨15, .data⟩ (by simp) rfl)
      simp only [e72, e77] at hK ⊢
      go_simp
      exact hK.out _ _ { hJ with v78 := fun _ => by first | rfl | (simp only [w_xor]; rfl) | simp [setv, w_xor] }
     ·refine ⟨fun s hs => by cases hs <;> decide, ?_⟩
      rintro dd val W hJ hd hdep K hK
      rw [if_pos (by rfl)]
      dsimp only [putF, List.foldl, Act.put] at hK ⊢
      simp only [List.setIfInBounds_toArray, List.set_cons_zero, List.set_cons_succ] at hK ⊢
      have e78 := hJ.v78 (hdep ⟨16, .data⟩ (by simp) rfl)
      simp only [e78] at hK ⊢
      go_simp
      exact hK.out _ _ { hJ with v8 := fun _ => rfl }
     ·intro dd val W hall hJ
      have e8 := hJ.v8 (hall 17 (by decide))
      have hst9 := hJ.st
      dsimp only [putF, List.foldl, Act.put]
      simp only [List.setIfInBounds_toArray, List.set_cons_zero, List.set_cons_succ, e8]
      have HST3 := hide hst9
      obtain ⟨v8, hv8⟩ : ∃ v, v = (x15 >>> 7 ||| x15 <<< 25) ^^^ (x15 >>> 18 ||| x15 <<< 14) ^^^ x15 >>> 3 := ⟨_, rfl⟩
      rw [← hv8]
      have HV8 := hide hv8
      clear hv8 hst9 hJ hall
      go_upto_region 10 with fail
      refine region_inv [79, 80, 81, 82, 83, 84, 85, 86, 87, 88, 89, 90, 91, 92, 93, 94, 95, 9] (J10 gW k q2 x2 (BSt w gH gR gW s (f64 b k))) (by kernel_rfl) (by kernel_rfl) (fun val => ⟨HST3.out.drew, nofun, nofun, nofun, nofun, nofun, nofun, nofun, nofun, nofun, nofun, nofun, nofun, nofun, nofun, nofun, nofun, nofun, nofun⟩) ⟨?_, ?_, ?_, ?_, ?_, ?_, ?_, ?_, ?_, ?_, ?_, ?_, ?_, ?_, ?_, ?_, ?_, ?_, trivial⟩ ?_
      ·refine ⟨fun s hs => by cases hs <;> decide, ?_⟩
       rintro dd val W hJ hd hdep K hK
       rw [if_pos (by rfl)]
       dsimp only [putF, List.foldl, Act.put] at hK ⊢
       simp only [List.setIfInBounds_toArray, List.set_cons_zero, List.set_cons_succ] at hK ⊢
       go_simp
       exact hK.out _ _ { hJ with v79 := fun _ => rfl }
      ·refine ⟨fun s hs => by cases hs <;> decide, ?_⟩
       rintro dd val W hJ hd hdep K hK
       rw [if_pos (by rfl)]
       dsimp only [putF, List.foldl, Act.put] at hK ⊢
       simp only [List.setIfInBounds_toArray, List.set_cons_zero, List.set_cons_succ] at hK ⊢
       have e79 := hJ.v79 (hdep ⟨0, .data⟩ (by simp) rfl)
       simp only [e79] at hK ⊢
       go_simp
       exact hK.out _ _ { hJ with v80 := fun _ => by first | rfl | (simp only [setv]; simp only [W2]; rfl) | simp [setv, W2, i2, V2] }
      ·refine ⟨fun s hs => by cases hs <;> decide, ?_⟩
       rintro dd val W hJ hd hdep K hK
       rw [if_pos (by rfl)]
       dsimp only [putF, List.foldl, Act.put] at hK ⊢
       simp only [List.setIfInBounds_toArray, List.set_cons_zero, List.set_cons_succ] at hK ⊢
       have e80 := hJ.v80 (hdep ⟨1, .data⟩ (by simp) rfl)
       simp only [e80] at hK ⊢
       go_simp
       exact hK.out _ _ { hJ with v81 := fun _ => by first | rfl | simp }
      ·refine ⟨fun s hs => by cases hs <;> decide, ?_⟩
       rintro dd val W hJ hd hdep K hK
       rw [if_pos (by rfl)]
       dsimp only [putF, List.foldl, Act.put] at hK ⊢
       simp only [List.setIfInBounds_toArray, List.set_cons_zero, List.set_cons_succ] at hK ⊢
       have e81 := hJ.v81 (hdep ⟨2, .data⟩ (by simp) rfl)
       simp only [e81] at hK ⊢
       have q0 := HC2.out W hJ.st
       go_simp
       exact hK.out _ _ { hJ with v82 := fun _ => rfl }
      ·refine ⟨fun s hs => by cases hs <;> decide, ?_⟩
       rintro dd val W hJ hd hdep K hK
       rw [if_pos (by rfl)]
       dsimp only [putF, List.foldl, Act.put] at hK ⊢
       simp only [List.setIfInBounds_toArray, List.set_cons_zero, List.set_cons_succ] at hK ⊢
       have e82 := hJ.v82 (hdep ⟨3, .data⟩ (by simp) rfl)
       simp only [e82] at hK ⊢
       go_simp
       refine (turn_17 x2 W).mono ?_
       rintro e9 w7 ⟨rfl, hb7⟩
       go_wp2_with fail
       exact hK.out _ _ { hJ with st := hJ.st.below' hb7, v83 := fun _ => rfl }
      ·refine ⟨fun s hs => by cases hs <;> decide, ?_⟩
       rintro dd val W hJ hd hdep K hK
       rw [if_pos (by rfl)]
       dsimp only [putF, List.foldl, Act.put] at hK ⊢
       simp only [List.setIfInBounds_toArray, List.set_cons_zero, List.set_cons_succ] at hK ⊢
       go_simp
       exact hK.out _ _ { hJ with v84 := fun _ => rfl }
      ·refine ⟨fun s hs => by cases hs <;> decide, ?_⟩
       rintro dd val W hJ hd hdep K hK
       rw [if_pos (by rfl)]
       dsimp only [putF, List.foldl, Act.put] at hK ⊢
       simp only [List.setIfInBounds_toArray, List.set_cons_zero, List.set_cons_succ] at hK ⊢
       have e84 := hJ.v84 (hdep ⟨5, .data⟩ (by simp) rfl)
       simp only [e84] at hK ⊢
       go_simp
       exact hK.out _ _ { hJ with v85 := fun _ => by first | rfl | (simp only [setv]; simp only [W2]; rfl) | simp [setv, W2, i2, V2] }
      ·refine ⟨fun s hs => by cases hs <;> decide, ?_⟩
       rintro dd val W hJ hd hdep K hK
       rw [if_pos (by rfl)]
       dsimp only [putF, List.foldl, Act.put] at hK ⊢
       simp only [List.setIfInBounds_toArray, List.set_cons_zero, List.set_cons_succ] at hK ⊢
       have e85 := hJ.v85 (hdep ⟨6, .data⟩ (by simp) rfl)
       simp only [e85] at hK ⊢
       go_simp
       exact hK.out _ _ { hJ with v86 := fun _ => by first | rfl | simp }
      ·refine ⟨fun s hs => by cases hs <;> decide, ?_⟩
       rintro dd val W hJ hd hdep K hK
       rw [if_pos (by rfl)]
       dsimp only [putF, List.foldl, Act.put] at hK ⊢
       simp only [List.setIfInBounds_toArray, List.set_cons_zero, List.set_cons_succ] at hK ⊢
       have e86 := hJ.v86 (hdep ⟨7, .data⟩ (by simp) rfl)
       simp only [e86] at hK ⊢
       have q0 := HC2.out W hJ.st
       go_simp
       exact hK.out _ _ { hJ with v87 := fun _ => rfl }
      ·refine ⟨fun s hs => by cases hs <;> decide, ?_⟩
       rintro dd val W hJ hd hdep K hK
       rw [if_pos (by rfl)]
       dsimp only [putF, List.foldl, Act.put] at hK ⊢
       simp only [List.setIfInBounds_toArray, List.set_cons_zero, List.set_cons_succ] at hK ⊢
       have e87 := hJ.v87 (hdep ⟨8, .data⟩ (by simp) rfl)
       simp only [e87] at hK ⊢
       go_simp
       refine (turn_19 x2 W).mono ?_
       rintro e9 w7 ⟨rfl, hb7⟩
       go_wp2_with fail
       exact hK.out _ _ { hJ with st := hJ.st.below' hb7, v88 := fun _ => rfl }
      ·refine ⟨fun s hs => by cases hs <;> decide, ?_⟩
       rintro dd val W hJ hd hdep K hK
       rw [if_pos (by rfl)]
       dsimp only [putF, List.foldl, Act.put] at hK ⊢
       simp only [List.setIfInBounds_toArray, List.set_cons_zero, List.set_cons_succ] at hK ⊢
       have e83 := hJ.v83 (hdep ⟨4, .data⟩ (by simp) rfl)
       have e88 := hJ.v88 (hdep ⟨9, .data⟩ (by simp) rfl)
       simp only [e83, e88] at hK ⊢
       go_simp
       exact hK.out _ _ { hJ with v89 := fun _ => by first | rfl | (simp only [w_xor]; rfl) | simp [setv, w_xor] }
      ·refine ⟨fun s hs => by cases hs <;> decide, ?_⟩
       rintro dd val W hJ hd hdep K hK
       rw [if_pos (by rfl)]
       dsimp only [putF, List.foldl, Act.put] at hK ⊢
       simp only [List.setIfInBounds_toArray, List.set_cons_zero, List.set_cons_succ] at hK ⊢
       go_simp
       exact hK.out _ _ { hJ with v90 := fun _ => rfl }
      ·refine ⟨fun s hs => by cases hs <;> decide, ?_⟩
       rintro dd val W hJ hd hdep K hK
       rw [if_pos (by rfl)]
       dsimp only [putF, List.foldl, Act.put] at hK ⊢
       simp only [List.setIfInBounds_toArray, List.set_cons_zero, List.set_cons_succ] at hK ⊢
       have e90 := hJ.v90 (hdep ⟨11, .data⟩ (by simp) rfl)
       simp only [e90] at hK ⊢
       go_simp
       exact hK.out _ _ { hJ with v91 := fun _ => by first | rfl | (simp only [setv]; simp only [W2]; rfl) | simp [setv, W2, i2, V2] }
      ·refine ⟨fun s hs => by cases hs <;> decide, ?_⟩
       rintro dd val W hJ hd hdep K hK
       rw [if_pos (by rfl)]
       dsimp only [putF, List.foldl, Act.put] at hK ⊢
       simp only [List.setIfInBounds_toArray, List.set_cons_zero, List.set_cons_succ] at hK ⊢
       have e91 := hJ.v91 (hdep ⟨12, .data⟩ (by simp) rfl)
       simp only [e91] at hK ⊢
       go_simp
       exact hK.out _ _ { hJ with v92 := fun _ => by first | rfl | simp }
      ·refine ⟨fun s hs => by cases hs <;> decide, ?_⟩
       rintro dd val W hJ hd hdep K hK
       rw [if_pos (by rfl)]
       dsimp only [putF, List.foldl, Act.put] at hK ⊢
       simp only [List.setIfInBounds_toArray, List.set_cons_zero, List.set_cons_succ] at hK ⊢
       have e92 := hJ.v92 (hdep ⟨13, .data⟩ (by simp) rfl)
       simp only [e92] at hK ⊢
       have q0 := HC2.out W hJ.st
       go_simp
       exact hK.out _ _ { hJ with v93 := fun _ => rfl }
      ·refine ⟨fun s hs => by cases hs <;> decide, ?_⟩
       rintro dd val W hJ hd hdep K hK
       rw [if_pos (by rfl)]
       dsimp only [putF, List.foldl, Act.put] at hK ⊢
       simp only [List.setIfInBounds_toArray, List.set_cons_zero, List.set_cons_succ] at hK ⊢
       have e93 := hJ.v93 (hdep ⟨14, .data⟩ (by simp) rfl)
       simp only [e93] at hK ⊢
       go_simp
       exact hK.out _ _ { hJ with v94 := fun _ => by first | rfl | (simp only [wsr10]; rfl) | simp [setv, wsr10] }
      ·refine ⟨fun s hs => by cases hs <;> decide, ?_⟩
       rintro dd val W hJ hd hdep K hK
       rw [if_pos (by rfl)]
       dsimp only [putF, List.foldl, Act.put] at hK ⊢
       simp only [List.setIfInBounds_toArray, List.set_cons_zero, List.set_cons_succ] at hK ⊢
       have e89 := hJ.v89 (hdep ⟨10, .data⟩ (by simp) rfl)
       have e94 := hJ.v94 (hdep ⟨15, .data⟩ (by simp) rfl)
       simp only [e89, e94] at hK ⊢
       go_simp
       exact hK.out _ _ { hJ with v95 := fun _ => by first | rfl | (simp only [w_xor]; rfl) | simp [setv, w_xor] }
      ·refine ⟨fun s hs => by cases hs <;> decide, ?_⟩
       rintro dd val W hJ hd hdep K hK
       rw [if_pos (by rfl)]
       dsimp only [putF, List.foldl, Act.put] at hK ⊢
       simp only [List.setIfInBounds_toArray, List.set_cons_zero, List.set_cons_succ] at hK ⊢
       have e95 := hJ.v95 (hdep ⟨16, .data⟩ (by simp) rfl)
       simp only [e95] at hK ⊢
       go_simp
       exact hK.out _ _ { hJ with v9 := fun _ => rfl }
      ·intro dd val W hall hJ
       have e9 := hJ.v9 (hall 17 (by decide))
       have hst9 := hJ.st
       dsimp only [putF, List.foldl, Act.put]
       simp only [List.setIfInBounds_toArray, List.set_cons_zero, List.set_cons_succ, e9]
       have HST5 := hide hst9
       obtain ⟨v9, hv9⟩ : ∃ v, v = (x2 >>> 17 ||| x2 <<< 15) ^^^ (x2 >>> 19 ||| x2 <<< 13) ^^^ x2 >>> 10 := ⟨_, rfl⟩
       rw [← hv9]
       have HV9 := hide hv9
       clear hv9 hst9 hJ hall
       obtain ⟨w1, rfl⟩ : ∃ w1 : World, w1 = W := ⟨_, rfl⟩
       obtain ⟨e16, e7⟩ := HE.out _ HST5.out
       have hcell := HST5.out.a.cell (show k < 64 by omega)
       have hfr := HST5.out.a.frozen k
       go_wp2_with fail
       go_region
       all_goals
        clear e16 e7 hcell hfr
        go_wp2_with fail
        go_roundw
        case rel =>
         refine ⟨k + 1, by omega, by omega, by go_num, ?_⟩
         simp only [w_add4]
         exact (HST5.out.store (f' := f64 b (k + 1)) ((f64_at _ _).trans (by rw [HVV.out, HV8.out, HV9.out]; rfl)) (fun j _ hne => f64_step _ hne)).drew
        case measure => simp [intOf]; omega
    ·have hk64 : k = 64 := by omega
     have HST4 := hide (show BSt w gH gR gW s (f64 b 64) wr by rw [← hk64]; exact HST2.out)
     clear ha hk64
     obtain ⟨w4, rfl⟩ : ∃ wo : World, wo = wr := ⟨_, rfl⟩
     go_wp2_with fail
     refine (rounds_any _).mono ?_
     rintro e w5 ⟨rfl, hb5⟩
     have HST5 := hide (HST4.out.below' hb5)
     clear hb5
     go_upto_region 13 with (with_reducible refine wpList_store_row rfl _ _ _ rfl w5.heap.size kA rfl rfl _ _ (heap_alloc_new w5 _) (by kernel_rfl) (by kernel_rfl) (by kernel_rfl) ?_)
     obtain ⟨w6, hw6⟩ : ∃ W, W = (w5.alloc (.cells #[.int .u32 0, .int .u32 0, .int .u32 0, .int .u32 0, .int .u32 0, .int .u32 0, .int .u32 0, .int .u32 0, .int .u32 0, .int .u32 0, .int .u32 0, .int .u32 0, .int .u32 0, .int .u32 0, .int .u32 0, .int .u32 0, .int .u32 0, .int .u32 0, .int .u32 0, .int .u32 0, .int .u32 0, .int .u32 0, .int .u32 0, .int .u32 0, .int .u32 0, .int .u32 0, .int .u32 0, .int .u32 0, .int .u32 0, .int .u32 0, .int .u32 0, .int .u32 0, .int .u32 0, .int .u32 0, .int .u32 0, .int .u32 0, .int .u32 0, .int .u32 0, .int .u32 0, .int .u32 0, .int .u32 0, .int .u32 0, .int .u32 0, .int .u32 0, .int .u32 0, .int .u32 0, .int .u32 0, .int .u32 0, .int .u32 0, .int .u32 0, .int .u32 0, .int .u32 0, .int .u32 0, .int .u32 0, .int .u32 0, .int .u32 0, .int .u32 0, .int .u32 0, .int .u32 0, .int .u32 0, .int .u32 0, .int .u32 0, .int .u32 0, .int .u32 0] 91)).setRow w5.heap.size kA := ⟨_, rfl⟩
     have hk6 : A64 w5.heap.size kS w6 := ⟨91, kA, by rw [hw6]; exact setRow_heap _ w5.heap.size _ kA _ _ (heap_alloc_new w5 _), fun j hj => by
      have hj' : j < kL.length := hj
      simp [kA, kS, List.getD, List.getElem?_eq_getElem hj']⟩
     have hb56 : Below w5.heap.size w5 w6 := by rw [hw6]; exact below_setRow ((Below.refl _ _).alloc (Nat.le_refl _) _) (Nat.le_refl _) kA
     have hgK : gW < w5.heap.size := HST5.out.a.lt
     obtain ⟨gK, hgKe⟩ : ∃ g, w5.heap.size = g := ⟨_, rfl⟩
     rw [hgKe] at hk6 hgK
     have HK6 := hide hk6
     have HST6 := hide (HST5.out.below' hb56)
     have hgKs : gK < w6.heap.size := hk6.lt
     rw [← hw6]
     try rw [hgKe]
     clear hw6 hgKe hk6 hb56
     obtain ⟨h0, h1, h2, h3, h4, h5, h6, h7⟩ := HST6.out.h.facts
     go_upto_region 14 with fail
     change Code.wp _ _ _ _ (w6.alloc (.cells s.arr 96))
     obtain ⟨w7, hw7⟩ : ∃ W, W = w6.alloc (.cells s.arr 96) := ⟨_, rfl⟩
     have hb67 : Below w6.heap.size w6 w7 := by rw [hw7]; exact (Below.refl _ _).alloc (Nat.le_refl _) _
     have hv7 : HV w6.heap.size s w7 := by rw [hw7]; exact HV.new w6 s
     obtain ⟨gV, hgV⟩ : ∃ g, w6.heap.size = g := ⟨_, rfl⟩
     rw [hgV] at hv7 hgKs
     have HVS := hide (show VSt w gH gR gW gK gV s s b w7 from ⟨HST6.out.below' hb67, HK6.out.below hb67, hv7, hgK, hgKs⟩)
     rw [← hw7]
     try rw [hgV]
     clear hw7 hgV hb67 hv7 h0 h1 h2 h3 h4 h5 h6 h7
     go_wp2_with fail
     go_loopw [12] (fun iv wr => ∃ (k3 : Nat) (t : S8), k3 ≤ 64 ∧ iv = .int .i64 k3 ∧ Hid (runS b s k3 = t) ∧ VSt w gH gR gW gK gV s t b wr) (fun iv _ => 64 - (intOf iv).toNat)
     case atStart => exact ⟨0, s, by omega, rfl, hide rfl, HVS.out⟩
     case round =>
      obtain ⟨k3, ⟨ta, tb, tc, td, te, tf, tg, th⟩, hk3, rfl, HRUN, hst⟩ := hrel
      have HST7 := hide hst
      clear hst
      by_cases hlt3 : k3 < 64
      ·obtain ⟨kk, hkk⟩ : ∃ kk, kS k3 = kk := ⟨_, rfl⟩
       obtain ⟨ww, hww⟩ : ∃ ww, wS b k3 = ww := ⟨_, rfl⟩
       have HN := hide (show runS b s (k3 + 1) = stepS kk ww ⟨ta, tb, tc, td, te, tf, tg, th⟩ by rw [runS, hkk, hww, HRUN.out])
       have HCV4 := hide (show ∀ W, VSt w gH gR gW gK gV s ⟨ta, tb, tc, td, te, tf, tg, th⟩ b W → W.cell? ⟨gV, 4, none⟩ = some (.int .u32 (W32 te)) from fun W hW => hW.v.facts.2.2.2.2.1)
       have HCV0 := hide (show ∀ W, VSt w gH gR gW gK gV s ⟨ta, tb, tc, td, te, tf, tg, th⟩ b W → W.cell? ⟨gV, 0, none⟩ = some (.int .u32 (W32 ta)) from fun W hW => hW.v.facts.1)
       have HCV7 := hide (show ∀ W, VSt w gH gR gW gK gV s ⟨ta, tb, tc, td, te, tf, tg, th⟩ b W → W.cell? ⟨gV, 7, none⟩ = some (.int .u32 (W32 th)) from fun W hW => hW.v.facts.2.2.2.2.2.2.2)
       have HCK := hide (show ∀ W, VSt w gH gR gW gK gV s ⟨ta, tb, tc, td, te, tf, tg, th⟩ b W → W.cell? ⟨gK, k3, none⟩ = some (.int .u32 (W32 kk)) from fun W hW => hkk ▸ hW.k.cell hlt3)
       have HCW := hide (show ∀ W, VSt w gH gR gW gK gV s ⟨ta, tb, tc, td, te, tf, tg, th⟩ b W → W.cell? ⟨gW, k3, none⟩ = some (.int .u32 (W32 ww)) from fun W hW => hww ▸ hW.b.a.at_ hlt3 (Nat.le_refl _))
       have hl3 : (k3 : Int) < 64 := by omega
       have HDT := hide (show decide ((k3 : Int) < 64) = true from decide_eq_true (by omega))
       have HDN := hide (show decide (k3 < 64) = true from decide_eq_true hlt3)
       clear hkk hww
       go_upto_region 17 with fail
       try rw [HDT.out]
       try rw [HDN.out]
       refine region_inv [117, 118, 119, 120, 121, 122, 123, 124, 125, 126, 127, 13] (J17 gV te (VSt w gH gR gW gK gV s ⟨ta, tb, tc, td, te, tf, tg, th⟩ b)) (by kernel_rfl) (by kernel_rfl) (fun val => ⟨HST7.out.drew, nofun, nofun, nofun, nofun, nofun, nofun, nofun, nofun, nofun, nofun, nofun, nofun⟩) ⟨?_, ?_, ?_, ?_, ?_, ?_, ?_, ?_, ?_, ?_, ?_, ?_, trivial⟩ ?_
       ·refine ⟨fun s hs => by cases hs <;> decide, ?_⟩
        rintro dd val W hJ hd hdep K hK
        rw [if_pos (by rfl)]
        dsimp only [putF, List.foldl, Act.put] at hK ⊢
        simp only [List.setIfInBounds_toArray, List.set_cons_zero, List.set_cons_succ] at hK ⊢
        go_simp
        exact hK.out _ _ { hJ with v117 := fun _ => by first | rfl | simp }
       ·refine ⟨fun s hs => by cases hs <;> decide, ?_⟩
        rintro dd val W hJ hd hdep K hK
        rw [if_pos (by rfl)]
        dsimp only [putF, List.foldl, Act.put] at hK ⊢
        simp only [List.setIfInBounds_toArray, List.set_cons_zero, List.set_cons_succ] at hK ⊢
        have e117 := hJ.v117 (hdep ⟨0, .data⟩ (by simp) rfl)
        simp only [e117] at hK ⊢
        have q0 := HCV4.out W hJ.st
        go_simp
        exact hK.out _ _ { hJ with v118 := fun _ => rfl }
       ·refine ⟨fun s hs => by cases hs <;> decide, ?_⟩
        rintro dd val W hJ hd hdep K hK
        rw [if_pos (by rfl)]
        dsimp only [putF, List.foldl, Act.put] at hK ⊢
        simp only [List.setIfInBounds_toArray, List.set_cons_zero, List.set_cons_succ] at hK ⊢
        have e118 := hJ.v118 (hdep ⟨1, .data⟩ (by simp) rfl)
        simp only [e118] at hK ⊢
        go_simp
        refine (turn_6 te W).mono ?_
        rintro e9 w7 ⟨rfl, hb7⟩
        go_wp2_with fail
        exact hK.out _ _ { hJ with st := hJ.st.below' hb7, v119 := fun _ => rfl }
       ·refine ⟨fun s hs => by cases hs <;> decide, ?_⟩
        rintro dd val W hJ hd hdep K hK
        rw [if_pos (by rfl)]
        dsimp only [putF, List.foldl, Act.put] at hK ⊢
        simp only [List.setIfInBounds_toArray, List.set_cons_zero, List.set_cons_succ] at hK ⊢
        go_simp
        exact hK.out _ _ { hJ with v120 := fun _ => by first | rfl | simp }
       ·refine ⟨fun s hs => by cases hs <;> decide, ?_⟩
        rintro dd val W hJ hd hdep K hK
        rw [if_pos (by rfl)]
        dsimp only [putF, List.foldl, Act.put] at hK ⊢
        simp only [List.setIfInBounds_toArray, List.set_cons_zero, List.set_cons_succ] at hK ⊢
        have e120 := hJ.v120 (hdep ⟨3, .data⟩ (by simp) rfl)
        simp only [e120] at hK ⊢
        have q0 := HCV4.out W hJ.st
        go_simp
        exact hK.out _ _ { hJ with v121 := fun _ => rfl }
       ·refine ⟨fun s hs => by cases hs <;> decide, ?_⟩
        rintro dd val W hJ hd hdep K hK
        rw [if_pos (by rfl)]
        dsimp only [putF, List.foldl, Act.put] at hK ⊢
        simp only [List.setIfInBounds_toArray, List.set_cons_zero, List.set_cons_succ] at hK ⊢
        have e121 := hJ.v121 (hdep ⟨4, .data⟩ (by simp) rfl)
        simp only [e121] at hK ⊢
        go_simp
        refine (turn_11 te W).mono ?_
        rintro e9 w7 ⟨rfl, hb7⟩
        go_wp2_with fail
        exact hK.out _ _ { hJ with st := hJ.st.below' hb7, v122 := fun _ => rfl }
       ·refine ⟨fun s hs => by cases hs <;> decide, ?_⟩
        rintro dd val W hJ hd hdep K hK
        rw [if_pos (by rfl)]
        dsimp only [putF, List.foldl, Act.put] at hK ⊢
        simp only [List.setIfInBounds_toArray, List.set_cons_zero, List.set_cons_succ] at hK ⊢
        have e119 := hJ.v119 (hdep ⟨2, .data⟩ (by simp) rfl)
        have e122 := hJ.v122 (hdep ⟨5, .data⟩ (by simp) rfl)
        simp only [e119, e122] at hK ⊢
        go_simp
        exact hK.out _ _ { hJ with v123 := fun _ => by first | rfl | (simp only [w_xor]; rfl) | simp [setv, w_xor] }
       ·refine ⟨fun s hs => by cases hs <;> decide, ?_⟩
        rintro dd val W hJ hd hdep K hK
        rw [if_pos (by rfl)]
        dsimp only [putF, List.foldl, Act.put] at hK ⊢
        simp only [List.setIfInBounds_toArray, List.set_cons_zero, List.set_cons_succ] at hK ⊢
        go_simp
        exact hK.out _ _ { hJ with v124 := fun _ => by first | rfl | simp }
       ·refine ⟨fun s hs => by cases hs <;> decide, ?_⟩
        rintro dd val W hJ hd hdep K hK
        rw [if_pos (by rfl)]
        dsimp only [putF, List.foldl, Act.put] at hK ⊢
        simp only [List.setIfInBounds_toArray, List.set_cons_zero, List.set_cons_succ] at hK ⊢
        have e124 := hJ.v124 (hdep ⟨7, .data⟩ (by simp) rfl)
        simp only [e124] at hK ⊢
        have q0 := HCV4.out W hJ.st
        go_simp
        exact hK.out _ _ { hJ with v125 := fun _ => rfl }
       ·refine ⟨fun s hs => by cases hs <;> decide, ?_⟩
        rintro dd val W hJ hd hdep K hK
        rw [if_pos (by rfl)]
        dsimp only [putF, List.foldl, Act.put] at hK ⊢
        simp only [List.setIfInBounds_toArray, List.set_cons_zero, List.set_cons_succ] at hK ⊢
        have e125 := hJ.v125 (hdep ⟨8, .data⟩ (by simp) rfl)
        simp only [e125] at hK ⊢
        go_simp
        refine (turn_25 te W).mono ?_
        rintro e9 w7 ⟨rfl, hb7⟩
        go_wp2_with fail
        exact hK.out _ _ { hJ with st := hJ.st.below' hb7, v126 := fun _ => rfl }
       ·refine ⟨fun s hs => by cases hs <;> decide, ?_⟩
        rintro dd val W hJ hd hdep K hK
        rw [if_pos (by rfl)]
        dsimp only [putF, List.foldl, Act.put] at hK ⊢
        simp only [List.setIfInBounds_toArray, List.set_cons_zero, List.set_cons_succ] at hK ⊢
        have e123 := hJ.v123 (hdep ⟨6, .data⟩ (by simp) rfl)
        have e126 := hJ.v126 (hdep ⟨9, .data⟩ (by simp) rfl)
        simp only [e123, e126] at hK ⊢
        go_simp
        exact hK.out _ _ { hJ with v127 := fun _ => by first | rfl | (simp only [w_xor]; rfl) | simp [setv, w_xor] }
       ·refine ⟨fun s hs => by cases hs <;> decide, ?_⟩
        rintro dd val W hJ hd hdep K hK
        rw [if_pos (by rfl)]
        dsimp only [putF, List.foldl, Act.put] at hK ⊢
        simp only [List.setIfInBounds_toArray, List.set_cons_zero, List.set_cons_succ] at hK ⊢
        have e127 := hJ.v127 (hdep ⟨10, .data⟩ (by simp) rfl)
        simp only [e127] at hK ⊢
        go_simp
        exact hK.out _ _ { hJ with v13 := fun _ => rfl }
       ·intro dd val W hall hJ
        have e13 := hJ.v13 (hall 11 (by decide))
        have hst9 := hJ.st
        dsimp only [putF, List.foldl, Act.put]
        simp only [List.setIfInBounds_toArray, List.set_cons_zero, List.set_cons_succ, e13]
        have HS17 := hide hst9
        obtain ⟨v13, hv13⟩ : ∃ v, v = (te >>> 6 ||| te <<< 26) ^^^ (te >>> 11 ||| te <<< 21) ^^^ (te >>> 25 ||| te <<< 7) := ⟨_, rfl⟩
        rw [← hv13]
        have HV13 := hide hv13
        clear hv13 hst9 hJ hall
        obtain ⟨w1, rfl⟩ : ∃ w1 : World, w1 = W := ⟨_, rfl⟩
        obtain ⟨-, -, -, -, c4, c5, c6, -⟩ := HS17.out.v.facts
        go_upto_region 19 with fail
        simp only [w_not, w_and, w_xor]
        obtain ⟨v14, hv14⟩ : ∃ v, v = te &&& tf ^^^ ~~~te &&& tg := ⟨_, rfl⟩
        rw [← hv14]
        have HV14 := hide hv14
        clear hv14 c4 c5 c6
        refine region_inv [140, 141, 142, 143, 144, 145, 146, 147, 148, 149, 150, 151, 152, 153, 15] (J19 gV gK gW k3 th v13 v14 kk ww (VSt w gH gR gW gK gV s ⟨ta, tb, tc, td, te, tf, tg, th⟩ b)) (by kernel_rfl) (by kernel_rfl) (fun val => ⟨HS17.out.drew, nofun, nofun, nofun, nofun, nofun, nofun, nofun, nofun, nofun, nofun, nofun, nofun, nofun, nofun, nofun⟩) ⟨?_, ?_, ?_, ?_, ?_, ?_, ?_, ?_, ?_, ?_, ?_, ?_, ?_, ?_, ?_, trivial⟩ ?_
        ·refine ⟨fun s hs => by cases hs <;> decide, ?_⟩
         rintro dd val W hJ hd hdep K hK
         rw [if_pos (by rfl)]
         dsimp only [putF, List.foldl, Act.put] at hK ⊢
         simp only [List.setIfInBounds_toArray, List.set_cons_zero, List.set_cons_succ] at hK ⊢
         go_simp
         exact hK.out _ _ { hJ with v140 := fun _ => by first | rfl | simp }
        ·refine ⟨fun s hs => by cases hs <;> decide, ?_⟩
         rintro dd val W hJ hd hdep K hK
         rw [if_pos (by rfl)]
         dsimp only [putF, List.foldl, Act.put] at hK ⊢
         simp only [List.setIfInBounds_toArray, List.set_cons_zero, List.set_cons_succ] at hK ⊢
         have e140 := hJ.v140 (hdep ⟨0, .data⟩ (by simp) rfl)
         simp only [e140] at hK ⊢
         have q0 := HCV7.out W hJ.st
         go_simp
         exact hK.out _ _ { hJ with v141 := fun _ => rfl }
        ·refine ⟨fun s hs => by cases hs <;> decide, ?_⟩
         rintro dd val W hJ hd hdep K hK
         rw [if_pos (by rfl)]
         dsimp only [putF, List.foldl, Act.put] at hK ⊢
         simp only [List.setIfInBounds_toArray, List.set_cons_zero, List.set_cons_succ] at hK ⊢
         go_simp
         exact hK.out _ _ { hJ with v142 := fun _ => rfl }
        ·refine ⟨fun s hs => by cases hs <;> decide, ?_⟩
         rintro dd val W hJ hd hdep K hK
         rw [if_pos (by rfl)]
         dsimp only [putF, List.foldl, Act.put] at hK ⊢
         simp only [List.setIfInBounds_toArray, List.set_cons_zero, List.set_cons_succ] at hK ⊢
         have e141 := hJ.v141 (hdep ⟨1, .data⟩ (by simp) rfl)
         have e142 := hJ.v142 (hdep ⟨2, .data⟩ (by simp) rfl)
         simp only [e141, e142] at hK ⊢
         go_simp
         exact hK.out _ _ { hJ with v143 := fun _ => by first | rfl | (simp only [w_add]; rfl) | simp [setv, w_add] }
        ·refine ⟨fun s hs => by cases hs <;> decide, ?_⟩
         rintro dd val W hJ hd hdep K hK
         rw [if_pos (by rfl)]
         dsimp only [putF, List.foldl, Act.put] at hK ⊢
         simp only [List.setIfInBounds_toArray, List.set_cons_zero, List.set_cons_succ] at hK ⊢
         go_simp
         exact hK.out _ _ { hJ with v144 := fun _ => rfl }
        ·refine ⟨fun s hs => by cases hs <;> decide, ?_⟩
         rintro dd val W hJ hd hdep K hK
         rw [if_pos (by rfl)]
         dsimp only [putF, List.foldl, Act.put] at hK ⊢
         simp only [List.setIfInBounds_toArray, List.set_cons_zero, List.set_cons_succ] at hK ⊢
         have e143 := hJ.v143 (hdep ⟨3, .data⟩ (by simp) rfl)
         have e144 := hJ.v144 (hdep ⟨4, .data⟩ (by simp) rfl)
         simp only [e143, e144] at hK ⊢
         go_simp
         exact hK.out _ _ { hJ with v145 := fun _ => by first | rfl | (simp only [w_add]; rfl) | simp [setv, w_add] }
        ·refine ⟨fun s hs => by cases hs <;> decide, ?_⟩
         rintro dd val W hJ hd hdep K hK
         rw [if_pos (by rfl)]
         dsimp only [putF, List.foldl, Act.put] at hK ⊢
         simp only [List.setIfInBounds_toArray, List.set_cons_zero, List.set_cons_succ] at hK ⊢
         go_simp
         exact hK.out _ _ { hJ with v146 := fun _ => rfl }
        ·refine ⟨fun s hs => by cases hs <;> decide, ?_⟩
         rintro dd val W hJ hd hdep K hK
         rw [if_pos (by rfl)]
         dsimp only [putF, List.foldl, Act.put] at hK ⊢
         simp only [List.setIfInBounds_toArray, List.set_cons_zero, List.set_cons_succ] at hK ⊢
         have e146 := hJ.v146 (hdep ⟨6, .data⟩ (by simp) rfl)
         simp only [e146] at hK ⊢
         go_simp
         exact hK.out _ _ { hJ with v147 := fun _ => by first | rfl | simp }
        ·refine ⟨fun s hs => by cases hs <;> decide, ?_⟩
         rintro dd val W hJ hd hdep K hK
         rw [if_pos (by rfl)]
         dsimp only [putF, List.foldl, Act.put] at hK ⊢
         simp only [List.setIfInBounds_toArray, List.set_cons_zero, List.set_cons_succ] at hK ⊢
         have e147 := hJ.v147 (hdep ⟨7, .data⟩ (by simp) rfl)
         simp only [e147] at hK ⊢
         have q0 := HCK.out W hJ.st
         go_simp
         exact hK.out _ _ { hJ with v148 := fun _ => rfl }
        ·refine ⟨fun s hs => by cases hs <;> decide, ?_⟩
         rintro dd val W hJ hd hdep K hK
         rw [if_pos (by rfl)]
         dsimp only [putF, List.foldl, Act.put] at hK ⊢
         simp only [List.setIfInBounds_toArray, List.set_cons_zero, List.set_cons_succ] at hK ⊢
         have e145 := hJ.v145 (hdep ⟨5, .data⟩ (by simp) rfl)
         have e148 := hJ.v148 (hdep ⟨8, .data⟩ (by simp) rfl)
         simp only [e145, e148] at hK ⊢
         go_simp
         exact hK.out _ _ { hJ with v149 := fun _ => by first | rfl | (simp only [w_add]; rfl) | simp [setv, w_add] }
        ·refine ⟨fun s hs => by cases hs <;> decide, ?_⟩
         rintro dd val W hJ hd hdep K hK
         rw [if_pos (by rfl)]
         dsimp only [putF, List.foldl, Act.put] at hK ⊢
         simp only [List.setIfInBounds_toArray, List.set_cons_zero, List.set_cons_succ] at hK ⊢
         go_simp
         exact hK.out _ _ { hJ with v150 := fun _ => rfl }
        ·refine ⟨fun s hs => by cases hs <;> decide, ?_⟩
         rintro dd val W hJ hd hdep K hK
         rw [if_pos (by rfl)]
         dsimp only [putF, List.foldl, Act.put] at hK ⊢
         simp only [List.setIfInBounds_toArray, List.set_cons_zero, List.set_cons_succ] at hK ⊢
         have e150 := hJ.v150 (hdep ⟨10, .data⟩ (by simp) rfl)
         simp only [e150] at hK ⊢
         go_simp
         exact hK.out _ _ { hJ with v151 := fun _ => by first | rfl | simp }
        ·refine ⟨fun s hs => by cases hs <;> decide, ?_⟩
         rintro dd val W hJ hd hdep K hK
         rw [if_pos (by rfl)]
         dsimp only [putF, List.foldl, Act.put] at hK ⊢
         simp only [List.setIfInBounds_toArray, List.set_cons_zero, List.set_cons_succ] at hK ⊢
         have e151 := hJ.v151 (hdep ⟨11, .data⟩ (by simp) rfl)
         simp only [e151] at hK ⊢
         have q0 := HCW.out W hJ.st
         go_simp
         exact hK.out _ _ { hJ with v152 := fun _ => rfl }
        ·refine ⟨fun s hs => by cases hs <;> decide, ?_⟩
         rintro dd val W hJ hd hdep K hK
         rw [if_pos (by rfl)]
         dsimp only [putF, List.foldl, Act.put] at hK ⊢
         simp only [List.setIfInBounds_toArray, List.set_cons_zero, List.set_cons_succ] at hK ⊢
         have e149 := hJ.v149 (hdep ⟨9, .data⟩ (by simp) rfl)
         have e152 := hJ.v152 (hdep ⟨12, .data⟩ (by simp) rfl)
         simp only [e149, e152] at hK ⊢
         go_simp
         exact hK.out _ _ { hJ with v153 := fun _ => by first | rfl | (simp only [w_add]; rfl) | simp [setv, w_add] }
        ·refine ⟨fun s hs => by cases hs <;> decide, ?_⟩
         rintro dd val W hJ hd hdep K hK
         rw [if_pos (by rfl)]
         dsimp only [putF, List.foldl, Act.put] at hK ⊢
         simp only [List.setIfInBounds_toArray, List.set_cons_zero, List.set_cons_succ] at hK ⊢
         have e153 := hJ.v153 (hdep ⟨13, .data⟩ (by simp) rfl)
         simp only [e153] at hK ⊢
         go_simp
         exact hK.out _ _ { hJ with v15 := fun _ => rfl }
        ·intro dd val W hall hJ
         have e15 := hJ.v15 (hall 14 (by decide))
         have hst9 := hJ.st
         dsimp only [putF, List.foldl, Act.put]
         simp only [List.setIfInBounds_toArray, List.set_cons_zero, List.set_cons_succ, e15]
         have HS19 := hide hst9
         obtain ⟨v15, hv15⟩ : ∃ v, v = th + v13 + v14 + kk + ww := ⟨_, rfl⟩
         rw [← hv15]
         have HV15 := hide hv15
         clear hv15 hst9 hJ hall
         obtain ⟨w2, rfl⟩ : ∃ w1 : World, w1 = W := ⟨_, rfl⟩
         go_upto_region 20 with fail
         refine region_inv [154, 155, 156, 157, 158, 159, 160, 161, 162, 163, 164, 16] (J20 gV ta (VSt w gH gR gW gK gV s ⟨ta, tb, tc, td, te, tf, tg, th⟩ b)) (by kernel_rfl) (by kernel_rfl) (fun val => ⟨HS19.out.drew, nofun, nofun, nofun, nofun, nofun, nofun, nofun, nofun, nofun, nofun, nofun, nofun⟩) ⟨?_, ?_, ?_, ?_, ?_, ?_, ?_, ?_, ?_, ?_, ?_, ?_, trivial⟩ ?_
         ·refine ⟨fun s hs => by cases hs <;> decide, ?_⟩
          rintro dd val W hJ hd hdep K hK
          rw [if_pos (by rfl)]
          dsimp only [putF, List.foldl, Act.put] at hK ⊢
          simp only [List.setIfInBounds_toArray, List.set_cons_zero, List.set_cons_succ] at hK ⊢
          go_simp
          exact hK.out _ _ { hJ with v154 := fun _ => by first | rfl | simp }
         ·refine ⟨fun s hs => by cases hs <;> decide, ?_⟩
          rintro dd val W hJ hd hdep K hK
          rw [if_pos (by rfl)]
          dsimp only [putF, List.foldl, Act.put] at hK ⊢
          simp only [List.setIfInBounds_toArray, List.set_cons_zero, List.set_cons_succ] at hK ⊢
          have e154 := hJ.v154 (hdep ⟨0, .data⟩ (by simp) rfl)
          simp only [e154] at hK ⊢
          have q0 := HCV0.out W hJ.st
          go_simp
          exact hK.out _ _ { hJ with v155 := fun _ => rfl }
         ·refine ⟨fun s hs => by cases hs <;> decide, ?_⟩
          rintro dd val W hJ hd hdep K hK
          rw [if_pos (by rfl)]
          dsimp only [putF, List.foldl, Act.put] at hK ⊢
          simp only [List.setIfInBounds_toArray, List.set_cons_zero, List.set_cons_succ] at hK ⊢
          have e155 := hJ.v155 (hdep ⟨1, .data⟩ (by simp) rfl)
          simp only [e155] at hK ⊢
          go_simp
          refine (turn_2 ta W).mono ?_
          rintro e9 w7 ⟨rfl, hb7⟩
          go_wp2_with fail
          exact hK.out _ _ { hJ with st := hJ.st.below' hb7, v156 := fun _ => rfl }
         ·refine ⟨fun s hs => by cases hs <;> decide, ?_⟩
          rintro dd val W hJ hd hdep K hK
          rw [if_pos (by rfl)]
          dsimp only [putF, List.foldl, Act.put] at hK ⊢
          simp only [List.setIfInBounds_toArray, List.set_cons_zero, List.set_cons_succ] at hK ⊢
          go_simp
          exact hK.out _ _ { hJ with v157 := fun _ => by first | rfl | simp }
         ·refine ⟨fun s hs => by cases hs <;> decide, ?_⟩
          rintro dd val W hJ hd hdep K hK
          rw [if_pos (by rfl)]
          dsimp only [putF, List.foldl, Act.put] at hK ⊢
          simp only [List.setIfInBounds_toArray, List.set_cons_zero, List.set_cons_succ] at hK ⊢
          have e157 := hJ.v157 (hdep ⟨3, .data⟩ (by simp) rfl)
          simp only [e157] at hK ⊢
          have q0 := HCV0.out W hJ.st
          go_simp
          exact hK.out _ _ { hJ with v158 := fun _ => rfl }
         ·refine ⟨fun s hs => by cases hs <;> decide, ?_⟩
          rintro dd val W hJ hd hdep K hK
          rw [if_pos (by rfl)]
          dsimp only [putF, List.foldl, Act.put] at hK ⊢
          simp only [List.setIfInBounds_toArray, List.set_cons_zero, List.set_cons_succ] at hK ⊢
          have e158 := hJ.v158 (hdep ⟨4, .data⟩ (by simp) rfl)
          simp only [e158] at hK ⊢
          go_simp
          refine (turn_13 ta W).mono ?_
          rintro e9 w7 ⟨rfl, hb7⟩
          go_wp2_with fail
          exact hK.out _ _ { hJ with st := hJ.st.below' hb7, v159 := fun _ => rfl }
         ·refine ⟨fun s hs => by cases hs <;> decide, ?_⟩
          rintro dd val W hJ hd hdep K hK
          rw [if_pos (by rfl)]
          dsimp only [putF, List.foldl, Act.put] at hK ⊢
          simp only [List.setIfInBounds_toArray, List.set_cons_zero, List.set_cons_succ] at hK ⊢
          have e156 := hJ.v156 (hdep ⟨2, .data⟩ (by simp) rfl)
          have e159 := hJ.v159 (hdep ⟨5, .data⟩ (by simp) rfl)
          simp only [e156, e159] at hK ⊢
          go_simp
          exact hK.out _ _ { hJ with v160 := fun _ => by first | rfl | (simp only [w_xor]; rfl) | simp [setv, w_xor] }
         ·refine ⟨fun s hs => by cases hs <;> decide, ?_⟩
          rintro dd val W hJ hd hdep K hK
          rw [if_pos (by rfl)]
          dsimp only [putF, List.foldl, Act.put] at hK ⊢
          simp only [List.setIfInBounds_toArray, List.set_cons_zero, List.set_cons_succ] at hK ⊢
          go_simp
          exact hK.out _ _ { hJ with v161 := fun _ => by first | rfl | simp }
         ·refine ⟨fun s hs => by cases hs <;> decide, ?_⟩
          rintro dd val W hJ hd hdep K hK
          rw [if_pos (by rfl)]
          dsimp only [putF, List.foldl, Act.put] at hK ⊢
          simp only [List.setIfInBounds_toArray, List.set_cons_zero, List.set_cons_succ] at hK ⊢
          have e161 := hJ.v161 (hdep ⟨7, .data⟩ (by simp) rfl)
          simp only [e161] at hK ⊢
          have q0 := HCV0.out W hJ.st
          go_simp
          exact hK.out _ _ { hJ with v162 := fun _ => rfl }
         ·refine ⟨fun s hs => by cases hs <;> decide, ?_⟩
          rintro dd val W hJ hd hdep K hK
          rw [if_pos (by rfl)]
          dsimp only [putF, List.foldl, Act.put] at hK ⊢
          simp only [List.setIfInBounds_toArray, List.set_cons_zero, List.set_cons_succ] at hK ⊢
          have e162 := hJ.v162 (hdep ⟨8, .data⟩ (by simp) rfl)
          simp only [e162] at hK ⊢
          go_simp
          refine (turn_22 ta W).mono ?_
          rintro e9 w7 ⟨rfl, hb7⟩
          go_wp2_with fail
          exact hK.out _ _ { hJ with st := hJ.st.below' hb7, v163 := fun _ => rfl }
         ·refine ⟨fun s hs => by cases hs <;> decide, ?_⟩
          rintro dd val W hJ hd hdep K hK
          rw [if_pos (by rfl)]
          dsimp only [putF, List.foldl, Act.put] at hK ⊢
          simp only [List.setIfInBounds_toArray, List.set_cons_zero, List.set_cons_succ] at hK ⊢
          have e160 := hJ.v160 (hdep ⟨6, .data⟩ (by simp) rfl)
          have e163 := hJ.v163 (hdep ⟨9, .data⟩ (by simp) rfl)
          simp only [e160, e163] at hK ⊢
          go_simp
          exact hK.out _ _ { hJ with v164 := fun _ => by first | rfl | (simp only [w_xor]; rfl) | simp [setv, w_xor] }
         ·refine ⟨fun s hs => by cases hs <;> decide, ?_⟩
          rintro dd val W hJ hd hdep K hK
          rw [if_pos (by rfl)]
          dsimp only [putF, List.foldl, Act.put] at hK ⊢
          simp only [List.setIfInBounds_toArray, List.set_cons_zero, List.set_cons_succ] at hK ⊢
          have e164 := hJ.v164 (hdep ⟨10, .data⟩ (by simp) rfl)
          simp only [e164] at hK ⊢
          go_simp
          exact hK.out _ _ { hJ with v16 := fun _ => rfl }
         ·intro dd val W hall hJ
          have e16 := hJ.v16 (hall 11 (by decide))
          have hst9 := hJ.st
          dsimp only [putF, List.foldl, Act.put]
          simp only [List.setIfInBounds_toArray, List.set_cons_zero, List.set_cons_succ, e16]
          have HS20 := hide hst9
          obtain ⟨v16, hv16⟩ : ∃ v, v = (ta >>> 2 ||| ta <<< 30) ^^^ (ta >>> 13 ||| ta <<< 19) ^^^ (ta >>> 22 ||| ta <<< 10) := ⟨_, rfl⟩
          rw [← hv16]
          have HV16 := hide hv16
          clear hv16 hst9 hJ hall
          obtain ⟨w3, rfl⟩ : ∃ w1 : World, w1 = W := ⟨_, rfl⟩
          obtain ⟨c0, c1, c2, c3, c4, c5, c6, c7⟩ := HS20.out.v.facts
          go_upto_region 22 with fail
          simp only [w_and, w_xor]
          obtain ⟨v17, hv17⟩ : ∃ v, v = ta &&& tb ^^^ ta &&& tc ^^^ tb &&& tc := ⟨_, rfl⟩
          rw [← hv17]
          have HV17 := hide hv17
          clear hv17
          have f0 := HS20.out.v.frozen 0
          have f1 := HS20.out.v.frozen 1
          have f2 := HS20.out.v.frozen 2
          have f3 := HS20.out.v.frozen 3
          have f4 := HS20.out.v.frozen 4
          have f5 := HS20.out.v.frozen 5
          have f6 := HS20.out.v.frozen 6
          have f7 := HS20.out.v.frozen 7
          have HSTEP := hide (show stepS kk ww ⟨ta, tb, tc, td, te, tf, tg, th⟩ = ⟨v15 + v16 + v17, ta, tb, tc, td + v15, te, tf, tg⟩ by
           have e1 : tS kk ww ⟨ta, tb, tc, td, te, tf, tg, th⟩ = v15 := by rw [HV15.out, HV13.out, HV14.out]; rfl
           have e2 : vS ⟨ta, tb, tc, td, te, tf, tg, th⟩ = v16 + v17 := by rw [HV16.out, HV17.out]; rfl
           rw [stepS, e1, e2, UInt32.add_assoc])
          go_wp2_with fail
          go_roundw
          case rel =>
           refine ⟨k3 + 1, ⟨v15 + v16 + v17, ta, tb, tc, td + v15, te, tf, tg⟩, by omega, by go_num, hide (HN.out.trans HSTEP.out), ?_⟩
           have hfin := HS20.out.step ⟨v15 + v16 + v17, ta, tb, tc, td + v15, te, tf, tg⟩
           unfold set8 at hfin
           simp only [w_add, w_add3]
           exact hfin
          case measure => simp [intOf]; omega
      ·have hk64 : k3 = 64 := by omega
       have HFIN := hide (show blockS b s = ⟨ta + s.a, tb + s.b, tc + s.c, td + s.d, te + s.e, tf + s.f, tg + s.g, th + s.h⟩ by
        have hr : runS b s 64 = ⟨ta, tb, tc, td, te, tf, tg, th⟩ := by rw [← hk64]; exact HRUN.out
        rw [blockS, hr]
        simp only [UInt32.add_comm])
       have hl3 : ¬ (k3 : Int) < 64 := by omega
       clear hk64
       obtain ⟨wz, rfl⟩ : ∃ wo : World, wo = wr := ⟨_, rfl⟩
       go_wp2_with fail
       go_loopw [204] (fun iv wr => ∃ q : Nat, q ≤ 8 ∧ iv = .int .i64 q ∧ VSt w gH gR gW gK gV s (mixS s ⟨ta, tb, tc, td, te, tf, tg, th⟩ q) b wr) (fun iv _ => 8 - (intOf iv).toNat)
       case atStart => exact ⟨0, by omega, rfl, HST7.out⟩
       case round =>
        obtain ⟨q, hq, rfl, hsq⟩ := hrel
        have HSQ := hide hsq
        clear hsq
        by_cases hlt4 : q < 8
        ·have hq8 : (q : Int) < 8 := by omega
         have HGV := hide (HSQ.out.v.get q hlt4)
         have hgv := HGV.out
         rw [mixS_get s _ q hlt4] at hgv
         have hgh := HSQ.out.b.h.get q hlt4
         obtain ⟨xt, hxt⟩ : ∃ x, S8.get ⟨ta, tb, tc, td, te, tf, tg, th⟩ q = x := ⟨_, rfl⟩
         obtain ⟨xs, hxs⟩ : ∃ x, S8.get s q = x := ⟨_, rfl⟩
         rw [hxt] at hgv
         rw [hxs] at hgh
         have fv := HSQ.out.v.frozen q
         have HXX := hide (And.intro hxt hxs)
         have HL4 := hide hlt4
         clear hxt hxs hlt4
         go_wp2_with fail
         go_region
         all_goals
          clear hgv hgh fv
          go_wp2_with fail
          go_roundw
          case rel =>
           refine ⟨q + 1, by have := HL4.out; omega, by go_num, ?_⟩
           simp only [w_add]
           rw [← HXX.out.1, ← HXX.out.2]
           exact (HSQ.out.put (HSQ.out.v.mix q HL4.out)).drew
          case measure => simp [intOf]; have := HL4.out; omega
        ·obtain rfl : q = 8 := by omega
         rw [show ((8 : Nat) : Int) = 8 from rfl]
         have hv : HV gV ⟨ta + s.a, tb + s.b, tc + s.c, td + s.d, te + s.e, tf + s.f, tg + s.g, th + s.h⟩ wr := HSQ.out.v
         obtain ⟨c0, c1, c2, c3, c4, c5, c6, c7⟩ := hv.facts
         have f0 := HSQ.out.b.r.frozen 0
         have f1 := HSQ.out.b.r.frozen 1
         have f2 := HSQ.out.b.r.frozen 2
         have f3 := HSQ.out.b.r.frozen 3
         have f4 := HSQ.out.b.r.frozen 4
         have f5 := HSQ.out.b.r.frozen 5
         have f6 := HSQ.out.b.r.frozen 6
         have f7 := HSQ.out.b.r.frozen 7
         have hr := HSQ.out.b.r
         obtain ⟨z0, z1, z2, z3, z4, z5, z6, z7⟩ := hr.facts
         have HRR := hide (set8_self ⟨ta + s.a, tb + s.b, tc + s.c, td + s.d, te + s.e, tf + s.f, tg + s.g, th + s.h⟩ hr)
         have HBB := hide (set8_below (g := gR) ⟨ta + s.a, tb + s.b, tc + s.c, td + s.d, te + s.e, tf + s.f, tg + s.g, th + s.h⟩ HSQ.out.b.below (by have := HSQ.out.b.hH; have := HSQ.out.b.hR; omega))
         clear hv hr
         go_wp2_with fail
         obtain ⟨W9, hW9⟩ : ∃ W, W = set8 wr gR ⟨ta + s.a, tb + s.b, tc + s.c, td + s.d, te + s.e, tf + s.f, tg + s.g, th + s.h⟩ := ⟨_, rfl⟩
         rw [← hW9] at HRR HBB
         unfold set8 at hW9
         rw [← hW9]
         obtain ⟨q0, q1, q2, q3, q4, q5, q6, q7⟩ := HRR.out.facts
         exact bodyPost_ret (v := (blockS b s).val) (by rw [HFIN.out]; simp [results, Tryd.results61, go_sem, q0, q1, q2, q3, q4, q5, q6, q7, S8.val]) rfl ⟨rfl, HBB.out⟩
end Go.Proofs.YtmgnihmjjijdoaaDoor
