/- General names as text: Format, both sides. -/
import Derived.Test.YtmgnihmjjijdoaaGreatDoorGtA
import Derived.Test.YtmgnihmjjijdoaaGreatDoorGtB
import Derived.Test.YtmgnihmjjijdoaaGreatDoorNtC
import Derived.Test.YtmgnihmjjijdoaaGreatDoorNtD
import Derived.Test.YtmgnihmjjijdoaaGreatDoorGGnC
import Derived.Deep.RegionHeld3
namespace Go.Proofs.YtmgnihmjjijdoaaGreatDoor
open Go.RowKit
def bMailW : ByteArray := ⟨#[109, 97, 105, 108, 58]⟩
def bDnsW : ByteArray := ⟨#[100, 110, 115, 58]⟩
def bDirW : ByteArray := ⟨#[100, 105, 114, 58]⟩
def bIpW : ByteArray := ⟨#[105, 112, 58]⟩
set_option maxRecDepth 100000 in
set_option maxHeartbeats 1000000 in
theorem word_0 (w : World) : Calls Tryz.prog 28 #[.int .i64 0] w fun e w' => e = .returned (.string bMailW) ∧ Below w.heap.size w w' := by
 have hix : ∀ W, (Instr.index 86 (.agg #[.string ⟨#[109, 97, 105, 108, 58]⟩, .string ⟨#[100, 110, 115, 58]⟩, .string ⟨#[100, 105, 114, 58]⟩, .string ⟨#[105, 112, 58]⟩, .string ⟨#[]⟩]) (.int .i64 0)).run Tryz.prog W = .ok (.string bMailW) W := fun W => by kernel_rfl
 unfold bMailW at hix
 go_enter Tryz.func28, Tryz.ntmps28
 go_wp2_with fail
 go_ret
 exact ⟨rfl, Below.refl _ _⟩
set_option maxRecDepth 100000 in
set_option maxHeartbeats 1000000 in
theorem word_1 (w : World) : Calls Tryz.prog 28 #[.int .i64 1] w fun e w' => e = .returned (.string bDnsW) ∧ Below w.heap.size w w' := by
 have hix : ∀ W, (Instr.index 86 (.agg #[.string ⟨#[109, 97, 105, 108, 58]⟩, .string ⟨#[100, 110, 115, 58]⟩, .string ⟨#[100, 105, 114, 58]⟩, .string ⟨#[105, 112, 58]⟩, .string ⟨#[]⟩]) (.int .i64 1)).run Tryz.prog W = .ok (.string bDnsW) W := fun W => by kernel_rfl
 unfold bDnsW at hix
 go_enter Tryz.func28, Tryz.ntmps28
 go_wp2_with fail
 go_ret
 exact ⟨rfl, Below.refl _ _⟩
set_option maxRecDepth 100000 in
set_option maxHeartbeats 1000000 in
theorem word_2 (w : World) : Calls Tryz.prog 28 #[.int .i64 2] w fun e w' => e = .returned (.string bDirW) ∧ Below w.heap.size w w' := by
 have hix : ∀ W, (Instr.index 86 (.agg #[.string ⟨#[109, 97, 105, 108, 58]⟩, .string ⟨#[100, 110, 115, 58]⟩, .string ⟨#[100, 105, 114, 58]⟩, .string ⟨#[105, 112, 58]⟩, .string ⟨#[]⟩]) (.int .i64 2)).run Tryz.prog W = .ok (.string bDirW) W := fun W => by kernel_rfl
 unfold bDirW at hix
 go_enter Tryz.func28, Tryz.ntmps28
 go_wp2_with fail
 go_ret
 exact ⟨rfl, Below.refl _ _⟩
set_option maxRecDepth 100000 in
set_option maxHeartbeats 1000000 in
theorem word_3 (w : World) : Calls Tryz.prog 28 #[.int .i64 3] w fun e w' => e = .returned (.string bIpW) ∧ Below w.heap.size w w' := by
 have hix : ∀ W, (Instr.index 86 (.agg #[.string ⟨#[109, 97, 105, 108, 58]⟩, .string ⟨#[100, 110, 115, 58]⟩, .string ⟨#[100, 105, 114, 58]⟩, .string ⟨#[105, 112, 58]⟩, .string ⟨#[]⟩]) (.int .i64 3)).run Tryz.prog W = .ok (.string bIpW) W := fun W => by kernel_rfl
 unfold bIpW at hix
 go_enter Tryz.func28, Tryz.ntmps28
 go_wp2_with fail
 go_ret
 exact ⟨rfl, Below.refl _ _⟩
theorem hexG_len (l : List UInt8) : (hexG l).length = 2 * l.length := by
  induction l with
  | nil => rfl
  | cons c l ih =>
    unfold hexG at *
    rw [List.flatMap_cons, List.length_append, ih]
    simp; omega
theorem fmtB_len {n : Name} (h : chkN n = 0) : (fmtB n).length ≤ 41640 := by
 have hok := (chkN_iff n).1 h
 have := join_len 44 5204 (n.map fun r => fmtR (sortR r)) (fun x hx => by
  obtain ⟨r, hr, rfl⟩ := List.mem_map.1 hx
  exact fmtR_len (hok.2 r hr).2.1 (hok.2 r hr).2.2.1)
 rw [List.length_map] at this
 have h3 : n.length * 5205 ≤ 8 * 5205 := Nat.mul_le_mul_right _ hok.1
 rw [fmtB]; omega
set_option maxRecDepth 100000 in
set_option maxHeartbeats 8000000 in
theorem gFormat_any (kb : Int) (t : ByteArray) (nb : Name) (A : Option Addr) (c : Nat) (hts : t.size ≤ 300000) (hsn : SmallN nb) (w : World) (hmx : Mx w) (h : Sl RRdn 1 w (Lt w.heap.size) nb [.slice A nb.length c]) :
  Calls Tryz.prog 9 #[.agg #[.int .i64 kb, .string t, .slice A nb.length c]] w fun e w' => e = .returned (wrapR (fmtG (kb, t.data.toList, nb))) ∧ Below w.heap.size w w' := by
 have HMX := hide hmx
 have K := hide h
 have HSN := hide hsn
 obtain ⟨wx, hwx⟩ : ∃ W, W = w.alloc (.cells #[.int .i64 kb, .string t, .slice A nb.length c] 26) := ⟨_, rfl⟩
 have hgb : GB w.heap.size kb t (.slice A nb.length c) wx := by rw [hwx]; exact heap_alloc_new w _
 have HBX := hide (show Below w.heap.size w wx by rw [hwx]; exact (Below.refl _ _).alloc (Nat.le_refl _) _)
 obtain ⟨gx, hgx⟩ : ∃ g, w.heap.size = g := ⟨_, rfl⟩
 have HGX := hide hgx
 rw [hgx] at hgb
 obtain ⟨z0, z1, z2, -, -, -⟩ := hgb.facts
 have HGB := hide hgb
 have HWX := hide hwx
 obtain ⟨r, hr⟩ : ∃ r, ofK kb = r := ⟨_, rfl⟩
 have HRK := hide hr
 clear hmx h hsn hgb hwx hgx hr
 go_enter Tryz.func9, Tryz.ntmps9
 go_upto_region 1 with fail
 rw [← HWX.out]
 try rw [HGX.out]
 go_wp2_with fail
 refine (of_v kb r HRK.out _).mono ?_
 rintro e w2 ⟨rfl, rfl⟩
 by_cases h1 : kb = 1
 ·have hk9 := h1
  have HR := hide (show 0 = r by rw [← HRK.out, h1]; rfl)
  clear h1
  obtain ⟨ev, hev⟩ : ∃ x : ByteArray, x = ⟨(t.data.toList.flatMap escB).toArray⟩ := ⟨_, rfl⟩
  have hevs : ev.size ≤ 3 * t.size := by
   rw [hev, ba_mk]
   (have := escBs_len t.data.toList; rw [size_string] at this; exact this)
  obtain ⟨z, hz⟩ : ∃ z : ByteArray, bMailW ++ ev = z := ⟨_, rfl⟩
  have HES := hide (show ∀ W, W.cell? ⟨gx, 1, none⟩ = some (.string t) → Below wx.heap.size wx W → Calls Tryz.prog 29 #[.string t] W fun e9 w' => e9 = .returned (.string ev) ∧ W.cell? ⟨gx, 1, none⟩ = some (.string t) ∧ w'.cell? ⟨gx, 1, none⟩ = some (.string t) ∧ Below wx.heap.size wx w' from fun W h1 h2 =>
   (hev ▸ Escape_any t (by omega) W : Calls Tryz.prog 29 #[.string t] W fun e9 w' => e9 = .returned (.string ev) ∧ Below W.heap.size W w').mono fun _ _ ⟨he, hb⟩ => ⟨he, h1, cell_grows hb _ _ h1, h2.trans (hb.mono h2.size)⟩)
  have HWD := hide (show ∀ W, W.cell? ⟨gx, 1, none⟩ = some (.string t) → Below wx.heap.size wx W → Calls Tryz.prog 28 #[.int .i64 0] W fun e9 w' => e9 = .returned (.string bMailW) ∧ w'.cell? ⟨gx, 1, none⟩ = some (.string t) ∧ Below wx.heap.size wx w' from fun W h1 h2 =>
   (word_0 W).mono fun _ _ ⟨he, hb⟩ => ⟨he, cell_grows hb _ _ h1, h2.trans (hb.mono h2.size)⟩)
  have HFM := hide (show wrapR (fmtG (kb, t.data.toList, nb)) = .tuple #[.string z, .int .i64 0] by
   have hzz : z = ⟨(wMail ++ t.data.toList.flatMap escB).toArray⟩ := by rw [← hz, hev]; rfl
   rw [hk9, hzz]; rfl)
  have hsum : ¬ 9223372036854775807 < (bMailW).size + ev.size := by
   have : (bMailW).size ≤ 5 := by decide
   omega
  have hsum2 : ¬ 9223372036854775807 < 5 + ev.size := by omega
  have hsum3 : ¬ 9223372036854775807 < 4 + ev.size := by omega
  have hsum4 : ¬ 9223372036854775807 < 3 + ev.size := by omega
  have f1 := z1
  have f3 := Below.refl wx.heap.size wx
  have f1d : wx.drew.cell? ⟨gx, 1, none⟩ = some (.string t) := z1
  have f3d := f3.drew
  subst hk9
  obtain rfl : r = 0 := HR.out.symm
  clear hev z1 z0 z2
  go_upto_region 5 with fail
  go_region_held3 (fun W => W.cell? ⟨gx, 1, none⟩ = some (.string t) ∧ Below wx.heap.size wx W)
   (first | exact ⟨hs1, hs2⟩ | exact ⟨f1, f3⟩ | exact ⟨f1d, f3d⟩)
   (first
    | (go_at_call 28; (first | (with_reducible refine (HWD.out _ hs1 hs2).mono ?_) | (with_reducible refine (HWD.out _ f1d f3d).mono ?_) | fail); rintro e9 wn ⟨rfl, hs1, hs2⟩)
    | (go_at_call 29; (first | (with_reducible refine (HES.out _ hs1 hs2).mono ?_) | (with_reducible refine (HES.out _ f1d f3d).mono ?_) | fail); rintro e9 wn ⟨rfl, -, hs1, hs2⟩)
    | fail)
  all_goals
   have HBN := hide (HBX.out.trans (hs2.mono HBX.out.size))
   go_wp2_with fail
   go_ret2
   exact ⟨by rw [HFM.out]; rfl, HBN.out⟩
 ·by_cases h2 : kb = 2
  ·have hk9 := h2
   have HR := hide (show 1 = r by rw [← HRK.out, h2]; rfl)
   clear h1 h2
   obtain ⟨ev, hev⟩ : ∃ x : ByteArray, x = ⟨(t.data.toList.flatMap escB).toArray⟩ := ⟨_, rfl⟩
   have hevs : ev.size ≤ 3 * t.size := by
    rw [hev, ba_mk]
    (have := escBs_len t.data.toList; rw [size_string] at this; exact this)
   obtain ⟨z, hz⟩ : ∃ z : ByteArray, bDnsW ++ ev = z := ⟨_, rfl⟩
   have HES := hide (show ∀ W, W.cell? ⟨gx, 1, none⟩ = some (.string t) → Below wx.heap.size wx W → Calls Tryz.prog 29 #[.string t] W fun e9 w' => e9 = .returned (.string ev) ∧ W.cell? ⟨gx, 1, none⟩ = some (.string t) ∧ w'.cell? ⟨gx, 1, none⟩ = some (.string t) ∧ Below wx.heap.size wx w' from fun W h1 h2 =>
    (hev ▸ Escape_any t (by omega) W : Calls Tryz.prog 29 #[.string t] W fun e9 w' => e9 = .returned (.string ev) ∧ Below W.heap.size W w').mono fun _ _ ⟨he, hb⟩ => ⟨he, h1, cell_grows hb _ _ h1, h2.trans (hb.mono h2.size)⟩)
   have HWD := hide (show ∀ W, W.cell? ⟨gx, 1, none⟩ = some (.string t) → Below wx.heap.size wx W → Calls Tryz.prog 28 #[.int .i64 1] W fun e9 w' => e9 = .returned (.string bDnsW) ∧ w'.cell? ⟨gx, 1, none⟩ = some (.string t) ∧ Below wx.heap.size wx w' from fun W h1 h2 =>
    (word_1 W).mono fun _ _ ⟨he, hb⟩ => ⟨he, cell_grows hb _ _ h1, h2.trans (hb.mono h2.size)⟩)
   have HFM := hide (show wrapR (fmtG (kb, t.data.toList, nb)) = .tuple #[.string z, .int .i64 0] by
    have hzz : z = ⟨(wDns ++ t.data.toList.flatMap escB).toArray⟩ := by rw [← hz, hev]; rfl
    rw [hk9, hzz]; rfl)
   have hsum : ¬ 9223372036854775807 < (bDnsW).size + ev.size := by
    have : (bDnsW).size ≤ 5 := by decide
    omega
   have hsum2 : ¬ 9223372036854775807 < 5 + ev.size := by omega
   have hsum3 : ¬ 9223372036854775807 < 4 + ev.size := by omega
   have hsum4 : ¬ 9223372036854775807 < 3 + ev.size := by omega
   have f1 := z1
   have f3 := Below.refl wx.heap.size wx
   have f1d : wx.drew.cell? ⟨gx, 1, none⟩ = some (.string t) := z1
   have f3d := f3.drew
   subst hk9
   obtain rfl : r = 1 := HR.out.symm
   clear hev z1 z0 z2
   go_upto_region 5 with fail
   go_region_held3 (fun W => W.cell? ⟨gx, 1, none⟩ = some (.string t) ∧ Below wx.heap.size wx W)
    (first | exact ⟨hs1, hs2⟩ | exact ⟨f1, f3⟩ | exact ⟨f1d, f3d⟩)
    (first
     | (go_at_call 28; (first | (with_reducible refine (HWD.out _ hs1 hs2).mono ?_) | (with_reducible refine (HWD.out _ f1d f3d).mono ?_) | fail); rintro e9 wn ⟨rfl, hs1, hs2⟩)
     | (go_at_call 29; (first | (with_reducible refine (HES.out _ hs1 hs2).mono ?_) | (with_reducible refine (HES.out _ f1d f3d).mono ?_) | fail); rintro e9 wn ⟨rfl, -, hs1, hs2⟩)
     | fail)
   all_goals
    have HBN := hide (HBX.out.trans (hs2.mono HBX.out.size))
    go_wp2_with fail
    go_ret2
    exact ⟨by rw [HFM.out]; rfl, HBN.out⟩
  ·by_cases h7 : kb = 7
   ·have hk9 := h7
    have HR := hide (show 3 = r by rw [← HRK.out, h7]; rfl)
    clear h1 h2 h7
    obtain ⟨ev, hev⟩ : ∃ x : ByteArray, x = ⟨(t.data.toList.flatMap hexB).toArray⟩ := ⟨_, rfl⟩
    have hevs : ev.size ≤ 3 * t.size := by
     rw [hev, ba_mk]
     (have h9 : (t.data.toList.flatMap hexB).length = 2 * t.data.toList.length := hexG_len _; rw [size_string] at h9; omega)
    obtain ⟨z, hz⟩ : ∃ z : ByteArray, bIpW ++ ev = z := ⟨_, rfl⟩
    have HES := hide (show ∀ W, W.cell? ⟨gx, 1, none⟩ = some (.string t) → Below wx.heap.size wx W → Calls Tryz.prog 30 #[.string t] W fun e9 w' => e9 = .returned (.string ev) ∧ W.cell? ⟨gx, 1, none⟩ = some (.string t) ∧ w'.cell? ⟨gx, 1, none⟩ = some (.string t) ∧ Below wx.heap.size wx w' from fun W h1 h2 =>
     (hev ▸ pHex_any t (by omega) W : Calls Tryz.prog 30 #[.string t] W fun e9 w' => e9 = .returned (.string ev) ∧ Below W.heap.size W w').mono fun _ _ ⟨he, hb⟩ => ⟨he, h1, cell_grows hb _ _ h1, h2.trans (hb.mono h2.size)⟩)
    have HWD := hide (show ∀ W, W.cell? ⟨gx, 1, none⟩ = some (.string t) → Below wx.heap.size wx W → Calls Tryz.prog 28 #[.int .i64 3] W fun e9 w' => e9 = .returned (.string bIpW) ∧ w'.cell? ⟨gx, 1, none⟩ = some (.string t) ∧ Below wx.heap.size wx w' from fun W h1 h2 =>
     (word_3 W).mono fun _ _ ⟨he, hb⟩ => ⟨he, cell_grows hb _ _ h1, h2.trans (hb.mono h2.size)⟩)
    have HFM := hide (show wrapR (fmtG (kb, t.data.toList, nb)) = .tuple #[.string z, .int .i64 0] by
     have hzz : z = ⟨(wIp ++ t.data.toList.flatMap hexB).toArray⟩ := by rw [← hz, hev]; rfl
     rw [hk9, hzz]; rfl)
    have hsum : ¬ 9223372036854775807 < (bIpW).size + ev.size := by
     have : (bIpW).size ≤ 5 := by decide
     omega
    have hsum2 : ¬ 9223372036854775807 < 5 + ev.size := by omega
    have hsum3 : ¬ 9223372036854775807 < 4 + ev.size := by omega
    have hsum4 : ¬ 9223372036854775807 < 3 + ev.size := by omega
    have f1 := z1
    have f3 := Below.refl wx.heap.size wx
    have f1d : wx.drew.cell? ⟨gx, 1, none⟩ = some (.string t) := z1
    have f3d := f3.drew
    subst hk9
    obtain rfl : r = 3 := HR.out.symm
    clear hev z1 z0 z2
    go_upto_region 7 with fail
    go_region_held3 (fun W => W.cell? ⟨gx, 1, none⟩ = some (.string t) ∧ Below wx.heap.size wx W)
     (first | exact ⟨hs1, hs2⟩ | exact ⟨f1, f3⟩ | exact ⟨f1d, f3d⟩)
     (first
      | (go_at_call 28; (first | (with_reducible refine (HWD.out _ hs1 hs2).mono ?_) | (with_reducible refine (HWD.out _ f1d f3d).mono ?_) | fail); rintro e9 wn ⟨rfl, hs1, hs2⟩)
      | (go_at_call 30; (first | (with_reducible refine (HES.out _ hs1 hs2).mono ?_) | (with_reducible refine (HES.out _ f1d f3d).mono ?_) | fail); rintro e9 wn ⟨rfl, -, hs1, hs2⟩)
      | fail)
    all_goals
     have HBN := hide (HBX.out.trans (hs2.mono HBX.out.size))
     go_wp2_with fail
     go_ret2
     exact ⟨by rw [HFM.out]; rfl, HBN.out⟩
   ·by_cases h4 : kb = 4
    ·have HR := hide (show 2 = r by rw [← HRK.out, h4]; rfl)
     have HFG := hide (show fmtG (kb, t.data.toList, nb) = fmtD nb by rw [fmtG, if_neg h1, if_neg h2, if_neg h7, if_pos h4])
     subst h4
     obtain rfl : r = 2 := HR.out.symm
     obtain ⟨q, hq⟩ : ∃ q, chkN nb = q := ⟨_, rfl⟩
     clear h1 h2 h7
     by_cases hq0 : q = 0
     ·obtain ⟨E, hE⟩ : ∃ E : ByteArray, E = ⟨(fmtB nb).toArray⟩ := ⟨_, rfl⟩
      have hEs : E.size ≤ 41640 := by rw [hE, ba_mk]; exact fmtB_len (hq.trans hq0)
      have HWR := hide (show wrapR (fmtN nb) = .tuple #[.string E, .int .i64 0] by rw [fmtN, if_pos (hq.trans hq0), wrapR, hE])
      obtain ⟨z, hz⟩ : ∃ z : ByteArray, bDirW ++ E = z := ⟨_, rfl⟩
      have HFM := hide (show wrapR (fmtG ((4 : Int), t.data.toList, nb)) = .tuple #[.string z, .int .i64 0] by
       have hzz : z = ⟨(wDir ++ fmtB nb).toArray⟩ := by rw [← hz, hE]; rfl
       rw [HFG.out, fmtD, if_pos (hq.trans hq0), hzz]; rfl)
      have hsum : ¬ 9223372036854775807 < 4 + E.size := by omega
      have hsum2 : ¬ 9223372036854775807 < bDirW.size + E.size := by have : bDirW.size = 4 := rfl; omega
      clear hq hq0 hE
      go_wp2_with fail
      refine (Format_any nb A c _ (HMX.out.below HBX.out) ((Sl.ok RRdn.ok).below K.out HBX.out) HSN.out).mono ?_
      rintro e w3 ⟨rfl, hb3⟩
      rw [HWR.out]
      have HB3 := hide (HBX.out.trans (hb3.mono HBX.out.size))
      clear hb3 z0 z1 z2
      go_wp2_with fail
      refine (word_2 _).mono ?_
      rintro e w4 ⟨rfl, hb4⟩
      have HB4 := hide (HB3.out.trans (hb4.mono HB3.out.size))
      clear hb4
      go_wp2_with fail
      go_ret2
      exact ⟨by rw [HFM.out]; rfl, HB4.out⟩
     ·have HWR := hide (show wrapR (fmtN nb) = .tuple #[.string ⟨#[]⟩, .int .i64 q] by rw [fmtN, if_neg (by rw [hq]; exact hq0), wrapR, hq])
      have HFM := hide (show wrapR (fmtG ((4 : Int), t.data.toList, nb)) = .tuple #[.string ⟨#[]⟩, .int .i64 q] by rw [HFG.out, fmtD, if_neg (by rw [hq]; exact hq0), wrapR, hq])
      have hqt : (q != 0) = true := by simp [hq0]
      clear hq hq0
      go_wp2_with fail
      refine (Format_any nb A c _ (HMX.out.below HBX.out) ((Sl.ok RRdn.ok).below K.out HBX.out) HSN.out).mono ?_
      rintro e w3 ⟨rfl, hb3⟩
      rw [HWR.out]
      have HB3 := hide (HBX.out.trans (hb3.mono HBX.out.size))
      clear hb3 z0 z1 z2
      go_wp2_with fail
      go_ret2
      exact ⟨by rw [HFM.out]; rfl, HB3.out⟩
    ·have HR := hide (show 4 = r by rw [← HRK.out, ofK, if_neg h1, if_neg h2, if_neg h4, if_neg h7])
     have HFM := hide (show wrapR (fmtG (kb, t.data.toList, nb)) = .tuple #[.string ⟨#[]⟩, .int .i64 14] by rw [fmtG, if_neg h1, if_neg h2, if_neg h7, if_neg h4]; rfl)
     obtain rfl : r = 4 := HR.out.symm
     clear h1 h2 h7 h4
     go_wp2_with fail
     go_ret2
     exact ⟨by rw [HFM.out]; rfl, HBX.out⟩
end Go.Proofs.YtmgnihmjjijdoaaGreatDoor
