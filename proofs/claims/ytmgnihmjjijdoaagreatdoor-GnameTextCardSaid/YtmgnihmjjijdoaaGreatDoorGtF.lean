/- General names as text: the reference's FormatGeneral. -/
import Derived.Test.YtmgnihmjjijdoaaGreatDoorGtC
import Derived.Test.YtmgnihmjjijdoaaGreatDoorGTxtA
namespace Go.Proofs.YtmgnihmjjijdoaaGreatDoor
open Go.RowKit
set_option maxRecDepth 100000 in
set_option maxHeartbeats 8000000 in
theorem rFormatG_any (kb : Int) (t : ByteArray) (nb : Name) (A : Option Addr) (c : Nat) (hts : t.size ≤ 300000) (hsn : SmallN nb) (w : World) (hmx : Mx w) (h : Sl RRdn 1 w (Lt w.heap.size) nb [.slice A nb.length c]) :
  Calls Tryz.prog 10 #[.agg #[.int .i64 kb, .string t, .slice A nb.length c]] w fun e w' => e = .returned (wrapR (fmtG (kb, t.data.toList, nb))) ∧ Below w.heap.size w w' := by
 have HMX := hide hmx
 have K := hide h
 have HSN := hide hsn
 obtain ⟨wx, hwx⟩ : ∃ W, W = w.alloc (.cells #[.int .i64 kb, .string t, .slice A nb.length c] 26) := ⟨_, rfl⟩
 have hgb : GB w.heap.size kb t (.slice A nb.length c) wx := by rw [hwx]; exact heap_alloc_new w _
 have HBX := hide (show Below w.heap.size w wx by rw [hwx]; exact (Below.refl _ _).alloc (Nat.le_refl _) _)
 obtain ⟨gx, hgx⟩ : ∃ g, w.heap.size = g := ⟨_, rfl⟩
 have HGX := hide hgx
 rw [hgx] at hgb
 obtain ⟨z0, z1, z2, -, -, -⟩ := hgb.facts
 have HWX := hide hwx
 clear hmx h hsn hgb hwx hgx
 go_enter Tryz.func10, Tryz.ntmps10
 go_upto_region 1 with fail
 rw [← HWX.out]
 try rw [HGX.out]
 by_cases h1 : kb = 1
 ·have hk9 := h1
  clear h1
  obtain ⟨ev, hev⟩ : ∃ x : ByteArray, x = ⟨(t.data.toList.flatMap escB).toArray⟩ := ⟨_, rfl⟩
  have hevs : ev.size ≤ 3 * t.size := by
   rw [hev, ba_mk]
   (have := escBs_len t.data.toList; rw [size_string] at this; exact this)
  obtain ⟨z, hz⟩ : ∃ z : ByteArray, bMailW ++ ev = z := ⟨_, rfl⟩
  have HES := hide (show ∀ W, Calls Tryz.prog 32 #[.string t] W fun e9 w' => e9 = .returned (.string ev) ∧ Below W.heap.size W w' from fun W => hev ▸ rEscape_any t (by omega) W)
  have HFM := hide (show wrapR (fmtG (kb, t.data.toList, nb)) = .tuple #[.string z, .int .i64 0] by
   have hzz : z = ⟨(wMail ++ t.data.toList.flatMap escB).toArray⟩ := by rw [← hz, hev]; rfl
   rw [hk9, hzz]; rfl)
  have hsum : ¬ 9223372036854775807 < 5 + ev.size := by omega
  have hsum2 : ¬ 9223372036854775807 < (bMailW).size + ev.size := by have : (bMailW).size = 5 := rfl; omega
  unfold bMailW at hz
  subst hk9
  clear hev
  go_wp2_with fail
  refine (HES.out _).mono ?_
  rintro e w3 ⟨rfl, hb3⟩
  have HB3 := hide (HBX.out.trans (hb3.mono HBX.out.size))
  clear hb3 z0 z1 z2
  go_wp2_with fail
  go_ret2
  exact ⟨by rw [HFM.out]; rfl, HB3.out⟩
 ·have t1 : (kb == 1) = false := by simpa using h1
  by_cases h2 : kb = 2
  ·have hk9 := h2
   clear h1 h2 t1
   obtain ⟨ev, hev⟩ : ∃ x : ByteArray, x = ⟨(t.data.toList.flatMap escB).toArray⟩ := ⟨_, rfl⟩
   have hevs : ev.size ≤ 3 * t.size := by
    rw [hev, ba_mk]
    (have := escBs_len t.data.toList; rw [size_string] at this; exact this)
   obtain ⟨z, hz⟩ : ∃ z : ByteArray, bDnsW ++ ev = z := ⟨_, rfl⟩
   have HES := hide (show ∀ W, Calls Tryz.prog 32 #[.string t] W fun e9 w' => e9 = .returned (.string ev) ∧ Below W.heap.size W w' from fun W => hev ▸ rEscape_any t (by omega) W)
   have HFM := hide (show wrapR (fmtG (kb, t.data.toList, nb)) = .tuple #[.string z, .int .i64 0] by
    have hzz : z = ⟨(wDns ++ t.data.toList.flatMap escB).toArray⟩ := by rw [← hz, hev]; rfl
    rw [hk9, hzz]; rfl)
   have hsum : ¬ 9223372036854775807 < 4 + ev.size := by omega
   have hsum2 : ¬ 9223372036854775807 < (bDnsW).size + ev.size := by have : (bDnsW).size = 4 := rfl; omega
   unfold bDnsW at hz
   subst hk9
   clear hev
   go_wp2_with fail
   refine (HES.out _).mono ?_
   rintro e w3 ⟨rfl, hb3⟩
   have HB3 := hide (HBX.out.trans (hb3.mono HBX.out.size))
   clear hb3 z0 z1 z2
   go_wp2_with fail
   go_ret2
   exact ⟨by rw [HFM.out]; rfl, HB3.out⟩
  ·have t2 : (kb == 2) = false := by simpa using h2
   by_cases h7 : kb = 7
   ·have hk9 := h7
    clear h1 h2 t1 t2 h7
    obtain ⟨ev, hev⟩ : ∃ x : ByteArray, x = ⟨(t.data.toList.flatMap hexB).toArray⟩ := ⟨_, rfl⟩
    have hevs : ev.size ≤ 3 * t.size := by
     rw [hev, ba_mk]
     (have h9 : (t.data.toList.flatMap hexB).length = 2 * t.data.toList.length := hexG_len _; rw [size_string] at h9; omega)
    obtain ⟨z, hz⟩ : ∃ z : ByteArray, bIpW ++ ev = z := ⟨_, rfl⟩
    have HES := hide (show ∀ W, Calls Tryz.prog 33 #[.string t] W fun e9 w' => e9 = .returned (.string ev) ∧ Below W.heap.size W w' from fun W => hev ▸ Hex_any t (by omega) W)
    have HFM := hide (show wrapR (fmtG (kb, t.data.toList, nb)) = .tuple #[.string z, .int .i64 0] by
     have hzz : z = ⟨(wIp ++ t.data.toList.flatMap hexB).toArray⟩ := by rw [← hz, hev]; rfl
     rw [hk9, hzz]; rfl)
    have hsum : ¬ 9223372036854775807 < 3 + ev.size := by omega
    have hsum2 : ¬ 9223372036854775807 < (bIpW).size + ev.size := by have : (bIpW).size = 3 := rfl; omega
    unfold bIpW at hz
    subst hk9
    clear hev
    go_wp2_with fail
    refine (HES.out _).mono ?_
    rintro e w3 ⟨rfl, hb3⟩
    have HB3 := hide (HBX.out.trans (hb3.mono HBX.out.size))
    clear hb3 z0 z1 z2
    go_wp2_with fail
    go_ret2
    exact ⟨by rw [HFM.out]; rfl, HB3.out⟩
   ·have t7 : (kb == 7) = false := by simpa using h7
    by_cases h4 : kb = 4
    ·have HFG := hide (show fmtG (kb, t.data.toList, nb) = fmtD nb by rw [fmtG, if_neg h1, if_neg h2, if_neg h7, if_pos h4])
     subst h4
     obtain ⟨q, hq⟩ : ∃ q, chkN nb = q := ⟨_, rfl⟩
     clear h1 h2 h7 t1 t2 t7
     by_cases hq0 : q = 0
     ·obtain ⟨E, hE⟩ : ∃ E : ByteArray, E = ⟨(fmtB nb).toArray⟩ := ⟨_, rfl⟩
      have hEs : E.size ≤ 41640 := by rw [hE, ba_mk]; exact fmtB_len (hq.trans hq0)
      have HWR := hide (show wrapR (fmtN nb) = .tuple #[.string E, .int .i64 0] by rw [fmtN, if_pos (hq.trans hq0), wrapR, hE])
      obtain ⟨z, hz⟩ : ∃ z : ByteArray, bDirW ++ E = z := ⟨_, rfl⟩
      have HFM := hide (show wrapR (fmtG ((4 : Int), t.data.toList, nb)) = .tuple #[.string z, .int .i64 0] by
       have hzz : z = ⟨(wDir ++ fmtB nb).toArray⟩ := by rw [← hz, hE]; rfl
       rw [HFG.out, fmtD, if_pos (hq.trans hq0), hzz]; rfl)
      have hsum : ¬ 9223372036854775807 < 4 + E.size := by omega
      unfold bDirW at hz
      clear hq hq0 hE
      go_wp2_with fail
      refine (rFormatName_any nb A c _ (HMX.out.below HBX.out) ((Sl.ok RRdn.ok).below K.out HBX.out) HSN.out).mono ?_
      rintro e w3 ⟨rfl, hb3⟩
      rw [HWR.out]
      have HB3 := hide (HBX.out.trans (hb3.mono HBX.out.size))
      clear hb3 z0 z1 z2
      go_wp2_with fail
      go_ret2
      exact ⟨by rw [HFM.out]; rfl, HB3.out⟩
     ·have HWR := hide (show wrapR (fmtN nb) = .tuple #[.string ⟨#[]⟩, .int .i64 q] by rw [fmtN, if_neg (by rw [hq]; exact hq0), wrapR, hq])
      have HFM := hide (show wrapR (fmtG ((4 : Int), t.data.toList, nb)) = .tuple #[.string ⟨#[]⟩, .int .i64 q] by rw [HFG.out, fmtD, if_neg (by rw [hq]; exact hq0), wrapR, hq])
      have hqt : (q != 0) = true := by simp [hq0]
      clear hq hq0
      go_wp2_with fail
      refine (rFormatName_any nb A c _ (HMX.out.below HBX.out) ((Sl.ok RRdn.ok).below K.out HBX.out) HSN.out).mono ?_
      rintro e w3 ⟨rfl, hb3⟩
      rw [HWR.out]
      have HB3 := hide (HBX.out.trans (hb3.mono HBX.out.size))
      clear hb3 z0 z1 z2
      go_wp2_with fail
      go_ret2
      exact ⟨by rw [HFM.out]; rfl, HB3.out⟩
    ·have t4 : (kb == 4) = false := by simpa using h4
     have HFM := hide (show wrapR (fmtG (kb, t.data.toList, nb)) = .tuple #[.string ⟨#[]⟩, .int .i64 14] by rw [fmtG, if_neg h1, if_neg h2, if_neg h7, if_neg h4]; rfl)
     clear h1 h2 h7 h4
     go_wp2_with fail
     go_ret2
     exact ⟨by rw [HFM.out]; rfl, HBX.out⟩
end Go.Proofs.YtmgnihmjjijdoaaGreatDoor
