/- The functions of package gname: small, Same; subtree.known. -/
import Derived.Test.YtmgnihmjjijdoaaGreatDoorGHosI
import Derived.Test.YtmgnihmjjijdoaaGreatDoorGHosF
import Derived.Deep.RegionHeld3
import Derived.Test.YtmgnihmjjijdoaaGreatDoorGGnC
namespace Go.Proofs.YtmgnihmjjijdoaaGreatDoor
open Go.RowKit
set_option maxHeartbeats 1000000 in
theorem gsmall_any (s : ByteArray) (hs : s.size ≤ 1000000) (w : World) :
  Calls Tryz.prog 100 #[.string s] w fun e w' => e = .returned (.string ⟨(s.data.toList.map low).toArray⟩) ∧ Below w.heap.size w w' := by
 have hsz := size_string s
 generalize hl : s.data.toList = l at hsz
 have HL := hide hl
 have hsl : l.length ≤ 1000000 := by omega
 have hm : l.length ≤ maxLen := by unfold maxLen; omega
 clear hsz hl
 go_enter Tryz.func100, Tryz.ntmps100
 go_wp2_with (with_reducible refine wpList_str_bts _ rfl (.tmp 6) 9 28 5 rfl Tryz.underlying9 Tryz.underlying28 Tryz.underlying5 s rfl l HL.out hm ?_; intro g c w1 hg1 hg2 hb1 hby hc1 hc2)
 go_loopw [10] (fun i wr => ∃ k : Nat, k ≤ l.length ∧ i = .int .i64 k ∧ BytesAt wr 5 g (lowTo l k) ∧ Below w.heap.size w wr) (fun i _ => l.length - (intOf i).toNat)
 case atStart => exact ⟨0, Nat.zero_le _, rfl, by simpa [lowTo] using hby, hb1⟩
 case round =>
  obtain ⟨k, hk, rfl, hby, hb⟩ := hrel
  by_cases hlt : k < l.length
  ·have hlt' : k < (lowTo l k).length := by rw [lowTo_len]; exact hlt
   have hcell := hby.cell hlt'
   rw [lowTo_at l k hlt] at hcell
   have hfree := hby.free hlt'
   have hbb := byte_lt l[k]
   obtain ⟨b, hbk⟩ : ∃ b, b = l[k] := ⟨_, rfl⟩
   rw [← hbk] at hcell hbb
   have HB := hide hbk
   clear hbk
   by_cases hup : 65 ≤ (b.toNat : Int) ∧ (b.toNat : Int) ≤ 90
   ·have hlow := low_toNat b hup
    have hset := hby.set_ hlt' (low b)
    rw [hlow] at hset
    have HSET := hide (show BytesAt _ _ g (lowTo l (k + 1)) by rw [HB.out, lowTo_set l k hlt, ← HB.out] at hset; exact hset)
    have HBB := hide (Below.setCell hb (p := ⟨g, k, none⟩) hg1 (.int .u8 ((b.toNat : Int) + 32)))
    obtain ⟨hu1, hu2⟩ := hup
    have hw1 : IntKind.u8.wrap ((b.toNat : Int) + 97) = (b.toNat : Int) + 97 := IntWalk.u8_in _ (by omega)
    have hw2 : IntKind.u8.wrap ((b.toNat : Int) + 97 - 65) = (b.toNat : Int) + 32 := by rw [IntWalk.u8_in _ (by omega)]; omega
    have hw3 : (b.toNat : Int) + 97 - 65 = (b.toNat : Int) + 32 := by omega
    clear hset hlow
    go_wp2
    go_roundw
    case rel => exact ⟨k + 1, by omega, by go_num, HSET.out, HBB.out⟩
    case measure => simp [intOf]; omega
   ·have HS2 := hide (lowTo_skip l k hlt (by rw [← HB.out]; exact low_same b hup))
    have hb2 : (b.toNat : Int) < 65 ∨ 90 < (b.toNat : Int) := by omega
    clear hup
    rcases hb2 with hb2 | hb2
    all_goals
     go_wp2
     go_roundw
     case rel => exact ⟨k + 1, by omega, by go_num, HS2.out ▸ hby, hb⟩
     case measure => simp [intOf]; omega
  ·have hkl : k = l.length := by omega
   subst hkl
   have hfin := hby.sl (c := c) (by rw [lowTo_len]; omega) hc2
   rw [lowTo_len] at hfin
   have hconv := run_bts_str (P := Tryz.prog) wr 28 9 5 Tryz.underlying28 Tryz.underlying5 Tryz.underlying9 _ _ _ hfin
   clear hfin
   go_wp2
   go_ret
   refine ⟨ret_str (by simp [lowTo]), hb⟩
theorem gsmall_held {s : ByteArray} {w0 W : World} {g2 g3 : Nat} {u2 u3 : Value} (hs : s.size ≤ 1000000) (h1 : W.cell? ⟨g2, 1, none⟩ = some u2) (h2 : W.cell? ⟨g3, 1, none⟩ = some u3) (h3 : Below w0.heap.size w0 W) :
  Calls Tryz.prog 100 #[.string s] W fun e w' => ∃ t : ByteArray, Hid (t.data.toList = s.data.toList.map low) ∧ e = .returned (.string t) ∧ w'.cell? ⟨g2, 1, none⟩ = some u2 ∧ w'.cell? ⟨g3, 1, none⟩ = some u3 ∧ Below w0.heap.size w0 w' :=
 (gsmall_any s hs W).mono fun _ _ ⟨he, hb⟩ => ⟨_, hide rfl, he, cell_grows hb _ _ h1, cell_grows hb _ _ h2, h3.trans (hb.mono h3.size)⟩
def sameG (a b : Gen) : Bool :=
 if a.1 ≠ b.1 then false else if a.1 = 1 then (if (mailB a.2.1 && mailB b.2.1) = true then mmB a.2.1 b.2.1 else eqF a.2.1 b.2.1) else if a.1 = 2 then eqF a.2.1 b.2.1 else if a.1 = 4 then matchN a.2.2 b.2.2 else if a.1 = 7 then a.2.1 == b.2.1 else false
set_option maxRecDepth 100000 in
set_option maxHeartbeats 4000000 in
theorem gSame_any (k1 k2 : Int) (t1 t2 : ByteArray) (n m : Name) (A B : Option Addr) (c d : Nat) (ht1 : t1.size ≤ 100000) (ht2 : t2.size ≤ 100000) (hn : SmallN n) (hm : SmallN m) (q : Bool)
  (hq : sameG (k1, t1.data.toList, n) (k2, t2.data.toList, m) = q) (w : World) (hmx : Mx w) (h1 : Sl RRdn 1 w (Lt w.heap.size) n [.slice A n.length c]) (h2 : Sl RRdn 1 w (Lt w.heap.size) m [.slice B m.length d]) :
  Calls Tryz.prog 59 #[.agg #[.int .i64 k1, .string t1, .slice A n.length c], .agg #[.int .i64 k2, .string t2, .slice B m.length d]] w fun e w' => e = .returned (.bool q) ∧ Below w.heap.size w w' := by
 have HMX := hide hmx
 have K1 := hide h1
 have K2 := hide h2
 have HN := hide hn
 have HM := hide hm
 have HQ0 := hide hq
 clear hmx h1 h2 hn hm hq
 by_cases hk : k1 = k2
 ·subst hk
  have t0 : (k1 != k1) = false := by simp
  have HQ := hide (show (if k1 = 1 then (if (mailB t1.data.toList && mailB t2.data.toList) = true then mmB t1.data.toList t2.data.toList else eqF t1.data.toList t2.data.toList) else if k1 = 2 then eqF t1.data.toList t2.data.toList else if k1 = 4 then matchN n m else if k1 = 7 then t1.data.toList == t2.data.toList else false) = q by
   rw [← HQ0.out]
   exact (if_neg (fun h : ¬ k1 = k1 => h rfl)).symm)
  obtain ⟨kk, hkk⟩ : ∃ kk, ofK k1 = kk := ⟨_, rfl⟩
  have OF := hide (fun W => of_v k1 kk hkk W)
  obtain ⟨wa, hwa⟩ : ∃ wa, wa = (w.alloc (.cells #[.int .i64 k1, .string t1, .slice A n.length c] 26)).alloc (.cells #[.int .i64 k1, .string t2, .slice B m.length d] 26) := ⟨_, rfl⟩
  have hba : Below w.heap.size w wa := by rw [hwa]; exact ((Below.refl _ _).alloc (Nat.le_refl _) _).alloc (by simp) _
  have hz1 : (w.alloc (.cells #[.int .i64 k1, .string t1, .slice A n.length c] 26)).heap.size = w.heap.size + 1 := by simp
  have y1 : wa.cell? ⟨w.heap.size, 1, none⟩ = some (.string t1) := by rw [hwa, World.cell?_alloc_lt _ _ _ (by simp), World.cell?_alloc_new]; rfl
  have y2 : wa.cell? ⟨w.heap.size + 1, 1, none⟩ = some (.string t2) := by rw [hwa, ← hz1, World.cell?_alloc_new]; rfl
  obtain ⟨g3, hg3⟩ : ∃ g3, g3 = w.heap.size + 1 := ⟨_, rfl⟩
  rw [← hg3] at y2
  have y1d : wa.drew.cell? ⟨w.heap.size, 1, none⟩ = some (.string t1) := y1
  have y2d : wa.drew.cell? ⟨g3, 1, none⟩ = some (.string t2) := y2
  have HBA := hide hba
  have HWA := hide hwa
  have HKK := hide hkk
  have HG3 := hide hg3
  have HY1 := hide y1
  have HY2 := hide y2
  clear hwa hba hkk hg3 hz1 y1 y2 y1d y2d
  by_cases g1 : k1 = 1
  ·have HQ1 := hide (show (if (mailB t1.data.toList && mailB t2.data.toList) = true then mmB t1.data.toList t2.data.toList else eqF t1.data.toList t2.data.toList) = q by rw [← HQ.out, if_pos g1])
   obtain rfl : kk = 0 := by rw [← HKK.out, g1]; rfl
   clear g1
   obtain ⟨p1, hp1⟩ : ∃ p, mailB t1.data.toList = p := ⟨_, rfl⟩
   obtain ⟨p2, hp2⟩ : ∃ p, mailB t2.data.toList = p := ⟨_, rfl⟩
   have HP1 := hide hp1
   have HP2 := hide hp2
   have HQ2 := hide (show (if (p1 && p2) = true then mmB t1.data.toList t2.data.toList else eqF t1.data.toList t2.data.toList) = q by rw [← HQ1.out, hp1, hp2])
   clear hp1 hp2 HQ1
   go_enter Tryz.func59, Tryz.ntmps59
   go_wp2_with fail
   refine (OF.out _).mono ?_
   rintro e w1 ⟨rfl, rfl⟩
   go_upto_region 5 with (fail)
   rw [← HWA.out, ← HG3.out]
   have y1 := HY1.out
   have y2 := HY2.out
   go_wp2_with fail
   refine (hmail_any t1 (by omega) p1 HP1.out _ (HMX.out.below HBA.out)).mono ?_
   rintro e w2 ⟨rfl, hb2⟩
   cases p1
   ·have HQ1 := hide (show eqF t1.data.toList t2.data.toList = q from HQ2.out)
    have HBZ := hide (HBA.out.trans (hb2.mono HBA.out.size))
    obtain ⟨wz, rfl⟩ : ∃ wz : World, wz = w2 := ⟨_, rfl⟩
    have y1 := cell_grows hb2 _ _ y1
    have y2 := cell_grows hb2 _ _ y2
    have y1d : wz.drew.cell? ⟨w.heap.size, 1, none⟩ = some (.string t1) := y1
    have y2d : wz.drew.cell? ⟨g3, 1, none⟩ = some (.string t2) := y2
    have hbz : Below wz.heap.size wz wz := Below.refl _ _
    have hbzd : Below wz.heap.size wz wz.drew := hbz.drew
    clear hb2
    go_upto_region 7 with (fail)
    go_region_held3 (fun W => W.cell? ⟨w.heap.size, 1, none⟩ = some (.string t1) ∧ W.cell? ⟨g3, 1, none⟩ = some (.string t2) ∧ Below wz.heap.size wz W)
     (first | exact ⟨hs1, hs2, hs3⟩ | exact ⟨y1, y2, hbz⟩ | exact ⟨y1d, y2d, hbzd⟩)
     (first
      | (go_at_call 100; (first | (with_reducible refine (gsmall_held (s := t1) (by omega) y1d y2d hbzd).mono ?_) | (with_reducible refine (gsmall_held (s := t1) (by omega) hs1 hs2 hs3).mono ?_) | fail); rintro e w5 ⟨s1, HU1, rfl, hs1, hs2, hs3⟩)
      | (go_at_call 100; (first | (with_reducible refine (gsmall_held (s := t2) (by omega) y1d y2d hbzd).mono ?_) | (with_reducible refine (gsmall_held (s := t2) (by omega) hs1 hs2 hs3).mono ?_) | fail); rintro e w6 ⟨s2, HU2, rfl, hs1, hs2, hs3⟩)
      | fail)
    all_goals
     go_wp2_with fail
     go_ret
     exact ⟨ret_bool (by rw [str_beq, HU1.out, HU2.out, ← HQ1.out]; rfl), HBZ.out.trans (hs3.mono HBZ.out.size)⟩
   ·have y1 := cell_grows hb2 _ _ y1
    have y2 := cell_grows hb2 _ _ y2
    have HB2 := hide (HBA.out.trans (hb2.mono HBA.out.size))
    clear hb2
    go_wp2_with fail
    refine (hmail_any t2 (by omega) p2 HP2.out _ (HMX.out.below HB2.out)).mono ?_
    rintro e w3 ⟨rfl, hb3⟩
    have y1 := cell_grows hb3 _ _ y1
    have y2 := cell_grows hb3 _ _ y2
    have HB3 := hide (HB2.out.trans (hb3.mono HB2.out.size))
    clear hb3
    cases p2
    ·have HQ1 := hide (show eqF t1.data.toList t2.data.toList = q from HQ2.out)
     have HBZ := hide HB3.out
     obtain ⟨wz, rfl⟩ : ∃ wz : World, wz = w3 := ⟨_, rfl⟩
     have y1d : wz.drew.cell? ⟨w.heap.size, 1, none⟩ = some (.string t1) := y1
     have y2d : wz.drew.cell? ⟨g3, 1, none⟩ = some (.string t2) := y2
     have hbz : Below wz.heap.size wz wz := Below.refl _ _
     have hbzd : Below wz.heap.size wz wz.drew := hbz.drew
     go_upto_region 7 with (fail)
     go_region_held3 (fun W => W.cell? ⟨w.heap.size, 1, none⟩ = some (.string t1) ∧ W.cell? ⟨g3, 1, none⟩ = some (.string t2) ∧ Below wz.heap.size wz W)
      (first | exact ⟨hs1, hs2, hs3⟩ | exact ⟨y1, y2, hbz⟩ | exact ⟨y1d, y2d, hbzd⟩)
      (first
       | (go_at_call 100; (first | (with_reducible refine (gsmall_held (s := t1) (by omega) y1d y2d hbzd).mono ?_) | (with_reducible refine (gsmall_held (s := t1) (by omega) hs1 hs2 hs3).mono ?_) | fail); rintro e w5 ⟨s1, HU1, rfl, hs1, hs2, hs3⟩)
       | (go_at_call 100; (first | (with_reducible refine (gsmall_held (s := t2) (by omega) y1d y2d hbzd).mono ?_) | (with_reducible refine (gsmall_held (s := t2) (by omega) hs1 hs2 hs3).mono ?_) | fail); rintro e w6 ⟨s2, HU2, rfl, hs1, hs2, hs3⟩)
       | fail)
     all_goals
      go_wp2_with fail
      go_ret
      exact ⟨ret_bool (by rw [str_beq, HU1.out, HU2.out, ← HQ1.out]; rfl), HBZ.out.trans (hs3.mono HBZ.out.size)⟩
    ·have HQ1 := hide (show mmB t1.data.toList t2.data.toList = q from HQ2.out)
     go_wp2_with fail
     refine (hmm_any t1 t2 (by omega) (by omega) q HQ1.out _ (HMX.out.below HB3.out)).mono ?_
     rintro e w4 ⟨rfl, hb4⟩
     have HB4 := hide (HB3.out.trans (hb4.mono HB3.out.size))
     clear hb4
     go_wp2_with fail
     go_ret
     exact ⟨rfl, HB4.out⟩
  ·by_cases g2 : k1 = 2
   ·have HQ1 := hide (show eqF t1.data.toList t2.data.toList = q by rw [← HQ.out, if_neg g1, if_pos g2])
    obtain rfl : kk = 1 := by rw [← HKK.out, g2]; rfl
    clear g1 g2
    go_enter Tryz.func59, Tryz.ntmps59
    go_wp2_with fail
    refine (OF.out _).mono ?_
    rintro e w1 ⟨rfl, rfl⟩
    have y1 := HY1.out
    have y2 := HY2.out
    have y1d : wa.drew.cell? ⟨w.heap.size, 1, none⟩ = some (.string t1) := y1
    have y2d : wa.drew.cell? ⟨g3, 1, none⟩ = some (.string t2) := y2
    have hbz : Below wa.heap.size wa wa := Below.refl _ _
    have hbzd : Below wa.heap.size wa wa.drew := hbz.drew
    have HBZ := hide HBA.out
    go_upto_region 9 with (fail)
    rw [← HWA.out, ← HG3.out]
    obtain ⟨wz, hwz⟩ : ∃ wz : World, wz = wa := ⟨_, rfl⟩
    rw [← hwz] at y1 y2 y1d y2d hbz hbzd HBZ ⊢
    clear hwz
    go_region_held3 (fun W => W.cell? ⟨w.heap.size, 1, none⟩ = some (.string t1) ∧ W.cell? ⟨g3, 1, none⟩ = some (.string t2) ∧ Below wz.heap.size wz W)
     (first | exact ⟨hs1, hs2, hs3⟩ | exact ⟨y1, y2, hbz⟩ | exact ⟨y1d, y2d, hbzd⟩)
     (first
      | (go_at_call 100; (first | (with_reducible refine (gsmall_held (s := t1) (by omega) y1d y2d hbzd).mono ?_) | (with_reducible refine (gsmall_held (s := t1) (by omega) hs1 hs2 hs3).mono ?_) | fail); rintro e w5 ⟨s1, HU1, rfl, hs1, hs2, hs3⟩)
      | (go_at_call 100; (first | (with_reducible refine (gsmall_held (s := t2) (by omega) y1d y2d hbzd).mono ?_) | (with_reducible refine (gsmall_held (s := t2) (by omega) hs1 hs2 hs3).mono ?_) | fail); rintro e w6 ⟨s2, HU2, rfl, hs1, hs2, hs3⟩)
      | fail)
    all_goals
     go_wp2_with fail
     go_ret
     exact ⟨ret_bool (by rw [str_beq, HU1.out, HU2.out, ← HQ1.out]; rfl), HBZ.out.trans (hs3.mono HBZ.out.size)⟩
   ·by_cases g4 : k1 = 4
    ·have HQ1 := hide (show matchN n m = q by rw [← HQ.out, if_neg g1, if_neg g2, if_pos g4])
     obtain rfl : kk = 2 := by rw [← HKK.out, g4]; rfl
     clear g1 g2 g4
     go_enter Tryz.func59, Tryz.ntmps59
     go_wp2_with fail
     refine (OF.out _).mono ?_
     rintro e w1 ⟨rfl, rfl⟩
     go_wp2_with fail
     rw [← HWA.out]
     refine (HQ1.out ▸ MatchN_any n m A B c d _ ((Sl.ok RRdn.ok).below K1.out HBA.out) ((Sl.ok RRdn.ok).below K2.out HBA.out) HN.out HM.out).mono ?_
     rintro e w2 ⟨rfl, hb2⟩
     go_wp2_with fail
     go_ret
     exact ⟨rfl, HBA.out.trans (hb2.mono HBA.out.size)⟩
    ·by_cases g7 : k1 = 7
     ·have HQ1 := hide (show (t1.data.toList == t2.data.toList) = q by rw [← HQ.out, if_neg g1, if_neg g2, if_neg g4, if_pos g7])
      obtain rfl : kk = 3 := by rw [← HKK.out, g7]; rfl
      clear g1 g2 g4 g7
      go_enter Tryz.func59, Tryz.ntmps59
      go_wp2_with fail
      refine (OF.out _).mono ?_
      rintro e w1 ⟨rfl, rfl⟩
      go_wp2_with fail
      go_ret
      exact ⟨ret_bool (by rw [str_beq]; exact HQ1.out), HWA.out ▸ HBA.out⟩
     ·have HQ1 := hide (show false = q by rw [← HQ.out, if_neg g1, if_neg g2, if_neg g4, if_neg g7])
      obtain rfl : kk = 4 := by rw [← HKK.out, ofK, if_neg g1, if_neg g2, if_neg g4, if_neg g7]
      clear g1 g2 g4 g7
      go_enter Tryz.func59, Tryz.ntmps59
      go_wp2_with fail
      refine (OF.out _).mono ?_
      rintro e w1 ⟨rfl, rfl⟩
      go_wp2_with fail
      go_ret
      exact ⟨ret_bool HQ1.out, HWA.out ▸ HBA.out⟩
 ·have t0 : (k1 != k2) = true := by rw [bne_iff_ne]; exact hk
  have HQ1 := hide (show false = q by rw [← HQ0.out, sameG, if_pos hk])
  clear hk
  go_enter Tryz.func59, Tryz.ntmps59
  go_wp2_with fail
  go_ret
  exact ⟨ret_bool HQ1.out, ((Below.refl _ _).alloc (Nat.le_refl _) _).alloc (by simp) _⟩
end Go.Proofs.YtmgnihmjjijdoaaGreatDoor
namespace Go.Proofs.YtmgnihmjjijdoaaGreatDoor
open Go.RowKit
end Go.Proofs.YtmgnihmjjijdoaaGreatDoor
