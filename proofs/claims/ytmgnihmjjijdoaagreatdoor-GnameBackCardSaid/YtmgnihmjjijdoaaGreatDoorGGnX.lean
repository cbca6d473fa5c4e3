/- DNSMatch, Match: the program's and the reference's. -/
import Derived.Test.YtmgnihmjjijdoaaGreatDoorGHosF
import Derived.Test.YtmgnihmjjijdoaaGreatDoorGRefD
import Derived.Deep.RegionHeld3
import Derived.Test.YtmgnihmjjijdoaaGreatDoorGGnP
import Derived.Test.YtmgnihmjjijdoaaGreatDoorGnI
import Derived.Test.YtmgnihmjjijdoaaGreatDoorGRefF
namespace Go.Proofs.YtmgnihmjjijdoaaGreatDoor
open Go.RowKit
def dmB (p s : List UInt8) : Bool := patB p && dnsB s && (eqF p s || (Lib.hasPrefix p [42, 46] && (Lib.cut s [46]).2.2 && eqF (Lib.cut s [46]).2.1 (p.drop 2)))
set_option maxHeartbeats 4000000 in
theorem hdm_any (p s : ByteArray) (hp : p.size ≤ 100000) (hs : s.size ≤ 100000) (q : Bool) (hq : dmB p.data.toList s.data.toList = q) (w : World) (hmx : Mx w) :
  Calls Tryz.prog 58 #[.string p, .string s] w fun e w' => e = .returned (.bool q) ∧ Below w.heap.size w w' := by
 obtain ⟨p1, hp1⟩ : ∃ x, patB p.data.toList = x := ⟨_, rfl⟩
 obtain ⟨p2, hp2⟩ : ∃ x, dnsB s.data.toList = x := ⟨_, rfl⟩
 obtain ⟨p3, hp3⟩ : ∃ x, eqF p.data.toList s.data.toList = x := ⟨_, rfl⟩
 obtain ⟨p4, hp4⟩ : ∃ x, Lib.hasPrefix p.data.toList [42, 46] = x := ⟨_, rfl⟩
 obtain ⟨rs, hrs⟩ : ∃ rs : ByteArray, rs = ⟨(Lib.trimPrefix p.data.toList [42, 46]).toArray⟩ := ⟨_, rfl⟩
 have CP := hide (fun W => hrs ▸ hp4 ▸ Tryz.strings_CutPrefix p ⟨#[42, 46]⟩ W)
 obtain ⟨a, ha⟩ : ∃ a : ByteArray, a.data.toList = (Lib.cut s.data.toList [46]).1 := ⟨⟨(Lib.cut s.data.toList [46]).1.toArray⟩, rfl⟩
 obtain ⟨b, hb⟩ : ∃ b : ByteArray, b.data.toList = (Lib.cut s.data.toList [46]).2.1 := ⟨⟨(Lib.cut s.data.toList [46]).2.1.toArray⟩, rfl⟩
 obtain ⟨f, hf⟩ : ∃ f, (Lib.cut s.data.toList [46]).2.2 = f := ⟨_, rfl⟩
 have hbs : b.size ≤ s.size := by
  rw [← size_string, ← size_string, hb]
  unfold Lib.cut
  split <;> simp
 have CT := hide (fun W hm => cut_v s (by omega) 46 W hm a b f ha hb hf)
 have hrz : rs.size ≤ 1000000 := by
  have : rs.data.toList = Lib.trimPrefix p.data.toList [42, 46] := by rw [hrs]
  rw [← size_string, this, Lib.trimPrefix]
  have := size_string p
  split
  ·rw [List.length_drop]; omega
  ·omega
 have hr2 : p4 = true → rs.data.toList = p.data.toList.drop 2 := fun h => by
  rw [hrs]
  show Lib.trimPrefix p.data.toList [42, 46] = _
  rw [Lib.trimPrefix, if_pos (hp4.trans h)]; rfl
 have HR2 := hide hr2
 have HN := hide (show (p1 && p2 && (p3 || (p4 && f && eqF b.data.toList (p.data.toList.drop 2)))) = q by rw [← hq, dmB, hp1, hp2, hp3, hp4, hf, hb])
 have HMX := hide hmx
 have HP1 := hide hp1
 have HP2 := hide hp2
 have HP3 := hide hp3
 clear hq hp1 hp2 hp3 hp4 hrs ha hb hf hmx hr2
 go_enter Tryz.func58, Tryz.ntmps58
 go_wp2_with fail
 refine (hpat_any p (by omega) p1 HP1.out _ HMX.out).mono ?_
 rintro e w1 ⟨rfl, hb1⟩
 have HB1 := hide hb1
 clear hb1
 cases p1
 ·have HN9 := hide (show false = q from HN.out)
  go_wp2_with fail
  go_ret
  exact ⟨ret_bool HN9.out, HB1.out⟩
 ·go_wp2_with fail
  refine (hdns_any s (by omega) p2 HP2.out _ (HMX.out.below HB1.out)).mono ?_
  rintro e w2 ⟨rfl, hb2⟩
  have HB2 := hide (HB1.out.trans (hb2.mono HB1.out.size))
  clear hb2
  cases p2
  ·have HN9 := hide (show false = q from HN.out)
   go_wp2_with fail
   go_ret
   exact ⟨ret_bool HN9.out, HB2.out⟩
  ·go_wp2_with fail
   refine (hequal_any p s (by omega) (by omega) p3 HP3.out _).mono ?_
   rintro e w3 ⟨rfl, hb3⟩
   have HB3 := hide (HB2.out.trans (hb3.mono HB2.out.size))
   clear hb3
   cases p3
   ·go_wp2_with fail
    refine (CP.out _).mono ?_
    rintro e w4 ⟨rfl, rfl⟩
    go_wp2_with fail
    refine (CT.out _ (HMX.out.below HB3.out)).mono ?_
    rintro e w5 ⟨rfl, nn, hw5⟩
    have HB5 := hide (show Below w.heap.size w w5 by rw [hw5]; exact below_drewN HB3.out nn)
    clear hw5
    cases p4
    ·have HN9 := hide (show false = q from (show (true && true && (false || (false && f && eqF b.data.toList (p.data.toList.drop 2)))) = q from HN.out) ▸ (by simp))
     go_wp2_with fail
     go_ret
     exact ⟨ret_bool HN9.out, HB5.out⟩
    ·cases f
     ·have HN9 := hide (show false = q from (show (true && true && (false || (true && false && eqF b.data.toList (p.data.toList.drop 2)))) = q from HN.out) ▸ (by simp))
      go_wp2_with fail
      go_ret
      exact ⟨ret_bool HN9.out, HB5.out⟩
     ·have HE := hide (show eqF b.data.toList rs.data.toList = q by rw [HR2.out rfl]; exact HN.out)
      go_wp2_with fail
      refine (hequal_any b rs (by omega) hrz q HE.out _).mono ?_
      rintro e w6 ⟨rfl, hb6⟩
      have HB6 := hide (HB5.out.trans (hb6.mono HB5.out.size))
      clear hb6
      go_wp2_with fail
      go_ret
      exact ⟨rfl, HB6.out⟩
   ·have HE := hide (show true = q from HN.out)
    go_wp2_with fail
    go_ret
    exact ⟨ret_bool HE.out, HB3.out⟩
end Go.Proofs.YtmgnihmjjijdoaaGreatDoor
namespace Go.Proofs.YtmgnihmjjijdoaaGreatDoor
open Go.RowKit
end Go.Proofs.YtmgnihmjjijdoaaGreatDoor
namespace Go.Proofs.YtmgnihmjjijdoaaGreatDoor
open Go.RowKit
set_option maxRecDepth 100000 in
set_option maxHeartbeats 4000000 in
theorem rgSame_any (k1 k2 : Int) (t1 t2 : ByteArray) (n m : Name) (A B : Option Addr) (c d : Nat) (ht1 : t1.size ≤ 100000) (ht2 : t2.size ≤ 100000) (hn : SmallN n) (hm : SmallN m) (q : Bool)
  (hq : sameG (k1, t1.data.toList, n) (k2, t2.data.toList, m) = q) (w : World) (h1 : Sl RRdn 1 w (Lt w.heap.size) n [.slice A n.length c]) (h2 : Sl RRdn 1 w (Lt w.heap.size) m [.slice B m.length d]) :
  Calls Tryz.prog 20 #[.agg #[.int .i64 k1, .string t1, .slice A n.length c], .agg #[.int .i64 k2, .string t2, .slice B m.length d]] w fun e w' => e = .returned (.bool q) ∧ Below w.heap.size w w' := by
 have K1 := hide h1
 have K2 := hide h2
 have HN := hide hn
 have HM := hide hm
 have HQ0 := hide hq
 clear h1 h2 hn hm hq
 by_cases hk : k1 = k2
 ·subst hk
  have t0 : (k1 != k1) = false := by simp
  have HQ := hide (show (if k1 = 1 then (if (mailB t1.data.toList && mailB t2.data.toList) = true then mmB t1.data.toList t2.data.toList else eqF t1.data.toList t2.data.toList) else if k1 = 2 then eqF t1.data.toList t2.data.toList else if k1 = 4 then matchN n m else if k1 = 7 then t1.data.toList == t2.data.toList else false) = q by
   rw [← HQ0.out]
   exact (if_neg (fun h : ¬ k1 = k1 => h rfl)).symm)
  obtain ⟨wa, hwa⟩ : ∃ wa, wa = (w.alloc (.cells #[.int .i64 k1, .string t1, .slice A n.length c] 26)).alloc (.cells #[.int .i64 k1, .string t2, .slice B m.length d] 26) := ⟨_, rfl⟩
  have hba : Below w.heap.size w wa := by rw [hwa]; exact ((Below.refl _ _).alloc (Nat.le_refl _) _).alloc (by simp) _
  have hz1 : (w.alloc (.cells #[.int .i64 k1, .string t1, .slice A n.length c] 26)).heap.size = w.heap.size + 1 := by simp
  have y1 : wa.cell? ⟨w.heap.size, 1, none⟩ = some (.string t1) := by rw [hwa, World.cell?_alloc_lt _ _ _ (by simp), World.cell?_alloc_new]; rfl
  have y2 : wa.cell? ⟨w.heap.size + 1, 1, none⟩ = some (.string t2) := by rw [hwa, ← hz1, World.cell?_alloc_new]; rfl
  obtain ⟨g3, hg3⟩ : ∃ g3, g3 = w.heap.size + 1 := ⟨_, rfl⟩
  rw [← hg3] at y2
  have HBA := hide hba
  have HWA := hide hwa
  have HG3 := hide hg3
  clear hwa hba hz1 hg3
  by_cases g1 : k1 = 1
  ·subst g1
   have HQ1 := hide (show (if (mailB t1.data.toList && mailB t2.data.toList) = true then mmB t1.data.toList t2.data.toList else eqF t1.data.toList t2.data.toList) = q by rw [← HQ.out, if_pos rfl])
   obtain ⟨p1, hp1⟩ : ∃ p, mailB t1.data.toList = p := ⟨_, rfl⟩
   obtain ⟨p2, hp2⟩ : ∃ p, mailB t2.data.toList = p := ⟨_, rfl⟩
   have HP1 := hide hp1
   have HP2 := hide hp2
   have HQ2 := hide (show (if (p1 && p2) = true then mmB t1.data.toList t2.data.toList else eqF t1.data.toList t2.data.toList) = q by rw [← HQ1.out, hp1, hp2])
   have Y1 := hide y1
   have Y2 := hide y2
   clear hp1 hp2 HQ1 y1 y2
   go_enter Tryz.func20, Tryz.ntmps20
   go_wp2_with fail
   rw [← HWA.out, ← HG3.out]
   refine (rmail_any t1 (by omega) p1 HP1.out _).mono ?_
   rintro e w2 ⟨rfl, hb2⟩
   have y1 := cell_grows hb2 _ _ Y1.out
   have y2 := cell_grows hb2 _ _ Y2.out
   have HB2 := hide (HBA.out.trans (hb2.mono HBA.out.size))
   clear hb2
   cases p1
   ·have HQ1 := hide (show eqF t1.data.toList t2.data.toList = q from HQ2.out)
    go_wp2_with fail
    refine (ralike_any t1 t2 (by omega) (by omega) q HQ1.out _).mono ?_
    rintro e w3 ⟨rfl, hb3⟩
    have HB3 := hide (HB2.out.trans (hb3.mono HB2.out.size))
    clear hb3
    go_wp2_with fail
    go_ret
    exact ⟨rfl, HB3.out⟩
   ·go_wp2_with fail
    refine (rmail_any t2 (by omega) p2 HP2.out _).mono ?_
    rintro e w3 ⟨rfl, hb3⟩
    have y1 := cell_grows hb3 _ _ y1
    have y2 := cell_grows hb3 _ _ y2
    have HB3 := hide (HB2.out.trans (hb3.mono HB2.out.size))
    clear hb3
    cases p2
    ·have HQ1 := hide (show eqF t1.data.toList t2.data.toList = q from HQ2.out)
     go_wp2_with fail
     refine (ralike_any t1 t2 (by omega) (by omega) q HQ1.out _).mono ?_
     rintro e w4 ⟨rfl, hb4⟩
     have HB4 := hide (HB3.out.trans (hb4.mono HB3.out.size))
     clear hb4
     go_wp2_with fail
     go_ret
     exact ⟨rfl, HB4.out⟩
    ·have HQ1 := hide (show mmB t1.data.toList t2.data.toList = q from HQ2.out)
     go_wp2_with fail
     refine (rmm_any t1 t2 (by omega) (by omega) q HQ1.out _).mono ?_
     rintro e w4 ⟨rfl, hb4⟩
     have HB4 := hide (HB3.out.trans (hb4.mono HB3.out.size))
     clear hb4
     go_wp2_with fail
     go_ret
     exact ⟨rfl, HB4.out⟩
  ·by_cases g2 : k1 = 2
   ·subst g2
    have HQ1 := hide (show eqF t1.data.toList t2.data.toList = q by rw [← HQ.out, if_neg (by decide), if_pos rfl])
    clear y1 y2
    go_enter Tryz.func20, Tryz.ntmps20
    go_wp2_with fail
    rw [← HWA.out]
    refine (ralike_any t1 t2 (by omega) (by omega) q HQ1.out _).mono ?_
    rintro e w2 ⟨rfl, hb2⟩
    go_wp2_with fail
    go_ret
    exact ⟨rfl, HBA.out.trans (hb2.mono HBA.out.size)⟩
   ·by_cases g4 : k1 = 4
    ·subst g4
     have HQ1 := hide (show matchN n m = q by rw [← HQ.out, if_neg (by decide), if_neg (by decide), if_pos rfl])
     clear y1 y2
     go_enter Tryz.func20, Tryz.ntmps20
     go_wp2_with fail
     rw [← HWA.out]
     refine (HQ1.out ▸ rMatchN_any n m A B c d _ ((Sl.ok RRdn.ok).below K1.out HBA.out) ((Sl.ok RRdn.ok).below K2.out HBA.out) HN.out HM.out).mono ?_
     rintro e w2 ⟨rfl, hb2⟩
     go_wp2_with fail
     go_ret
     exact ⟨rfl, HBA.out.trans (hb2.mono HBA.out.size)⟩
    ·by_cases g7 : k1 = 7
     ·subst g7
      have HQ1 := hide (show (t1.data.toList == t2.data.toList) = q by rw [← HQ.out, if_neg (by decide), if_neg (by decide), if_neg (by decide), if_pos rfl])
      clear y1 y2
      go_enter Tryz.func20, Tryz.ntmps20
      go_wp2_with fail
      go_ret
      exact ⟨ret_bool (by rw [str_beq]; exact HQ1.out), HWA.out ▸ HBA.out⟩
     ·have HQ1 := hide (show false = q by rw [← HQ.out, if_neg g1, if_neg g2, if_neg g4, if_neg g7])
      have e1 : (k1 == 1) = false := by simpa using g1
      have e2 : (k1 == 2) = false := by simpa using g2
      have e4 : (k1 == 4) = false := by simpa using g4
      have e7 : (k1 == 7) = false := by simpa using g7
      clear g1 g2 g4 g7 y1 y2
      go_enter Tryz.func20, Tryz.ntmps20
      go_wp2_with fail
      go_ret
      exact ⟨ret_bool HQ1.out, HWA.out ▸ HBA.out⟩
 ·have t0 : (k1 != k2) = true := by rw [bne_iff_ne]; exact hk
  have HQ1 := hide (show false = q by rw [← HQ0.out, sameG, if_pos hk])
  clear hk
  go_enter Tryz.func20, Tryz.ntmps20
  go_wp2_with fail
  go_ret
  exact ⟨ret_bool HQ1.out, ((Below.refl _ _).alloc (Nat.le_refl _) _).alloc (by simp) _⟩
end Go.Proofs.YtmgnihmjjijdoaaGreatDoor
namespace Go.Proofs.YtmgnihmjjijdoaaGreatDoor
open Go.RowKit
def matchG (a b : Gen) : Bool := if a.1 = 2 ∧ b.1 = 2 then dmB a.2.1 b.2.1 else sameG a b
set_option maxRecDepth 100000 in
set_option maxHeartbeats 4000000 in
theorem gMatch_any (k1 k2 : Int) (t1 t2 : ByteArray) (n m : Name) (A B : Option Addr) (c d : Nat) (ht1 : t1.size ≤ 100000) (ht2 : t2.size ≤ 100000) (hn : SmallN n) (hm : SmallN m) (q : Bool)
  (hq : matchG (k1, t1.data.toList, n) (k2, t2.data.toList, m) = q) (w : World) (hmx : Mx w) (h1 : Sl RRdn 1 w (Lt w.heap.size) n [.slice A n.length c]) (h2 : Sl RRdn 1 w (Lt w.heap.size) m [.slice B m.length d]) :
  Calls Tryz.prog 24 #[.agg #[.int .i64 k1, .string t1, .slice A n.length c], .agg #[.int .i64 k2, .string t2, .slice B m.length d]] w fun e w' => e = .returned (.bool q) ∧ Below w.heap.size w w' := by
 have K1 := hide h1
 have K2 := hide h2
 have HQ0 := hide hq
 obtain ⟨wa, hwa⟩ : ∃ wa, wa = (w.alloc (.cells #[.int .i64 k1, .string t1, .slice A n.length c] 26)).alloc (.cells #[.int .i64 k2, .string t2, .slice B m.length d] 26) := ⟨_, rfl⟩
 have hz1 : (w.alloc (.cells #[.int .i64 k1, .string t1, .slice A n.length c] 26)).heap.size = w.heap.size + 1 := by simp
 have hga : GB w.heap.size k1 t1 (.slice A n.length c) wa := by
  unfold GB
  rw [hwa, Below.heap_alloc _ _ _ (by simp)]
  exact heap_alloc_new w _
 have hgb : GB (w.heap.size + 1) k2 t2 (.slice B m.length d) wa := by
  unfold GB
  rw [hwa, ← hz1]
  exact heap_alloc_new _ _
 have hba : Below w.heap.size w wa := by rw [hwa]; exact ((Below.refl _ _).alloc (Nat.le_refl _) _).alloc (by simp) _
 obtain ⟨g3, hg3⟩ : ∃ g3, g3 = w.heap.size + 1 := ⟨_, rfl⟩
 rw [← hg3] at hgb
 obtain ⟨a0, a1, a2, -, -, -⟩ := hga.facts
 obtain ⟨b0, b1, b2, -, -, -⟩ := hgb.facts
 have HBA := hide hba
 have HWA := hide hwa
 have HG3 := hide hg3
 have DM := hide (fun h => hdm_any t1 t2 ht1 ht2 q h wa (hmx.below hba))
 have SA := hide (fun h => gSame_any k1 k2 t1 t2 n m A B c d ht1 ht2 hn hm q h wa (hmx.below hba) ((Sl.ok RRdn.ok).below h1 hba) ((Sl.ok RRdn.ok).below h2 hba))
 clear h1 h2 hq hwa hz1 hga hgb hba hg3
 by_cases e1 : k1 = 2
 ·by_cases e2 : k2 = 2
  ·have HQ := hide (show dmB t1.data.toList t2.data.toList = q by rw [← HQ0.out, matchG, if_pos ⟨e1, e2⟩])
   have t0 : (k1 == 2) = true := by simpa using e1
   have t1' : (k2 == 2) = true := by simpa using e2
   clear e1 e2
   go_enter Tryz.func24, Tryz.ntmps24
   go_upto_region 1 with (fail)
   rw [← HWA.out, ← HG3.out]
   go_wp2_with fail
   refine (DM.out HQ.out).mono ?_
   rintro e w2 ⟨rfl, hb2⟩
   go_wp2_with fail
   go_ret
   exact ⟨rfl, HBA.out.trans (hb2.mono HBA.out.size)⟩
  ·have HQ := hide (show sameG (k1, t1.data.toList, n) (k2, t2.data.toList, m) = q by rw [← HQ0.out, matchG, if_neg (fun h => e2 h.2)])
   have t0 : (k1 == 2) = true := by simpa using e1
   have t1' : (k2 == 2) = false := by simpa using e2
   clear e1 e2
   go_enter Tryz.func24, Tryz.ntmps24
   go_upto_region 1 with (fail)
   rw [← HWA.out, ← HG3.out]
   go_wp2_with fail
   refine (SA.out HQ.out).mono ?_
   rintro e w2 ⟨rfl, hb2⟩
   go_wp2_with fail
   go_ret
   exact ⟨rfl, HBA.out.trans (hb2.mono HBA.out.size)⟩
 ·have HQ := hide (show sameG (k1, t1.data.toList, n) (k2, t2.data.toList, m) = q by rw [← HQ0.out, matchG, if_neg (fun h => e1 h.1)])
  have t0 : (k1 == 2) = false := by simpa using e1
  clear e1
  go_enter Tryz.func24, Tryz.ntmps24
  go_upto_region 1 with (fail)
  rw [← HWA.out, ← HG3.out]
  go_wp2_with fail
  refine (SA.out HQ.out).mono ?_
  rintro e w2 ⟨rfl, hb2⟩
  go_wp2_with fail
  go_ret
  exact ⟨rfl, HBA.out.trans (hb2.mono HBA.out.size)⟩
end Go.Proofs.YtmgnihmjjijdoaaGreatDoor
