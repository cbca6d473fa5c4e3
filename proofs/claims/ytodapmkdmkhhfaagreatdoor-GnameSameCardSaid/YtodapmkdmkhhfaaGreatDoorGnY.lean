/- The functions Match of package gname and MatchGeneral of the reference. -/
import Derived.Test.YtodapmkdmkhhfaaGreatDoorGnX
import Derived.Test.YtodapmkdmkhhfaaGreatDoorRefN
namespace Go.Proofs.YtodapmkdmkhhfaaGreatDoor
open Go.RowKit

def matchG (a b : Gen) : Bool := if a.1 = 2 ∧ b.1 = 2 then dmB a.2.1 b.2.1 else sameG a b
set_option maxRecDepth 100000 in
set_option maxHeartbeats 4000000 in
theorem gMatch_any (k1 k2 : Int) (t1 t2 : ByteArray) (n m : Name) (A B : Option Addr) (c d : Nat) (ht1 : t1.size ≤ 100000) (ht2 : t2.size ≤ 100000) (hn : SmallN n) (hm : SmallN m) (q : Bool)
    (hq : matchG (k1, t1.data.toList, n) (k2, t2.data.toList, m) = q) (w : World) (hmx : Mx w) (h1 : Sl RRdn 1 w (Lt w.heap.size) n [.slice A n.length c]) (h2 : Sl RRdn 1 w (Lt w.heap.size) m [.slice B m.length d]) :
    Calls Tryz.prog 35 #[.agg #[.int .i64 k1, .string t1, .slice A n.length c], .agg #[.int .i64 k2, .string t2, .slice B m.length d]] w fun e w' => e = .returned (.bool q) ∧ Below w.heap.size w w' := by
  have K1 := hide h1
  have K2 := hide h2
  have HQ0 := hide hq
  obtain ⟨wa, hwa⟩ : ∃ wa, wa = (w.alloc (.cells #[.int .i64 k1, .string t1, .slice A n.length c] 32)).alloc (.cells #[.int .i64 k2, .string t2, .slice B m.length d] 32) := ⟨_, rfl⟩
  have hz1 : (w.alloc (.cells #[.int .i64 k1, .string t1, .slice A n.length c] 32)).heap.size = w.heap.size + 1 := by simp
  have hga : GB w.heap.size k1 t1 (.slice A n.length c) wa := by
    unfold GB
    rw [hwa, Below.heap_alloc _ _ _ (by simp)]
    exact heap_alloc_new w _
  have hgb : GB (w.heap.size + 1) k2 t2 (.slice B m.length d) wa := by
    unfold GB
    rw [hwa, ← hz1]
    exact heap_alloc_new _ _
  have hba : Below w.heap.size w wa := by rw [hwa]; exact ((Below.refl _ _).alloc (Nat.le_refl _) _).alloc (by simp) _
  obtain ⟨g3, hg3⟩ : ∃ g3, g3 = w.heap.size + 1 := ⟨_, rfl⟩
  rw [← hg3] at hgb
  obtain ⟨a0, a1, a2, -, -, -⟩ := hga.facts
  obtain ⟨b0, b1, b2, -, -, -⟩ := hgb.facts
  have HBA := hide hba
  have HWA := hide hwa
  have HG3 := hide hg3
  have DM := hide (fun h => hdm_any t1 t2 ht1 ht2 q h wa (hmx.below hba))
  have SA := hide (fun h => gSame_any k1 k2 t1 t2 n m A B c d ht1 ht2 hn hm q h wa (hmx.below hba) ((Sl.ok RRdn.ok).below h1 hba) ((Sl.ok RRdn.ok).below h2 hba))
  clear h1 h2 hq hwa hz1 hga hgb hba hg3
  by_cases e1 : k1 = 2
  · by_cases e2 : k2 = 2
    · have HQ := hide (show dmB t1.data.toList t2.data.toList = q by rw [← HQ0.out, matchG, if_pos ⟨e1, e2⟩])
      have t0 : (k1 == 2) = true := by simpa using e1
      have t1' : (k2 == 2) = true := by simpa using e2
      clear e1 e2
      go_enter Tryz.func35, Tryz.ntmps35
      go_upto_region 1 with (fail)
      rw [← HWA.out, ← HG3.out]
      go_wp2_with fail
      refine (DM.out HQ.out).mono ?_
      rintro e w2 ⟨rfl, hb2⟩
      go_wp2_with fail
      go_ret
      exact ⟨rfl, HBA.out.trans (hb2.mono HBA.out.size)⟩
    · have HQ := hide (show sameG (k1, t1.data.toList, n) (k2, t2.data.toList, m) = q by rw [← HQ0.out, matchG, if_neg (fun h => e2 h.2)])
      have t0 : (k1 == 2) = true := by simpa using e1
      have t1' : (k2 == 2) = false := by simpa using e2
      clear e1 e2
      go_enter Tryz.func35, Tryz.ntmps35
      go_upto_region 1 with (fail)
      rw [← HWA.out, ← HG3.out]
      go_wp2_with fail
      refine (SA.out HQ.out).mono ?_
      rintro e w2 ⟨rfl, hb2⟩
      go_wp2_with fail
      go_ret
      exact ⟨rfl, HBA.out.trans (hb2.mono HBA.out.size)⟩
  · have HQ := hide (show sameG (k1, t1.data.toList, n) (k2, t2.data.toList, m) = q by rw [← HQ0.out, matchG, if_neg (fun h => e1 h.1)])
    have t0 : (k1 == 2) = false := by simpa using e1
    clear e1
    go_enter Tryz.func35, Tryz.ntmps35
    go_upto_region 1 with (fail)
    rw [← HWA.out, ← HG3.out]
    go_wp2_with fail
    refine (SA.out HQ.out).mono ?_
    rintro e w2 ⟨rfl, hb2⟩
    go_wp2_with fail
    go_ret
    exact ⟨rfl, HBA.out.trans (hb2.mono HBA.out.size)⟩
set_option maxRecDepth 100000 in
set_option maxHeartbeats 4000000 in
theorem rMatchG_any (k1 k2 : Int) (t1 t2 : ByteArray) (n m : Name) (A B : Option Addr) (c d : Nat) (ht1 : t1.size ≤ 100000) (ht2 : t2.size ≤ 100000) (hn : SmallN n) (hm : SmallN m) (q : Bool)
    (hq : matchG (k1, t1.data.toList, n) (k2, t2.data.toList, m) = q) (w : World) (h1 : Sl RRdn 1 w (Lt w.heap.size) n [.slice A n.length c]) (h2 : Sl RRdn 1 w (Lt w.heap.size) m [.slice B m.length d]) :
    Calls Tryz.prog 36 #[.agg #[.int .i64 k1, .string t1, .slice A n.length c], .agg #[.int .i64 k2, .string t2, .slice B m.length d]] w fun e w' => e = .returned (.bool q) ∧ Below w.heap.size w w' := by
  have K1 := hide h1
  have K2 := hide h2
  have HQ0 := hide hq
  obtain ⟨wa, hwa⟩ : ∃ wa, wa = (w.alloc (.cells #[.int .i64 k1, .string t1, .slice A n.length c] 32)).alloc (.cells #[.int .i64 k2, .string t2, .slice B m.length d] 32) := ⟨_, rfl⟩
  have hz1 : (w.alloc (.cells #[.int .i64 k1, .string t1, .slice A n.length c] 32)).heap.size = w.heap.size + 1 := by simp
  have hga : GB w.heap.size k1 t1 (.slice A n.length c) wa := by
    unfold GB
    rw [hwa, Below.heap_alloc _ _ _ (by simp)]
    exact heap_alloc_new w _
  have hgb : GB (w.heap.size + 1) k2 t2 (.slice B m.length d) wa := by
    unfold GB
    rw [hwa, ← hz1]
    exact heap_alloc_new _ _
  have hba : Below w.heap.size w wa := by rw [hwa]; exact ((Below.refl _ _).alloc (Nat.le_refl _) _).alloc (by simp) _
  obtain ⟨g3, hg3⟩ : ∃ g3, g3 = w.heap.size + 1 := ⟨_, rfl⟩
  rw [← hg3] at hgb
  obtain ⟨a0, a1, a2, -, -, -⟩ := hga.facts
  obtain ⟨b0, b1, b2, -, -, -⟩ := hgb.facts
  have HBA := hide hba
  have HWA := hide hwa
  have HG3 := hide hg3
  have DM := hide (fun h => rdm_any t1 t2 ht1 ht2 q h wa)
  have SA := hide (fun h => rgSame_any k1 k2 t1 t2 n m A B c d ht1 ht2 hn hm q h wa ((Sl.ok RRdn.ok).below h1 hba) ((Sl.ok RRdn.ok).below h2 hba))
  clear h1 h2 hq hwa hz1 hga hgb hba hg3
  by_cases e1 : k1 = 2
  · by_cases e2 : k2 = 2
    · have HQ := hide (show dmB t1.data.toList t2.data.toList = q by rw [← HQ0.out, matchG, if_pos ⟨e1, e2⟩])
      have t0 : (k1 == 2) = true := by simpa using e1
      have t1' : (k2 == 2) = true := by simpa using e2
      clear e1 e2
      go_enter Tryz.func36, Tryz.ntmps36
      go_upto_region 1 with (fail)
      rw [← HWA.out, ← HG3.out]
      go_wp2_with fail
      refine (DM.out HQ.out).mono ?_
      rintro e w2 ⟨rfl, hb2⟩
      go_wp2_with fail
      go_ret
      exact ⟨rfl, HBA.out.trans (hb2.mono HBA.out.size)⟩
    · have HQ := hide (show sameG (k1, t1.data.toList, n) (k2, t2.data.toList, m) = q by rw [← HQ0.out, matchG, if_neg (fun h => e2 h.2)])
      have t0 : (k1 == 2) = true := by simpa using e1
      have t1' : (k2 == 2) = false := by simpa using e2
      clear e1 e2
      go_enter Tryz.func36, Tryz.ntmps36
      go_upto_region 1 with (fail)
      rw [← HWA.out, ← HG3.out]
      go_wp2_with fail
      refine (SA.out HQ.out).mono ?_
      rintro e w2 ⟨rfl, hb2⟩
      go_wp2_with fail
      go_ret
      exact ⟨rfl, HBA.out.trans (hb2.mono HBA.out.size)⟩
  · have HQ := hide (show sameG (k1, t1.data.toList, n) (k2, t2.data.toList, m) = q by rw [← HQ0.out, matchG, if_neg (fun h => e1 h.1)])
    have t0 : (k1 == 2) = false := by simpa using e1
    clear e1
    go_enter Tryz.func36, Tryz.ntmps36
    go_upto_region 1 with (fail)
    rw [← HWA.out, ← HG3.out]
    go_wp2_with fail
    refine (SA.out HQ.out).mono ?_
    rintro e w2 ⟨rfl, hb2⟩
    go_wp2_with fail
    go_ret
    exact ⟨rfl, HBA.out.trans (hb2.mono HBA.out.size)⟩
end Go.Proofs.YtodapmkdmkhhfaaGreatDoor
